/- Walks of window.Book: what each call answers, and what the book holds behind it. -/
import Derived.Test.YtkaijdhnnfldkabProg
import Derived.Test.YtkaijdhnnfldkabWMine
import Derived.Maps.OwnSet
import Derived.Maps.Ext
import Derived.Maps.RangeWalk
import Derived.StillTailTactics
import Derived.WalkKit
import Derived.Outline
import Derived.Lib.Hide
import Derived.Test.YtkaijdhnnfldkabWMore
set_option linter.unusedVariables false
set_option linter.unusedSimpArgs false
namespace Go.Proofs.Ytkaijdhnnfldkab.Book
open Go.RowKit Go.Maps Go.Proofs.YtkaijdhnnfldkabW.PrintMore Go.Proofs.YtkaijdhnnfldkabW.PrintWords
attribute [local go_sem] max2_int min2_int max_two min_two max_three min_three max_four min_four

theorem keyed : Keyed Try.prog 29 := int_keyed Try.underlying29
theorem zero3 (w : World) : (zeroValue 3).run Try.prog w = .ok (.int .i64 0) w := by kernel_rfl
theorem wf_u32 {id : Int} (h0 : 0 ≤ id) (h1 : id < 4294967296) : (Lit.int .u32 id).wf = true := by
  simp [Lit.wf, IntKind.min, IntKind.max, IntKind.bits, IntKind.signed]
  omega

/-- The map that reads as D holds just what m says. -/
def Rep (D : DataW Unit) (m : Int → Option Int) : Prop := ∀ id, 0 ≤ id → id < 4294967296 → Maps.has D (.int .u32 id) = (m id).isSome ∧ ∀ v, m id = some v → D.atKey (.int .u32 id) (.lit (.int .i64 0)) = .lit (.int .i64 v)

def upd (m : Int → Option Int) (id v : Int) : Int → Option Int := fun k => if k = id then some v else m k
def del (m : Int → Option Int) (id : Int) : Int → Option Int := fun k => if k = id then none else m k

/-- A book at block g, whose map lies at block b: of at most N entries. -/
structure BookAt (W : World) (g b : Nat) (c f : Int) (m : Int → Option Int) (N : Nat) : Prop where
  cell : W.heap[g]? = some (.cells #[.int .i64 c, .int .i64 f, .map (some b)] 56 (0, 0))
  map : ∃ D : DataW Unit, W.ownsMap Try.prog 29 (plainElem Try.prog 3) b N D ∧ Rep D m
  ne : b ≠ g
  wfc : (Lit.int .i64 c).wf = true
  wff : (Lit.int .i64 f).wf = true

/-- Of what was, only the blocks g and b may have changed. -/
structure Only (w w' : World) (g b : Nat) : Prop where
  os : w'.os = w.os
  tape : w'.tape = w.tape
  output : w'.output = w.output
  size : w.heap.size ≤ w'.heap.size
  block : ∀ k, k < w.heap.size → k ≠ g → k ≠ b → w'.heap[k]? = w.heap[k]?


theorem Only.refl (w : World) (g b : Nat) : Only w w g b := ⟨rfl, rfl, rfl, Nat.le_refl _, fun _ _ _ _ => rfl⟩
theorem Only.grown {w w1 w2 : World} {g b : Nat} (h : Only w w1 g b) {row : Option Nat} (hg : w1.grownBy w2 row) (hr : ∀ k, row = some k → k = g ∨ k = b ∨ w.heap.size ≤ k) : Only w w2 g b :=
  ⟨hg.os.trans h.os, hg.tape.trans h.tape, hg.output.trans h.output, Nat.le_trans h.size hg.size, fun k hk h1 h2 => (hg.block k (Nat.lt_of_lt_of_le hk h.size) (fun e => by rcases hr k e.symm with r | r | r <;> omega)).trans (h.block k hk h1 h2)⟩
theorem Only.drew {w w1 : World} {g b : Nat} (h : Only w w1 g b) : Only w w1.drew g b := ⟨h.os, h.tape, h.output, h.size, h.block⟩
theorem Only.set {w w1 : World} {g b : Nat} (h : Only w w1 g b) {p : Addr} (hp : p.block = g) (u : Value) : Only w (w1.setCell p u) g b := by
  refine ⟨h.os, h.tape, h.output, by simpa using h.size, fun k hk h1 h2 => ?_⟩
  rw [Below.heap_setCell w1 p u k (by rw [hp]; exact h1)]
  exact h.block k hk h1 h2
theorem Only.below {w0 w w' : World} {g b B : Nat} (h : Only w w' g b) (hb : Below B w0 w) (hg : B ≤ g) (hbb : B ≤ b) (hs : B ≤ w.heap.size) : Below B w0 w' :=
  hb.trans ⟨h.os, h.tape, h.output, h.size, fun k hk => h.block k (by omega) (by omega) (by omega)⟩

section
variable {w : World} {g b N : Nat} {c f : Int} {m : Int → Option Int}
theorem BookAt.c0 (h : BookAt w g b c f m N) : w.cell? ⟨g, 0, none⟩ = some (.int .i64 c) := by simp [World.cell?, h.cell]
theorem BookAt.c1 (h : BookAt w g b c f m N) : w.cell? ⟨g, 1, none⟩ = some (.int .i64 f) := by simp [World.cell?, h.cell]
theorem BookAt.c2 (h : BookAt w g b c f m N) : w.cell? ⟨g, 2, none⟩ = some (.map (some b)) := by simp [World.cell?, h.cell]
theorem BookAt.free (h : BookAt w g b c f m N) (j : Nat) : w.frozen? ⟨g, j, none⟩ = false := by simp [World.frozen?, h.cell]
theorem BookAt.lt (h : BookAt w g b c f m N) : g < w.heap.size ∧ b < w.heap.size := by
  obtain ⟨D, hown, _⟩ := h.map
  exact ⟨(Array.getElem?_eq_some_iff.1 h.cell).1, hown.lt⟩
theorem BookAt.kept (h : BookAt w g b c f m N) {w' : World} (hg : w'.heap[g]? = w.heap[g]?) (hb : w'.heap[b]? = w.heap[b]?) : BookAt w' g b c f m N := by
  obtain ⟨D, ⟨es, clock, he, hr⟩, hrep⟩ := h.map
  exact ⟨hg.trans h.cell, ⟨D, ⟨es, clock, hb.trans he, hr⟩, hrep⟩, h.ne, h.wfc, h.wff⟩
theorem BookAt.only (h : BookAt w g b c f m N) {w' : World} {g' b' : Nat} (ho : Only w w' g' b') (h1 : g ≠ g') (h2 : g ≠ b') (h3 : b ≠ g') (h4 : b ≠ b') : BookAt w' g b c f m N :=
  h.kept (ho.block g h.lt.1 h1 h2) (ho.block b h.lt.2 h3 h4)
end

theorem conn_calls {w : World} {g b N : Nat} {c f : Int} {m : Int → Option Int} (h : BookAt w g b c f m N) :
    Calls Try.prog 19 #[.pointer (some ⟨g, 0, none⟩)] w fun e w' => e = .returned (.int .i64 c) ∧ w = w' := by
  have c0 := h.c0
  clear h
  go_enter Try.func19, Try.ntmps19
  go_wp2
  go_ret
  exact ⟨rfl, rfl⟩

theorem of_calls {w : World} {g b N : Nat} {c f : Int} {m : Int → Option Int} (h : BookAt w g b c f m N) (id : Int) (h0 : 0 ≤ id) (h1 : id < 4294967296) :
    Calls Try.prog 20 #[.pointer (some ⟨g, 0, none⟩), .int .u32 id] w fun e w' => e = .returned (.tuple #[.int .i64 ((m id).getD 0), .bool (m id).isSome]) ∧ w = w' := by
  have c2 := h.c2
  obtain ⟨D, hown, hrep⟩ := h.map
  have hkey := keyOf_int_mk Try.underlying29 (wf_u32 h0 h1)
  obtain ⟨r1, r2⟩ := hrep id h0 h1
  have HR1 := Lib.hid r1
  have HR2 := Lib.hid r2
  clear h r1 r2 hrep h0 h1
  go_enter Try.func20, Try.ntmps20
  go_wp2_with (at_lookup; refine wpList_lookup_own_ok_int _ rfl _ _ 54 rfl 29 3 .i64 keyed Try.underlying54 Try.underlying3 (zero3 _) b N D rfl hown _ _ rfl hkey ?_; intro v hat hwv; have HA := Lib.hid hat; clear hat)
  go_ret2
  refine ⟨?_, rfl⟩
  rw [HR1.out]
  cases hm : m id with
  | none =>
    have hz := Maps.atKey_of_not_has (D := D) (k := .int .u32 id) (by rw [HR1.out, hm]; rfl) (.lit (.int .i64 0))
    rw [HA.out] at hz
    obtain rfl : v = 0 := by simpa using hz
    rfl
  | some x =>
    have hz := HR2.out x hm
    rw [HA.out] at hz
    obtain rfl : v = x := by simpa using hz
    rfl

theorem keylit (a : Int) : WideAt.IsKeyLit (.int .u32 a) := by first | trivial | (unfold WideAt.IsKeyLit; trivial) | (unfold WideAt.IsKeyLit; simp)
theorem key_ne {a b : Int} (h : a ≠ b) : (Lit.int .u32 a) ≠ (Lit.int .u32 b) := fun e => h (by injection e)
theorem rep_upd {D : DataW Unit} {m : Int → Option Int} (h : Rep D m) (hD : IsMap D) (id v : Int) : Rep (D.put (.int .u32 id) (.lit (.int .i64 v))) (upd m id v) := by
  intro k h0 h1
  unfold upd
  by_cases hk : k = id
  · subst hk
    rw [if_pos rfl, Maps.has_put_same hD (keylit k)]
    refine ⟨rfl, fun x hx => ?_⟩
    rw [Maps.atKey_put_same hD (keylit k), Option.some.inj hx]
  · rw [if_neg hk, Maps.has_put_other (key_ne hk)]
    refine ⟨(h k h0 h1).1, fun x hx => ?_⟩
    rw [Maps.atKey_put_other (key_ne hk)]
    exact (h k h0 h1).2 x hx
theorem rep_del {D : DataW Unit} {m : Int → Option Int} (h : Rep D m) (id : Int) : Rep (D.del (.int .u32 id)) (del m id) := by
  intro k h0 h1
  unfold del
  by_cases hk : k = id
  · subst hk
    rw [if_pos rfl, Maps.has_del_same]
    exact ⟨rfl, fun x hx => absurd hx (by simp)⟩
  · rw [if_neg hk, Maps.has_del_other (key_ne hk)]
    refine ⟨(h k h0 h1).1, fun x hx => ?_⟩
    rw [Maps.atKey_del_other (key_ne hk)]
    exact (h k h0 h1).2 x hx

section
variable {w w1 : World} {g b N n : Nat} {c f : Int} {m m1 : Int → Option Int}
/-- A book whose map was written. -/
theorem BookAt.turned (h : BookAt w g b c f m N) (hg : w.grownBy w1 (some b)) {D : DataW Unit} (hown : w1.ownsMap Try.prog 29 (plainElem Try.prog 3) b n D) (hrep : Rep D m1) : BookAt w1 g b c f m1 n :=
  ⟨(hg.block g h.lt.1 (fun e => h.ne (Option.some.inj e).symm)).trans h.cell, ⟨D, hown, hrep⟩, h.ne, h.wfc, h.wff⟩
theorem grown_drew {row : Option Nat} (w : World) : w.grownBy w.drew row := ⟨rfl, rfl, rfl, Nat.le_refl _, fun _ _ _ => rfl⟩
theorem grown_only {w : World} {g b : Nat} (hg : w.grownBy w1 (some b)) : Only w w1 g b := (Only.refl w g b).grown hg (fun k hk => .inr (.inl (Option.some.inj hk).symm))
/-- A book whose first cell was written. -/
theorem BookAt.put0 (h : BookAt w g b c f m N) {x : Int} (hx : (Lit.int .i64 x).wf = true) : BookAt (w.setCell ⟨g, 0, none⟩ (.int .i64 x)) g b x f m N := by
  obtain ⟨D, ⟨es, clock, he, hr⟩, hrep⟩ := h.map
  have hl := (Array.getElem?_eq_some_iff.1 h.cell)
  refine ⟨?_, ⟨D, ⟨es, clock, ?_, hr⟩, hrep⟩, h.ne, hx, h.wff⟩
  · have e := h.cell
    simp [World.setCell, Array.getElem?_modify, e]
  · rw [Below.heap_setCell w _ _ b h.ne]
    exact he
end

theorem drop_calls {w : World} {g b N : Nat} {c f : Int} {m : Int → Option Int} (h : BookAt w g b c f m N) (id : Int) (h0 : 0 ≤ id) (h1 : id < 4294967296) :
    Calls Try.prog 23 #[.pointer (some ⟨g, 0, none⟩), .int .u32 id] w fun e w' => e = .returned (.tuple #[]) ∧ BookAt w' g b c f (del m id) N ∧ Only w w' g b := by
  have c2 := h.c2
  have HB := Lib.hid h
  obtain ⟨D, hown, hrep⟩ := h.map
  have hkey := keyOf_int_mk Try.underlying29 (wf_u32 h0 h1)
  have HR := Lib.hid hrep
  clear h hrep h0 h1
  go_enter Try.func23, Try.ntmps23
  go_wp2_with (at_delete; refine wpList_delete_own _ rfl _ _ 54 29 rfl 3 keyed Try.underlying54 _ b N D rfl hown _ _ rfl hkey ?_; intro w1 hown1 hturn1)
  go_end0
  exact ⟨rfl, HB.out.turned (World.mapTurned.grown hturn1) hown1 (rep_del HR.out _), grown_only (World.mapTurned.grown hturn1)⟩

theorem open_calls {w : World} {g b N : Nat} {c f : Int} {m : Int → Option Int} (h : BookAt w g b c f m N) (id : Int) (h0 : 0 ≤ id) (h1 : id < 4294967296) (hN : N < 1000000) :
    Calls Try.prog 15 #[.pointer (some ⟨g, 0, none⟩), .int .u32 id] w fun e w' => e = .returned (.tuple #[]) ∧ BookAt w' g b c f (upd m id f) (N + 1) ∧ Only w w' g b := by
  have c1 := h.c1
  have c2 := h.c2
  have HB := Lib.hid h
  obtain ⟨D, hown, hrep⟩ := h.map
  have hkey := keyOf_int_mk Try.underlying29 (wf_u32 h0 h1)
  have hf := h.wff
  have HR := Lib.hid hrep
  clear h hrep h0 h1
  go_enter Try.func15, Try.ntmps15
  go_wp2_with fail
  go_still_tail 9, (by kernel_rfl)
  change wpList _ _ _ _ _ w.drew
  go_wp2_with (at_mapUpdate; refine wpList_mapUpdate_in _ rfl _ _ _ 54 rfl 29 3 keyed Try.underlying54 _ b N D rfl (hown.drew) (by unfold maxLen; omega) _ _ _ rfl rfl hkey _ [] (plainElem_int Try.underlying3 hf) ?_; intro w1 hown1 hturn1)
  go_end0
  have hg : w.grownBy w1 (some b) := (grown_drew w).trans (World.mapTurned.grown hturn1)
  exact ⟨rfl, HB.out.turned hg hown1 (rep_upd HR.out hown.isMap _ _), grown_only hg⟩
theorem lit_eq {D : DataW Unit} {k : Lit} {z : DataW Unit} {a b : Int} (h : D.atKey k z = .lit (.int .i64 a)) (h' : D.atKey k z = .lit (.int .i64 b)) : a = b := by
  rw [h] at h'
  simpa using h'
theorem wf_wrap (x : Int) : (Lit.int .i64 (wrap64 x)).wf = true := by
  simp [Lit.wf, IntKind.min, IntKind.max, IntKind.bits, IntKind.signed, wrap64]
  omega
theorem i64w (x : Int) : IntKind.i64.wrap x = wrap64 x := by
  simp [IntKind.wrap, IntKind.bits, IntKind.signed, wrap64]
  split <;> omega

theorem heap_two (h : Array Obj) (a b : Obj) : ((h.push a).push b)[h.size + 1]? = some b := by
  rw [Array.getElem?_push]
  simp
theorem new_calls (w : World) : Calls Try.prog 14 #[] w fun e w' => ∃ g b, e = .returned (.pointer (some ⟨g, 0, none⟩)) ∧ BookAt w' g b 65535 65535 (fun _ => none) 0 ∧ w.heap.size ≤ g ∧ w.heap.size ≤ b ∧ Below w.heap.size w w' := by
  have hmm := @run_makeMap Try.prog
  go_enter Try.func14, Try.ntmps14
  go_wp2
  go_ret
  refine ⟨w.heap.size + 1, w.heap.size, by first | rfl | (simp; done), ⟨?_, ⟨.map [], (World.ownsMap_made w Try.prog 29 (plainElem Try.prog 3)).alloc _, ?_⟩, by omega, by decide, by decide⟩, by omega, by omega, ?_⟩
  · simp only [World.alloc]
    exact heap_two _ _ _
  · intro id h0 h1
    exact ⟨rfl, fun v hv => absurd hv (by simp)⟩
  · exact ((Below.refl _ _).alloc (Nat.le_refl _) _).alloc (by simp) _

def growR (c : Int) (m : Int → Option Int) (id n : Int) : Int × Int × (Int → Option Int) :=
  if id = 0 then (if 2147483647 < wrap64 (c + n) then (3, c, m) else (0, wrap64 (c + n), m)) else
  match m id with
  | none => (0, c, m)
  | some v => if 2147483647 < wrap64 (v + n) then (3, c, m) else (0, c, upd m id (wrap64 (v + n)))

theorem BookAt.more {w : World} {g b N n : Nat} {c f : Int} {m : Int → Option Int} (h : BookAt w g b c f m N) (hn : N ≤ n) : BookAt w g b c f m n := by
  obtain ⟨D, hown, hrep⟩ := h.map
  exact ⟨h.cell, ⟨D, hown.mono hn, hrep⟩, h.ne, h.wfc, h.wff⟩

set_option maxHeartbeats 800000 in
theorem grow_calls {w : World} {g b N : Nat} {c f : Int} {m : Int → Option Int} (h : BookAt w g b c f m N) (id n : Int) (h0 : 0 ≤ id) (h1 : id < 4294967296) (n0 : 0 ≤ n) (n1 : n < 4294967296) (hN : N < 1000000) :
    Calls Try.prog 16 #[.pointer (some ⟨g, 0, none⟩), .int .u32 id, .int .u32 n] w fun e w' => e = .returned (.int .u32 (growR c m id n).1) ∧ BookAt w' g b (growR c m id n).2.1 f (growR c m id n).2.2 (N + 1) ∧ Only w w' g b := by
  have c0 := h.c0
  have c2 := h.c2
  have f0 := h.free 0
  have HB := Lib.hid h
  obtain ⟨D, hown, hrep⟩ := h.map
  have hkey := keyOf_int_mk Try.underlying29 (wf_u32 h0 h1)
  obtain ⟨r1, r2⟩ := hrep id h0 h1
  have HR := Lib.hid hrep
  by_cases hid : id = 0
  · clear r1 r2 h hrep h0 h1
    subst hid
    obtain ⟨x, hx⟩ : ∃ x, wrap64 (c + n) = x := ⟨_, rfl⟩
    have hxw : IntKind.i64.wrap (c + n) = x := (i64w _).trans hx
    have hwx : (Lit.int .i64 x).wf = true := by rw [← hx]; exact wf_wrap _
    by_cases hb : 2147483647 < x
    · have HF := Lib.hid (show growR c m 0 n = (3, c, m) by unfold growR; rw [if_pos rfl, if_pos (by rw [hx]; exact hb)])
      go_enter Try.func16, Try.ntmps16
      go_wp2_with (at_lookup; refine wpList_lookup_own_ok_int _ rfl _ _ 54 rfl 29 3 .i64 keyed Try.underlying54 Try.underlying3 (zero3 _) b N D rfl hown _ _ rfl hkey ?_; intro v hat hwv; have HA := Lib.hid hat; clear hat)
      go_ret
      rw [HF.out]
      exact ⟨rfl, HB.out.more (by omega), Only.refl _ _ _⟩
    · have HF := Lib.hid (show growR c m 0 n = (0, x, m) by unfold growR; rw [if_pos rfl, if_neg (by rw [hx]; exact hb), hx])
      have hb' : x ≤ 2147483647 := by omega
      clear hb
      go_enter Try.func16, Try.ntmps16
      go_wp2_with (at_lookup; refine wpList_lookup_own_ok_int _ rfl _ _ 54 rfl 29 3 .i64 keyed Try.underlying54 Try.underlying3 (zero3 _) b N D rfl hown _ _ rfl hkey ?_; intro v hat hwv; have HA := Lib.hid hat; clear hat)
      go_ret
      rw [HF.out]
      exact ⟨rfl, (HB.out.put0 hwx).more (by omega), (Only.refl _ _ _).set rfl _⟩
  · have hidb : (id == 0) = false := by simp [hid]
    have HI := Lib.hid hid
    clear hid
    cases hm : m id with
    | none =>
      have hhas : Maps.has D (.int .u32 id) = false := by rw [r1, hm]; rfl
      have HF := Lib.hid (show growR c m id n = (0, c, m) by unfold growR; rw [if_neg HI.out, hm])
      clear r1 r2 h hrep h0 h1 hm
      go_enter Try.func16, Try.ntmps16
      go_wp2_with (at_lookup; refine wpList_lookup_own_ok_int _ rfl _ _ 54 rfl 29 3 .i64 keyed Try.underlying54 Try.underlying3 (zero3 _) b N D rfl hown _ _ rfl hkey ?_; intro v hat hwv; have HA := Lib.hid hat; clear hat)
      go_ret
      rw [HF.out]
      exact ⟨rfl, HB.out.more (by omega), Only.refl _ _ _⟩
    | some v0 =>
      have hhas : Maps.has D (.int .u32 id) = true := by rw [r1, hm]; rfl
      have HV := Lib.hid (r2 v0 hm)
      obtain ⟨x, hx⟩ : ∃ x, wrap64 (v0 + n) = x := ⟨_, rfl⟩
      have hxw : IntKind.i64.wrap (v0 + n) = x := (i64w _).trans hx
      have hwx : (Lit.int .i64 x).wf = true := by rw [← hx]; exact wf_wrap _
      by_cases hb : 2147483647 < x
      · have HF := Lib.hid (show growR c m id n = (3, c, m) by unfold growR; rw [if_neg HI.out, hm]; simp only; rw [if_pos (by rw [hx]; exact hb)])
        clear r1 r2 h hrep h0 h1 hm
        go_enter Try.func16, Try.ntmps16
        go_wp2_with (at_lookup; refine wpList_lookup_own_ok_int _ rfl _ _ 54 rfl 29 3 .i64 keyed Try.underlying54 Try.underlying3 (zero3 _) b N D rfl hown _ _ rfl hkey ?_; intro v hat hwv; obtain rfl : v = v0 := lit_eq hat HV.out; clear hat)
        go_ret
        rw [HF.out]
        exact ⟨rfl, HB.out.more (by omega), Only.refl _ _ _⟩
      · have HF := Lib.hid (show growR c m id n = (0, c, upd m id x) by unfold growR; rw [if_neg HI.out, hm]; simp only; rw [if_neg (by rw [hx]; exact hb), hx])
        have hb' : x ≤ 2147483647 := by omega
        clear r1 r2 h hrep h0 h1 hm hb
        go_enter Try.func16, Try.ntmps16
        go_wp2_with (first | (at_lookup; refine wpList_lookup_own_ok_int _ rfl _ _ 54 rfl 29 3 .i64 keyed Try.underlying54 Try.underlying3 (zero3 _) b N D rfl hown _ _ rfl hkey ?_; intro v hat hwv; obtain rfl : v = v0 := lit_eq hat HV.out; clear hat) | (at_mapUpdate; refine wpList_mapUpdate_in _ rfl _ _ _ 54 rfl 29 3 keyed Try.underlying54 _ b N D rfl hown (by unfold maxLen; omega) _ _ _ rfl rfl hkey _ [] (plainElem_int Try.underlying3 hwx) ?_; intro w1 hown1 hturn1))
        go_ret
        rw [HF.out]
        exact ⟨rfl, HB.out.turned (World.mapTurned.grown hturn1) hown1 (rep_upd HR.out hown.isMap _ _), grown_only (World.mapTurned.grown hturn1)⟩
def takeK (c v want : Int) : Int := if 0 < (if c < (if v < want then v else want) then c else (if v < want then v else want)) then (if c < (if v < want then v else want) then c else (if v < want then v else want)) else 0
def takeR (c : Int) (m : Int → Option Int) (id want : Int) : Int × Int × (Int → Option Int) :=
  match m id with
  | none => (0, c, m)
  | some v => if takeK c v want = 0 then (0, c, m) else (takeK c v want, wrap64 (c - takeK c v want), upd m id (wrap64 (v - takeK c v want)))

set_option maxHeartbeats 1600000 in
theorem take_calls {w : World} {g b N : Nat} {c f : Int} {m : Int → Option Int} (h : BookAt w g b c f m N) (id want : Int) (h0 : 0 ≤ id) (h1 : id < 4294967296) (hN : N < 1000000) :
    Calls Try.prog 17 #[.pointer (some ⟨g, 0, none⟩), .int .u32 id, .int .i64 want] w fun e w' => e = .returned (.int .i64 (takeR c m id want).1) ∧ BookAt w' g b (takeR c m id want).2.1 f (takeR c m id want).2.2 (N + 1) ∧ Only w w' g b := by
  have c0 := h.c0
  have c2 := h.c2
  have f0 := h.free 0
  have HB := Lib.hid h
  obtain ⟨D, hown, hrep⟩ := h.map
  have hkey := keyOf_int_mk Try.underlying29 (wf_u32 h0 h1)
  obtain ⟨r1, r2⟩ := hrep id h0 h1
  have HR := Lib.hid hrep
  cases hm : m id with
  | none =>
    have hhas : Maps.has D (.int .u32 id) = false := by rw [r1, hm]; rfl
    have HZ := Lib.hid (Maps.atKey_of_not_has (D := D) (k := .int .u32 id) hhas (.lit (.int .i64 0)))
    have HF := Lib.hid (show takeR c m id want = (0, c, m) by unfold takeR; rw [hm])
    clear r1 r2 h hrep h0 h1 hm
    go_enter Try.func17, Try.ntmps17
    go_wp2_with (at_lookup; refine wpList_lookup_own_ok_int _ rfl _ _ 54 rfl 29 3 .i64 keyed Try.underlying54 Try.underlying3 (zero3 _) b N D rfl hown _ _ rfl hkey ?_; intro v hat hwv; obtain rfl : v = 0 := lit_eq hat HZ.out; clear hat)
    all_goals
      go_ret
      rw [HF.out]
      exact ⟨rfl, HB.out.more (by omega), Only.refl _ _ _⟩
  | some v0 =>
    have hhas : Maps.has D (.int .u32 id) = true := by rw [r1, hm]; rfl
    have HV := Lib.hid (r2 v0 hm)
    have HM := Lib.hid hm
    clear r1 r2 h hrep h0 h1 hm
    by_cases hA : v0 < want
    · have pA : (v0 < want) = True := by exact eq_true hA
      clear hA
      by_cases hB : c < v0
      · have pB : (c < v0) = True := by exact eq_true hB
        clear hB
        by_cases hC : 0 < c
        · have pC : (0 < c) = True := by exact eq_true hC
          clear hC
          have hk : takeK c v0 want = c := by unfold takeK; simp only [pA, pB, pC, if_true, if_false]
          have hz : (c == 0) = false := by simp only [eq_iff_iff, iff_true] at pC; rw [beq_eq_false_iff_ne]; omega
          obtain ⟨x, hx⟩ : ∃ x, wrap64 (v0 - c) = x := ⟨_, rfl⟩
          have hxw : IntKind.i64.wrap (v0 - c) = x := (i64w _).trans hx
          have hwx : (Lit.int .i64 x).wf = true := by rw [← hx]; exact wf_wrap _
          have hy : wrap64 (c - c) = 0 := by rw [Int.sub_self]; unfold wrap64; omega
          have HWY := Lib.hid (show (Lit.int .i64 0).wf = true by decide)
          have HF := Lib.hid (show takeR c m id want = (c, 0, upd m id x) by unfold takeR; rw [HM.out]; simp only; rw [if_neg (by rw [hk]; simpa using hz), hk, hx, hy])
          clear hk hx hy
          go_enter Try.func17, Try.ntmps17
          go_wp2_with (first | (at_lookup; refine wpList_lookup_own_ok_int _ rfl _ _ 54 rfl 29 3 .i64 keyed Try.underlying54 Try.underlying3 (zero3 _) b N D rfl hown _ _ rfl hkey ?_; intro v hat hwv; obtain rfl : v = v0 := lit_eq hat HV.out; clear hat) | (at_mapUpdate; refine wpList_mapUpdate_in _ rfl _ _ _ 54 rfl 29 3 keyed Try.underlying54 _ b N D rfl hown (by unfold maxLen; omega) _ _ _ rfl rfl hkey _ [] (plainElem_int Try.underlying3 hwx) ?_; intro w1 hown1 hturn1; have hB1 := HB.out.turned (World.mapTurned.grown hturn1) hown1 (rep_upd HR.out hown.isMap id x); have k0 := hB1.c0; have k1 := hB1.free 0; have HB1 := Lib.hid hB1; clear hB1))
          go_ret
          rw [HF.out]
          exact ⟨rfl, HB1.out.put0 HWY.out, (grown_only (World.mapTurned.grown hturn1)).set rfl _⟩
        · have pC : (0 < c) = False := by exact eq_false hC
          clear hC
          have HF := Lib.hid (show takeR c m id want = (0, c, m) by unfold takeR; rw [HM.out]; simp only; rw [if_pos (by unfold takeK; simp only [pA, pB, pC, if_true, if_false])])
          go_enter Try.func17, Try.ntmps17
          go_wp2_with (at_lookup; refine wpList_lookup_own_ok_int _ rfl _ _ 54 rfl 29 3 .i64 keyed Try.underlying54 Try.underlying3 (zero3 _) b N D rfl hown _ _ rfl hkey ?_; intro v hat hwv; obtain rfl : v = v0 := lit_eq hat HV.out; clear hat)
          all_goals
            go_ret
            rw [HF.out]
            exact ⟨rfl, HB.out.more (by omega), Only.refl _ _ _⟩
      · have pB : (c < v0) = False := by exact eq_false hB
        clear hB
        by_cases hC : 0 < v0
        · have pC : (0 < v0) = True := by exact eq_true hC
          clear hC
          have hk : takeK c v0 want = v0 := by unfold takeK; simp only [pA, pB, pC, if_true, if_false]
          have hz : (v0 == 0) = false := by simp only [eq_iff_iff, iff_true] at pC; rw [beq_eq_false_iff_ne]; omega
          have hx : wrap64 (v0 - v0) = 0 := by rw [Int.sub_self]; unfold wrap64; omega
          have hwx : (Lit.int .i64 0).wf = true := by decide
          obtain ⟨y, hy⟩ : ∃ y, wrap64 (c - v0) = y := ⟨_, rfl⟩
          have hyw : IntKind.i64.wrap (c - v0) = y := (i64w _).trans hy
          have HWY := Lib.hid (show (Lit.int .i64 y).wf = true by rw [← hy]; exact wf_wrap _)
          have HF := Lib.hid (show takeR c m id want = (v0, y, upd m id 0) by unfold takeR; rw [HM.out]; simp only; rw [if_neg (by rw [hk]; simpa using hz), hk, hx, hy])
          clear hk hx hy
          go_enter Try.func17, Try.ntmps17
          go_wp2_with (first | (at_lookup; refine wpList_lookup_own_ok_int _ rfl _ _ 54 rfl 29 3 .i64 keyed Try.underlying54 Try.underlying3 (zero3 _) b N D rfl hown _ _ rfl hkey ?_; intro v hat hwv; obtain rfl : v = v0 := lit_eq hat HV.out; clear hat) | (at_mapUpdate; refine wpList_mapUpdate_in _ rfl _ _ _ 54 rfl 29 3 keyed Try.underlying54 _ b N D rfl hown (by unfold maxLen; omega) _ _ _ rfl rfl hkey _ [] (plainElem_int Try.underlying3 hwx) ?_; intro w1 hown1 hturn1; have hB1 := HB.out.turned (World.mapTurned.grown hturn1) hown1 (rep_upd HR.out hown.isMap id 0); have k0 := hB1.c0; have k1 := hB1.free 0; have HB1 := Lib.hid hB1; clear hB1))
          go_ret
          rw [HF.out]
          exact ⟨rfl, HB1.out.put0 HWY.out, (grown_only (World.mapTurned.grown hturn1)).set rfl _⟩
        · have pC : (0 < v0) = False := by exact eq_false hC
          clear hC
          have HF := Lib.hid (show takeR c m id want = (0, c, m) by unfold takeR; rw [HM.out]; simp only; rw [if_pos (by unfold takeK; simp only [pA, pB, pC, if_true, if_false])])
          go_enter Try.func17, Try.ntmps17
          go_wp2_with (at_lookup; refine wpList_lookup_own_ok_int _ rfl _ _ 54 rfl 29 3 .i64 keyed Try.underlying54 Try.underlying3 (zero3 _) b N D rfl hown _ _ rfl hkey ?_; intro v hat hwv; obtain rfl : v = v0 := lit_eq hat HV.out; clear hat)
          all_goals
            go_ret
            rw [HF.out]
            exact ⟨rfl, HB.out.more (by omega), Only.refl _ _ _⟩
    · have pA : (v0 < want) = False := by exact eq_false hA
      clear hA
      by_cases hB : c < want
      · have pB : (c < want) = True := by exact eq_true hB
        clear hB
        by_cases hC : 0 < c
        · have pC : (0 < c) = True := by exact eq_true hC
          clear hC
          have hk : takeK c v0 want = c := by unfold takeK; simp only [pA, pB, pC, if_true, if_false]
          have hz : (c == 0) = false := by simp only [eq_iff_iff, iff_true] at pC; rw [beq_eq_false_iff_ne]; omega
          obtain ⟨x, hx⟩ : ∃ x, wrap64 (v0 - c) = x := ⟨_, rfl⟩
          have hxw : IntKind.i64.wrap (v0 - c) = x := (i64w _).trans hx
          have hwx : (Lit.int .i64 x).wf = true := by rw [← hx]; exact wf_wrap _
          have hy : wrap64 (c - c) = 0 := by rw [Int.sub_self]; unfold wrap64; omega
          have HWY := Lib.hid (show (Lit.int .i64 0).wf = true by decide)
          have HF := Lib.hid (show takeR c m id want = (c, 0, upd m id x) by unfold takeR; rw [HM.out]; simp only; rw [if_neg (by rw [hk]; simpa using hz), hk, hx, hy])
          clear hk hx hy
          go_enter Try.func17, Try.ntmps17
          go_wp2_with (first | (at_lookup; refine wpList_lookup_own_ok_int _ rfl _ _ 54 rfl 29 3 .i64 keyed Try.underlying54 Try.underlying3 (zero3 _) b N D rfl hown _ _ rfl hkey ?_; intro v hat hwv; obtain rfl : v = v0 := lit_eq hat HV.out; clear hat) | (at_mapUpdate; refine wpList_mapUpdate_in _ rfl _ _ _ 54 rfl 29 3 keyed Try.underlying54 _ b N D rfl hown (by unfold maxLen; omega) _ _ _ rfl rfl hkey _ [] (plainElem_int Try.underlying3 hwx) ?_; intro w1 hown1 hturn1; have hB1 := HB.out.turned (World.mapTurned.grown hturn1) hown1 (rep_upd HR.out hown.isMap id x); have k0 := hB1.c0; have k1 := hB1.free 0; have HB1 := Lib.hid hB1; clear hB1))
          go_ret
          rw [HF.out]
          exact ⟨rfl, HB1.out.put0 HWY.out, (grown_only (World.mapTurned.grown hturn1)).set rfl _⟩
        · have pC : (0 < c) = False := by exact eq_false hC
          clear hC
          have HF := Lib.hid (show takeR c m id want = (0, c, m) by unfold takeR; rw [HM.out]; simp only; rw [if_pos (by unfold takeK; simp only [pA, pB, pC, if_true, if_false])])
          go_enter Try.func17, Try.ntmps17
          go_wp2_with (at_lookup; refine wpList_lookup_own_ok_int _ rfl _ _ 54 rfl 29 3 .i64 keyed Try.underlying54 Try.underlying3 (zero3 _) b N D rfl hown _ _ rfl hkey ?_; intro v hat hwv; obtain rfl : v = v0 := lit_eq hat HV.out; clear hat)
          all_goals
            go_ret
            rw [HF.out]
            exact ⟨rfl, HB.out.more (by omega), Only.refl _ _ _⟩
      · have pB : (c < want) = False := by exact eq_false hB
        clear hB
        by_cases hC : 0 < want
        · have pC : (0 < want) = True := by exact eq_true hC
          clear hC
          have hk : takeK c v0 want = want := by unfold takeK; simp only [pA, pB, pC, if_true, if_false]
          have hz : (want == 0) = false := by simp only [eq_iff_iff, iff_true] at pC; rw [beq_eq_false_iff_ne]; omega
          obtain ⟨x, hx⟩ : ∃ x, wrap64 (v0 - want) = x := ⟨_, rfl⟩
          have hxw : IntKind.i64.wrap (v0 - want) = x := (i64w _).trans hx
          have hwx : (Lit.int .i64 x).wf = true := by rw [← hx]; exact wf_wrap _
          obtain ⟨y, hy⟩ : ∃ y, wrap64 (c - want) = y := ⟨_, rfl⟩
          have hyw : IntKind.i64.wrap (c - want) = y := (i64w _).trans hy
          have HWY := Lib.hid (show (Lit.int .i64 y).wf = true by rw [← hy]; exact wf_wrap _)
          have HF := Lib.hid (show takeR c m id want = (want, y, upd m id x) by unfold takeR; rw [HM.out]; simp only; rw [if_neg (by rw [hk]; simpa using hz), hk, hx, hy])
          clear hk hx hy
          go_enter Try.func17, Try.ntmps17
          go_wp2_with (first | (at_lookup; refine wpList_lookup_own_ok_int _ rfl _ _ 54 rfl 29 3 .i64 keyed Try.underlying54 Try.underlying3 (zero3 _) b N D rfl hown _ _ rfl hkey ?_; intro v hat hwv; obtain rfl : v = v0 := lit_eq hat HV.out; clear hat) | (at_mapUpdate; refine wpList_mapUpdate_in _ rfl _ _ _ 54 rfl 29 3 keyed Try.underlying54 _ b N D rfl hown (by unfold maxLen; omega) _ _ _ rfl rfl hkey _ [] (plainElem_int Try.underlying3 hwx) ?_; intro w1 hown1 hturn1; have hB1 := HB.out.turned (World.mapTurned.grown hturn1) hown1 (rep_upd HR.out hown.isMap id x); have k0 := hB1.c0; have k1 := hB1.free 0; have HB1 := Lib.hid hB1; clear hB1))
          go_ret
          rw [HF.out]
          exact ⟨rfl, HB1.out.put0 HWY.out, (grown_only (World.mapTurned.grown hturn1)).set rfl _⟩
        · have pC : (0 < want) = False := by exact eq_false hC
          clear hC
          have HF := Lib.hid (show takeR c m id want = (0, c, m) by unfold takeR; rw [HM.out]; simp only; rw [if_pos (by unfold takeK; simp only [pA, pB, pC, if_true, if_false])])
          go_enter Try.func17, Try.ntmps17
          go_wp2_with (at_lookup; refine wpList_lookup_own_ok_int _ rfl _ _ 54 rfl 29 3 .i64 keyed Try.underlying54 Try.underlying3 (zero3 _) b N D rfl hown _ _ rfl hkey ?_; intro v hat hwv; obtain rfl : v = v0 := lit_eq hat HV.out; clear hat)
          all_goals
            go_ret
            rw [HF.out]
            exact ⟨rfl, HB.out.more (by omega), Only.refl _ _ _⟩

/-- What Initial leaves. -/
def InitPost (w : World) (g b N : Nat) (c f : Int) (m : Int → Option Int) (n : Int) (e : Ending) (w' : World) : Prop :=
  (e = .returned (.int .u32 3) ∧ BookAt w' g b c f m N ∧ Only w w' g b ∧ (2147483647 < n ∨ ∃ id v, 0 ≤ id ∧ id < 4294967296 ∧ m id = some v ∧ 2147483647 < wrap64 (v + wrap64 (n - f)))) ∨
  (∃ b', e = .returned (.int .u32 0) ∧ BookAt w' g b' c n (fun id => (m id).map fun v => wrap64 (v + wrap64 (n - f))) N ∧ Only w w' g b ∧ w.heap.size ≤ b' ∧ n ≤ 2147483647 ∧
    ∀ id v, 0 ≤ id → id < 4294967296 → m id = some v → wrap64 (v + wrap64 (n - f)) ≤ 2147483647)

theorem u32_of_wf {x : Int} (h : (Lit.int .u32 x).wf = true) : 0 ≤ x ∧ x < 4294967296 := by
  simp [Lit.wf, IntKind.min, IntKind.max, IntKind.bits, IntKind.signed] at h
  omega
/-- An entry that the map has, in m's words. -/
theorem rep_at {D : DataW Unit} {m : Int → Option Int} (h : Rep D m) {x v : Int} (hx : (Lit.int .u32 x).wf = true) (hh : Maps.has D (.int .u32 x) = true) (hat : ∀ zd, D.atKey (.int .u32 x) zd = .lit (.int .i64 v)) : m x = some v := by
  obtain ⟨h0, h1⟩ := u32_of_wf hx
  obtain ⟨r1, r2⟩ := h x h0 h1
  rw [hh] at r1
  cases hm : m x with
  | none => rw [hm] at r1; exact absurd r1 (by simp)
  | some u =>
    have := r2 u hm
    rw [hat] at this
    have e : v = u := by simpa using this
    rw [e]
/-- What is still to come is there. -/
def LeftOk (D : DataW Unit) (left : Lit → Bool) : Prop := ∀ kl, left kl = true → Maps.has D kl = true
/-- All that has come fits. -/
def Fits (m : Int → Option Int) (s : Int) (left : Lit → Bool) : Prop := ∀ id v, 0 ≤ id → id < 4294967296 → m id = some v → left (.int .u32 id) = false → wrap64 (v + s) ≤ 2147483647
/-- What has been laid into the next map. -/
def Part (m : Int → Option Int) (s : Int) (left : Lit → Bool) : Int → Option Int := fun id => if left (.int .u32 id) = true then none else (m id).map fun v => wrap64 (v + s)
theorem same_u32 (a b : Int) : (Lit.int .u32 a).sameKey (.int .u32 b) = decide (a = b) := by simp [Lit.sameKey]
theorem fits_step {m : Int → Option Int} {s : Int} {left : Lit → Bool} {x v : Int} (h : Fits m s left) (hm : m x = some v) (hle : wrap64 (v + s) ≤ 2147483647) : Fits m s (fun z => left z && !z.sameKey (.int .u32 x)) := by
  intro id u h0 h1 hu hl
  by_cases hx : id = x
  · subst hx
    rw [hm] at hu
    rw [← Option.some.inj hu]
    exact hle
  · have : left (.int .u32 id) = false := by simpa [same_u32, hx] using hl
    exact h id u h0 h1 hu this
theorem rep_part {D Do : DataW Unit} {m : Int → Option Int} {s : Int} {left : Lit → Bool} {x v : Int} (hr : Rep D m) (h : Rep Do (Part m s left)) (hD : IsMap Do) (hx : m x = some v) : Rep (Do.put (.int .u32 x) (.lit (.int .i64 (wrap64 (v + s))))) (Part m s (fun z => left z && !z.sameKey (.int .u32 x))) := by
  have e := rep_upd h hD x (wrap64 (v + s))
  have : Part m s (fun z => left z && !z.sameKey (.int .u32 x)) = upd (Part m s left) x (wrap64 (v + s)) := by
    funext id
    unfold upd Part
    by_cases he : id = x
    · subst he
      simp [same_u32, hx]
    · simp [same_u32, he]
  rw [this]
  exact e

theorem left_step {D : DataW Unit} {left : Lit → Bool} {k : Lit} (h : LeftOk D left) : LeftOk D (fun z => left z && !z.sameKey k) := fun kl hk => h kl (by simp at hk; exact hk.1)
theorem rep_start {D : DataW Unit} {m : Int → Option Int} {s : Int} (h : Rep D m) : Rep (.map []) (Part m s (Maps.has D)) := by
  intro id h0 h1
  have e := (h id h0 h1).1
  unfold Part
  cases hm : m id with
  | none => simp [Maps.has_eq]
  | some v => rw [hm] at e; simp [e, Maps.has_eq]
theorem done_part {D : DataW Unit} {m : Int → Option Int} {s : Int} {lf : Lit → Bool} (hl : ∀ kl, lf kl = false) (h : Rep D (Part m s lf)) : Rep D (fun id => (m id).map fun v => wrap64 (v + s)) := by
  have : Part m s lf = fun id => (m id).map fun v => wrap64 (v + s) := by
    funext id
    simp [Part, hl]
  rw [← this]
  exact h
/-- A book whose map and first window are others. -/
theorem book_new {w : World} {g b b' N : Nat} {c f n : Int} {m m' : Int → Option Int} (h : BookAt w g b c f m N) {D : DataW Unit} (hown : w.ownsMap Try.prog 29 (plainElem Try.prog 3) b' N D) (hr : Rep D m') (hne : b' ≠ g) (hn : (Lit.int .u32 n).wf = true) :
    BookAt ((w.setCell ⟨g, 2, none⟩ (.map (some b'))).setCell ⟨g, 1, none⟩ (.int .i64 n)) g b' c n m' N := by
  refine ⟨?_, ⟨D, (hown.setCell hne _).setCell hne _, hr⟩, hne, h.wfc, ?_⟩
  · have e := h.cell
    simp [World.setCell, Array.getElem?_modify, e]
  · have := u32_of_wf hn
    simp [Lit.wf, IntKind.min, IntKind.max, IntKind.bits, IntKind.signed]
    omega

set_option maxHeartbeats 3200000 in
set_option maxRecDepth 100000 in
theorem initial_calls {w : World} {g b N : Nat} {c f : Int} {m : Int → Option Int} (h : BookAt w g b c f m N) (n : Int) (n0 : 0 ≤ n) (n1 : n < 4294967296) (hN : N < 1000000) :
    Calls Try.prog 18 #[.pointer (some ⟨g, 0, none⟩), .int .u32 n] w (InitPost w g b N c f m n) := by
  have c1 := h.c1
  have c2 := h.c2
  have hmm := @run_makeMap Try.prog
  have HB := Lib.hid h
  have hlt := h.lt
  obtain ⟨D, hown, hrep⟩ := h.map
  have HR := Lib.hid hrep
  obtain ⟨s, hs⟩ : ∃ s, wrap64 (n - f) = s := ⟨_, rfl⟩
  have hsw : IntKind.i64.wrap (n - f) = s := (i64w _).trans hs
  have HS := Lib.hid hs
  have HW := Lib.hid (wf_u32 n0 n1)
  have HL := Lib.hid hlt
  clear h hrep hs hlt
  by_cases hbig : 2147483647 < n
  · go_enter Try.func18, Try.ntmps18
    go_wp2
    go_ret
    exact .inl ⟨rfl, HB.out, Only.refl _ _ _, .inl hbig⟩
  · have hsm : n ≤ 2147483647 := by omega
    have hbd : decide (2147483647 < n) = false := decide_eq_false hbig
    clear hbig
    go_enter Try.func18, Try.ntmps18
    go_wp2_with (at_range; refine wpList_range_own _ rfl _ 54 rfl 29 3 keyed Try.underlying54 _ b N _ rfl hown ?_; intro w0 hrg0 hg0 hs0; go_frame)
    have e0 : ∀ id v, m id = some v → 0 ≤ id → id < 4294967296 → Maps.has D (.int .u32 id) = true := fun id v hv a0 a1 => by rw [(HR.out id a0 a1).1, hv]; rfl
    have HE0 := Lib.hid e0
    have HBn := Lib.hid hbd
    have hst : w0.heap[g]? = w.heap[g]? ∧ w0.heap[b]? = w.heap[b]? := ⟨hg0.block g HL.out.1 (by simp), hg0.block b HL.out.2 (by simp)⟩
    have HST := Lib.hid hst
    have HO0 := Lib.hid ((Only.refl w g b).grown hg0 (fun k hk => by cases hk))
    have HZ := Lib.hid hs0
    clear e0 hst hg0 hs0 hown c1 c2
    go_loopw [25] (fun _ wr => ∃ (left : Lit → Bool) (cnt : Nat), wr.ranges Try.prog 29 (plainElem Try.prog 3) b w.heap.size N D left cnt ∧ Aside0 (LeftOk D left) ∧ Aside0 (Fits m s left) ∧ Aside0 (wr.heap[g]? = w.heap[g]?) ∧ Aside0 (wr.heap[b]? = w.heap[b]?) ∧ Aside0 (Only w wr g b) ∧ Aside0 (w.heap.size < wr.heap.size))
      (fun _ wr => wr.rangeLeft b w.heap.size)
    case atStart =>
      exact ⟨_, _, hrg0, ⟨fun _ h => h⟩, ⟨fun id v a0 a1 hv hl => by rw [HE0.out id v hv a0 a1] at hl; exact absurd hl (by simp)⟩, ⟨HST.out.1⟩, ⟨HST.out.2⟩, ⟨HO0.out⟩, ⟨by rw [HZ.out]; omega⟩⟩
    case round =>
      clear hrg0 HST HO0 HZ
      obtain ⟨left, cnt, hrg, HLo, HFi, HGg, HGb, HOn, HSz⟩ := hrel
      have hbk := HB.out.kept HGg.out HGb.out
      have c2 := hbk.c2
      have HBK := Lib.hid hbk
      clear hbk
      go_wp2_with (at_next; refine wpList_next_ranges_ii _ rfl _ rfl 29 3 .u32 .i64 keyed Try.underlying29 Try.underlying3 b w.heap.size N _ _ _ rfl hrg ?_ ?_)
      · intro hc0 hl0
        have HL0 := Lib.hid hl0
        clear hl0 hc0
        have hown2 := hrg.owns
        have e1 : (wr.alloc (.map #[] 0)).heap.size = wr.heap.size + 1 := by simp
        have HSD := Lib.hid hown2.size_le
        have c2a : (wr.alloc (.map #[] 0)).cell? ⟨g, 2, none⟩ = some (.map (some b)) := (World.cell?_of_block (w := wr) (a := ⟨g, 2, none⟩) (Below.heap_alloc wr _ g (by have := HL.out.1; have := HSz.out; omega))).trans c2
        go_wp2_with (at_range; refine wpList_range_own _ rfl _ 54 rfl 29 3 keyed Try.underlying54 _ b N _ rfl (hown2.alloc _) ?_; intro w3 hrg3 hg3 hs3; go_frame)
        rw [e1] at hrg3 hs3 ⊢
        have hst : w3.heap[g]? = wr.heap[g]? ∧ w3.heap[b]? = wr.heap[b]? := by
          have hga : ∀ k, k < wr.heap.size → w3.heap[k]? = wr.heap[k]? := fun k hk => (hg3.block k (by rw [e1]; omega) (by simp)).trans (Below.heap_alloc wr _ k hk)
          exact ⟨hga g (by have := HL.out.1; have := HSz.out; omega), hga b (by have := HL.out.2; have := HSz.out; omega)⟩
        have HST := Lib.hid hst
        have HO3 := Lib.hid ((HOn.out.grown (World.grownBy_alloc wr (.map #[] 0) none) (fun k hk => by cases hk)).grown hg3 (fun k hk => by cases hk))
        have HMd := Lib.hid ((World.ownsMap_made wr Try.prog 29 (plainElem (H := Unit) Try.prog 3)).kept hg3 (by simp))
        have HZ3 := Lib.hid hs3
        have HSr := Lib.hid (show w.heap.size < wr.heap.size from HSz.out)
        have HB3 := Lib.hid (HBK.out.kept hst.1 hst.2)
        generalize hG : wr.heap.size = G at *
        have HGG := Lib.hid (show g < G ∧ b < G from ⟨by have := HL.out.1; have := HSr.out; omega, by have := HL.out.2; have := HSr.out; omega⟩)
        clear hst hg3 hs3 e1 hown2 c2 c2a hrg
        go_loopw [39] (fun _ wq => ∃ (lf : Lit → Bool) (cq : Nat) (Do : DataW Unit), wq.ranges Try.prog 29 (plainElem Try.prog 3) b (G + 1) N D lf cq ∧ cq ≤ Maps.size D ∧ wq.ownsMap Try.prog 29 (plainElem Try.prog 3) G (Maps.size D - cq) Do ∧ Aside0 (Rep Do (Part m s lf)) ∧ Aside0 (LeftOk D lf) ∧ Aside0 (wq.heap[g]? = w.heap[g]?) ∧ Aside0 (wq.heap[b]? = w.heap[b]?) ∧ Aside0 (Only w wq g b) ∧ Aside0 (G + 1 < wq.heap.size))
          (fun _ wq => wq.rangeLeft b (G + 1))
        case atStart =>
          exact ⟨_, _, .map [], hrg3, Nat.le_refl _, HMd.out.mono (Nat.zero_le _), ⟨rep_start HR.out⟩, ⟨fun _ h => h⟩, ⟨HST.out.1.trans HGg.out⟩, ⟨HST.out.2.trans HGb.out⟩, ⟨HO3.out⟩, ⟨by rw [HZ3.out]; omega⟩⟩
        case round =>
          clear hrg3 HST HO3 HZ3 HMd HBK HGg HGb HOn HSz HLo
          obtain ⟨lf, cq, Do, hrq, hcs, hout, HRp, HLq, HGg, HGb, HOn, HSz⟩ := hrel
          have hbk := HB.out.kept HGg.out HGb.out
          have f2 := hbk.free 2
          have f1 := hbk.free 1
          have k1 := hbk.c1
          have k2 := hbk.c2
          have HBK := Lib.hid hbk
          clear hbk
          go_wp2_with (at_next; refine wpList_next_ranges_ii _ rfl _ rfl 29 3 .u32 .i64 keyed Try.underlying29 Try.underlying3 b (G + 1) N _ _ _ rfl hrq ?_ ?_)
          · intro hc0 hl0
            have HD := Lib.hid (done_part hl0 HRp.out)
            have HOut := Lib.hid hout
            clear hl0 hc0
            go_wp2
            go_ret
            have hg := HGG.out
            refine .inr ⟨G, rfl, book_new HBK.out (HOut.out.mono (by have := HSD.out; omega)) ?_ (by omega) HW.out, (HOn.out.set rfl _).set rfl _, by have := HSr.out; omega, hsm, ?_⟩
            · rw [HS.out]
              exact HD.out
            · rw [HS.out]
              intro id v a0 a1 hv
              exact HFi.out id v a0 a1 hv (HL0.out _)
          · intro x v w1 cnt1 hwx hwv hlx hat hrg1 hlt1 hg1 hs1 hen
            have hmx := rep_at HR.out hwx (HLq.out _ hlx) hat
            have hout1 := hout.kept hg1 (by simp)
            obtain ⟨y, hy⟩ : ∃ y, wrap64 (v + s) = y := ⟨_, rfl⟩
            have hyw : IntKind.i64.wrap (v + s) = y := (i64w _).trans hy
            have hwy : (Lit.int .i64 y).wf = true := by rw [← hy]; exact wf_wrap _
            have hrp := rep_part HR.out HRp.out hout.isMap hmx
            rw [hy] at hrp
            have HRP := Lib.hid hrp
            have HHat := Lib.hid hat
            have hg' := HGG.out
            have HST := Lib.hid (show w1.heap[g]? = w.heap[g]? ∧ w1.heap[b]? = w.heap[b]? from ⟨(hg1.block g (by have := HSz.out; omega) (fun e => by have := Option.some.inj e; omega)).trans HGg.out, (hg1.block b (by have := HSz.out; omega) (fun e => by have := Option.some.inj e; omega)).trans HGb.out⟩)
            have HO1 := Lib.hid (HOn.out.grown hg1 (fun k hk => by have := Option.some.inj hk; have := HSr.out; omega))
            have HS1 := Lib.hid hs1
            have HSDN := Lib.hid (show Maps.size D - cq < maxLen by have := HSD.out; unfold maxLen; omega)
            have HLT := Lib.hid (show cnt1 < cq from hlt1)
            clear hrp hy hmx hat hs1 hlt1
            go_wp2_with (at_mapUpdate; refine wpList_mapUpdate_own _ rfl _ _ _ 54 rfl 29 3 keyed Try.underlying54 _ G _ _ rfl hout1 HSDN.out _ _ _ rfl rfl (keyOf_int_mk Try.underlying29 hwx) _ [] (plainElem_int Try.underlying3 hwy) ?_; intro w2 hout2 hg2; go_frame)
            have hrg2 := hrg1.kept hg2 (fun e => by have := Option.some.inj e; omega) (fun e => by have := Option.some.inj e; omega)
            go_roundw
            case rel =>
              exact ⟨_, cnt1, _, hrg2, by have := HLT.out; omega, hout2.mono (by have := HLT.out; omega), ⟨HRP.out⟩, ⟨left_step HLq.out⟩, ⟨(hg2.block g (by rw [HS1.out]; have := HSz.out; omega) (fun e => by have := Option.some.inj e; omega)).trans HST.out.1⟩,
                ⟨(hg2.block b (by rw [HS1.out]; have := HSz.out; omega) (fun e => by have := Option.some.inj e; omega)).trans HST.out.2⟩, ⟨HO1.out.grown hg2 (fun k hk => by have := Option.some.inj hk; have := HSr.out; omega)⟩, ⟨by have h2 := hg2.size; have h3 := HSz.out; have h4 := HS1.out; omega⟩⟩
            case measure => rw [hrg2.left_eq, hrq.left_eq]; exact HLT.out
      · intro x v w1 cnt1 hwx hwv hlx hat hrg1 hlt1 hg1 hs1 hen
        have hmx := rep_at HR.out hwx (HLo.out _ hlx) hat
        obtain ⟨y, hy⟩ : ∃ y, wrap64 (v + s) = y := ⟨_, rfl⟩
        have hyw : IntKind.i64.wrap (v + s) = y := (i64w _).trans hy
        have hg' := HL.out
        have HST := Lib.hid (show w1.heap[g]? = w.heap[g]? ∧ w1.heap[b]? = w.heap[b]? from ⟨(hg1.block g (by have := HSz.out; omega) (fun e => by have := Option.some.inj e; omega)).trans HGg.out, (hg1.block b (by have := HSz.out; omega) (fun e => by have := Option.some.inj e; omega)).trans HGb.out⟩)
        have HO1 := Lib.hid (HOn.out.grown hg1 (fun k hk => by have := Option.some.inj hk; omega))
        have HS1 := Lib.hid hs1
        have HMX := Lib.hid hmx
        have HY := Lib.hid hy
        have HX := Lib.hid hwx
        have HRG := Lib.hid hrg1
        clear hat hs1 hmx hy hg1 hrg1
        by_cases hbig : 2147483647 < y
        · go_wp2
          go_ret
          exact .inl ⟨rfl, HB.out.kept HST.out.1 HST.out.2, HO1.out, .inr ⟨x, v, (u32_of_wf HX.out).1, (u32_of_wf HX.out).2, HMX.out, by rw [HS.out, HY.out]; exact hbig⟩⟩
        · have hbig' : y ≤ 2147483647 := by omega
          clear hbig
          go_wp2
          go_roundw
          case rel =>
            exact ⟨_, cnt1, HRG.out, ⟨left_step HLo.out⟩, ⟨fits_step HFi.out HMX.out (by rw [HY.out]; exact hbig')⟩, ⟨HST.out.1⟩, ⟨HST.out.2⟩, ⟨HO1.out⟩, ⟨by rw [HS1.out]; exact HSz.out⟩⟩
          case measure => rw [HRG.out.left_eq, hrg.left_eq]; exact hlt1
end Go.Proofs.Ytkaijdhnnfldkab.Book
