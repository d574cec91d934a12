/- Walks of package dnsread: caught, Name, Read. -/
import Derived.Test.YtbbeikdbioelgaaMRRead
import Derived.Defers
import Derived.Recover
import Derived.StillTailTactics
set_option linter.unusedVariables false
set_option linter.unusedSimpArgs false
namespace Go.Proofs.Ytbbeikdbioelgaa.M
open Go.RowKit Go.Maps Go.Proofs.YtbbeikdbioelgaaW.PrintWords Go.Proofs.YtbbeikdbioelgaaW.PrintLast Go.Proofs.YtbbeikdbioelgaaW.PrintMore
attribute [local go_sem] max2_int min2_int max_two min_two max_three min_three max_four min_four
attribute [local go_sem ↓] Go.wp_at_zero Go.wp_at_succ
theorem assert_yes (c : Int) (w : World) : (Instr.typeAssert (.iface 30 (.int .i64 c)) 20 30 true).run Try.prog w = .ok (.tuple #[.int .i64 c, .bool true]) w := by kernel_rfl
theorem assert_no (w : World) : (Instr.typeAssert .nilIface 20 30 true).run Try.prog w = .ok (.tuple #[.int .i64 0, .bool false]) w := by kernel_rfl
set_option maxRecDepth 100000 in
theorem caught_panic (p : Addr) (x : Value) (c : Int) (w : World) (hc : w.cell? p = some x) (hz : w.frozen? p = false) :
    CallsD Try.prog 43 #[.pointer (some p)] (.panicking [{ v := .iface 30 (.int .i64 c), recovered := false }]) w fun e u' w' =>
      e = .returned (.tuple #[]) ∧ u' = .panicking [{ v := .iface 30 (.int .i64 c), recovered := true }] ∧ w' = w.setCell p (.int .i64 c) := by
  have hta := assert_yes c
  refine callsD_of_wpS Try.func43 rfl fun c₀ cs hu => ?_
  apply wpS_seq
  apply wpS_region
  simp [wpOpsS, go_sem, recoverD, hu, Try.ntmps43, Exit.thenS, hta]
  apply wpS_seq
  apply wpS_region
  simp [wpOpsS, go_sem, Exit.thenS]
  refine wpS_cond (t := true) (by simp [Act.eval, Array.replicate]) ?_
  simp only [if_true]
  apply wpS_region
  simp [wpOpsS, go_sem, hc, hz, bodyPostS, results, Try.results43, Array.replicate]
theorem caught_idle (p : Addr) (w : World) :
    CallsD Try.prog 43 #[.pointer (some p)] .returning w fun e u' w' => e = .returned (.tuple #[]) ∧ u' = .returning ∧ w' = w := by
  have hta := assert_no
  refine callsD_of_wpS Try.func43 rfl fun c₀ cs hu => ?_
  apply wpS_seq
  apply wpS_region
  simp [wpOpsS, go_sem, recoverD, hu, Try.ntmps43, Exit.thenS, hta]
  apply wpS_seq
  apply wpS_region
  simp [wpOpsS, go_sem, Exit.thenS]
  refine wpS_cond (t := false) (by simp [Act.eval, Array.replicate]) ?_
  simp only [Bool.false_eq_true, if_false]
  refine wpS_of_wp (wp_skip ?_)
  cases c₀
  simp_all [bodyPostS, results, Try.results43]
theorem heap_two' (h : Array Obj) (a b : Obj) : ((h.push a).push b)[h.size + 1]? = some b := by
  rw [Array.getElem?_push, if_pos (by simp)]
def zM : Msg := ⟨0, 0, [], [], [], []⟩
/-- The message of bytes, and its error. -/
def readF (s : ByteArray) : Msg × Int := if 65535 < s.size then (zM, 3) else match msgR s with
  | .error c => (zM, c)
  | .ok (m, _) => (m, 0)
theorem heap_three (h : Array Obj) (a b c : Obj) : (((h.push a).push b).push c)[h.size + 2]? = some c := by
  rw [Array.getElem?_push, if_pos (by simp)]
theorem msgAt_of {B : Nat} {m : Msg} {v : Value} {w : World} (h : MsgP B m v w) : MsgAt w v m := by
  obtain ⟨v2, v3, v4, v5, rfl, h2, h3, h4, h5⟩ := h
  obtain ⟨A2, c2, rfl, l2, g2⟩ := Kd.R_reads h2
  obtain ⟨A3, c3, rfl, l3, g3⟩ := Kd.R_reads h3
  obtain ⟨A4, c4, rfl, l4, g4⟩ := Kd.R_reads h4
  obtain ⟨A5, c5, rfl, l5, g5⟩ := Kd.R_reads h5
  exact ⟨A2, c2, A3, c3, A4, c4, A5, c5, rfl, l2, g2, l3, g3, l4, g4, l5, g5⟩
theorem zM_at (w : World) : MsgAt w (.agg zMsg) zM := ⟨none, 0, none, 0, none, 0, none, 0, rfl, Nat.le_refl _, Kd.C_nil _ _, Nat.le_refl _, Kd.C_nil _ _, Nat.le_refl _, Kd.C_nil _ _, Nat.le_refl _, Kd.C_nil _ _⟩
theorem three_new (w : World) (c : Int) (cs : Array Value) :
    SAt ((w.alloc (.cells zMsg 26 (0, 0))).alloc (.cells #[.int .i64 c] 30 (0, 0))) w.heap.size zMsg 26 ∧ SAt ((w.alloc (.cells zMsg 26 (0, 0))).alloc (.cells #[.int .i64 c] 30 (0, 0))) (w.heap.size + 1) #[.int .i64 c] 30 ∧
    SAt (((w.alloc (.cells zMsg 26 (0, 0))).alloc (.cells #[.int .i64 c] 30 (0, 0))).alloc (.cells cs 87 (0, 0))) w.heap.size zMsg 26 ∧ Below w.heap.size w ((w.alloc (.cells zMsg 26 (0, 0))).alloc (.cells #[.int .i64 c] 30 (0, 0))) ∧
    SAt (((w.alloc (.cells zMsg 26 (0, 0))).alloc (.cells #[.int .i64 c] 30 (0, 0))).alloc (.cells cs 87 (0, 0))) (w.heap.size + 1) #[.int .i64 c] 30 ∧ SAt (((w.alloc (.cells zMsg 26 (0, 0))).alloc (.cells #[.int .i64 c] 30 (0, 0))).alloc (.cells cs 87 (0, 0))) (w.heap.size + 1 + 1) cs 87 ∧
    Below w.heap.size w (((w.alloc (.cells zMsg 26 (0, 0))).alloc (.cells #[.int .i64 c] 30 (0, 0))).alloc (.cells cs 87 (0, 0))) := by
  have b1 : Below w.heap.size w (w.alloc (.cells zMsg 26 (0, 0))) := below_alloc (Below.refl _ _) _
  have s1 : w.heap.size ≤ (w.alloc (.cells zMsg 26 (0, 0))).heap.size := b1.size
  have b2 := b1.trans ((below_alloc (Below.refl _ (w.alloc (.cells zMsg 26 (0, 0)))) (.cells #[.int .i64 c] 30 (0, 0))).mono s1)
  have b3 := b2.trans ((below_alloc (Below.refl _ ((w.alloc (.cells zMsg 26 (0, 0))).alloc (.cells #[.int .i64 c] 30 (0, 0)))) (.cells cs 87 (0, 0))).mono b2.size)
  have v1 := SAt.new w zMsg 26
  have v2 := v1.below (below_alloc (Below.refl _ _) (.cells #[.int .i64 c] 30 (0, 0)))
  have e2 : SAt ((w.alloc (.cells zMsg 26 (0, 0))).alloc (.cells #[.int .i64 c] 30 (0, 0))) (w.heap.size + 1) #[.int .i64 c] 30 := by
    show ((w.heap.push _).push _)[w.heap.size + 1]? = _
    exact heap_two' _ _ _
  refine ⟨v2, e2, v2.below (below_alloc (Below.refl _ _) _), b2, e2.below (below_alloc (Below.refl _ _) _), ?_, b3⟩
  show (((w.heap.push _).push _).push _)[w.heap.size + 2]? = _
  exact heap_three _ _ _ _
theorem MsgP.setE {B : Nat} {mm : Msg} {v : Value} {w : World} {r : Nat} {cs : Array Value} (h : MsgP B mm v w) (hx : SAt w r cs 30) (j : Nat) (u : Value) : MsgP B mm v (w.setCell ⟨r, j, none⟩ u) := by
  obtain ⟨v2, v3, v4, v5, h1, h2, h3, h4, h5⟩ := h
  exact ⟨v2, v3, v4, v5, h1, Kd.R_set h2 hx (by decide) j u, Kd.R_set h3 hx (by decide) j u, Kd.R_set h4 hx (by decide) j u, Kd.R_set h5 hx (by decide) j u⟩
/-- What holds while the results are laid. -/
structure Laid (w0 w : World) (m p B : Nat) (mm : Msg) (v : Value) (cs : Array Value) : Prop where
  vm : SAt w m cs 26
  vp : SAt w p #[.int .i64 0] 30
  b : Below w0.heap.size w0 w
  P : MsgP B mm v w
  ne : m ≠ p
  sz : w0.heap.size ≤ m
theorem Laid.step {w0 w : World} {m p B : Nat} {mm : Msg} {v : Value} {cs : Array Value} (h : Laid w0 w m p B mm v cs) (j : Nat) (u : Value) : Laid w0 (w.setCell ⟨m, j, none⟩ u) m p B mm v (cs.setIfInBounds j u) :=
  ⟨h.vm.set j u, h.vp.far (Ne.symm h.ne) j u, h.b.setCell h.sz u, h.P.set h.vm j u, h.ne, h.sz⟩
def ReadPost (x : Msg × Int) (w : World) (e : Ending) (w' : World) : Prop := (∃ v, e = .returned (.tuple #[v, .int .i64 x.2]) ∧ MsgAt w' v x.1) ∧ Below w.heap.size w w'
/-- The same, with rows that were made by the call. -/
def ReadOwn (x : Msg × Int) (w : World) (e : Ending) (w' : World) : Prop := (∃ v, e = .returned (.tuple #[v, .int .i64 x.2]) ∧ MsgP w.heap.size x.1 v w') ∧ Below w.heap.size w w'
theorem ReadOwn.post {x : Msg × Int} {w : World} {e : Ending} {w' : World} (h : ReadOwn x w e w') : ReadPost x w e w' := by
  obtain ⟨⟨v, he, hp⟩, hb⟩ := h
  exact ⟨⟨v, he, msgAt_of hp⟩, hb⟩
theorem MsgP.lower {B B' : Nat} {m : Msg} {v : Value} {w : World} (h : MsgP B m v w) (hb : B' ≤ B) : MsgP B' m v w := by
  obtain ⟨v2, v3, v4, v5, h1, h2, h3, h4, h5⟩ := h
  exact ⟨v2, v3, v4, v5, h1, Kd.R_lower h2 hb, Kd.R_lower h3 hb, Kd.R_lower h4 hb, Kd.R_lower h5 hb⟩
theorem zM_own (B : Nat) (w : World) : MsgP B zM (.agg zMsg) w := ⟨_, _, _, _, rfl, Kd.R_nil _ _ _ _ _, Kd.R_nil _ _ _ _ _, Kd.R_nil _ _ _ _ _, Kd.R_nil _ _ _ _ _⟩
set_option maxHeartbeats 4000000 in
set_option maxRecDepth 100000 in
theorem Read_reads (s : ByteArray) (w : World) (hs : s.size ≤ 1000000) :
    Calls Try.prog 24 #[.string s] w fun e w' => ReadOwn (readF s) w e w' := by
  obtain ⟨R, hR⟩ : ∃ R, readF s = R := ⟨_, rfl⟩
  rw [hR]
  unfold readF at hR
  by_cases hl : 65535 < s.size
  · rw [if_pos hl] at hR
    subst hR
    have d1 : decide ((65535 : Int) < (s.size : Int)) = true := decide_eq_true (by omega)
    have d2 : decide (65535 < s.size) = true := decide_eq_true hl
    clear hl
    have HW := Aside0.mk (three_new w 3 #[])
    go_enter_defers Try.func24, Try.ntmps24
    go_wp2_with fail
    obtain ⟨hv, hp, -, hb, -⟩ := HW.out
    clear HW
    generalize hW : (w.alloc (.cells zMsg 26 (0, 0))).alloc (.cells #[.int .i64 3] 30 (0, 0)) = W2 at *
    rw [show ((w.alloc (.cells #[.int .u16 0, .int .u16 0, .slice none 0 0, .slice none 0 0, .slice none 0 0, .slice none 0 0] 26 (0, 0))).alloc (.cells #[.int .i64 3] 30 (0, 0))) = W2 from hW]
    clear hW
    have z0 := hv.is 0 rfl
    have z1 := hv.is 1 rfl
    have z2 := hv.is 2 rfl
    have z3 := hv.is 3 rfl
    have z4 := hv.is 4 rfl
    have z5 := hv.is 5 rfl
    have e0 := hp.is 0 rfl
    refine ⟨.tuple #[.agg zMsg, .int .i64 3], by simp [results, Try.results24, go_sem, z0, z1, z2, z3, z4, z5, e0, zMsg], ⟨_, rfl, zM_own _ _⟩, hb⟩
  · rw [if_neg hl] at hR
    have d1 : decide ((65535 : Int) < (s.size : Int)) = false := decide_eq_false (by omega)
    have d2 : decide (65535 < s.size) = false := decide_eq_false hl
    clear hl
    have HW := Aside0.mk (three_new w 0 #[.string s, .int .i64 0])
    go_enter_defers Try.func24, Try.ntmps24
    go_wp2_with fail
    obtain ⟨-, -, hv, -, hp, hr, hb⟩ := HW.out
    clear HW
    have hr : RAt _ (w.heap.size + 1 + 1) s 0 := hr
    have HSZ := Aside0.mk hb.size
    generalize hW : ((w.alloc (.cells zMsg 26 (0, 0))).alloc (.cells #[.int .i64 0] 30 (0, 0))).alloc (.cells #[.string s, .int .i64 0] 87 (0, 0)) = W2 at *
    rw [show (((w.alloc (.cells #[.int .u16 0, .int .u16 0, .slice none 0 0, .slice none 0 0, .slice none 0 0, .slice none 0 0] 26 (0, 0))).alloc (.cells #[.int .i64 0] 30 (0, 0))).alloc (.cells #[.string s, .int .i64 0] 87 (0, 0))) = W2 from hW]
    clear hW
    obtain ⟨m, hm⟩ : ∃ m, w.heap.size = m := ⟨_, rfl⟩
    obtain ⟨p, hpp⟩ : ∃ p, m + 1 = p := ⟨_, rfl⟩
    obtain ⟨g, hg⟩ : ∃ g, p + 1 = g := ⟨_, rfl⟩
    have hzm : w.heap.size ≤ m := by omega
    have hzp : w.heap.size ≤ p := by omega
    have hzg : w.heap.size ≤ g := by omega
    have hmp : m ≠ p := by omega
    have hpm := Ne.symm hmp
    rw [hm] at hv
    rw [hm, hpp] at hp
    rw [hm, hpp, hg] at hr
    rw [hm, hpp, hg]
    clear hm hpp hg
    refine (message_reads hr hs).mono ?_
    intro e w2 ht
    have hb2 : Below w.heap.size w w2 := ht.only.below hb hb.size hzg
    have hv2 := hv.only hr (by decide) ht.only
    have hp2 := hp.only hr (by decide) ht.only
    have e0 : w2.cell? ⟨p, 0, none⟩ = some (.int .i64 0) := hp2.is 0 rfl
    have f0 := hp2.frozen 0
    cases hn : msgR s with
    | error c =>
      rw [hn] at hR
      subst hR
      obtain rfl := ht.bad c hn
      refine leaves_cons (f := 43) (args := #[.pointer (some ⟨p, 0, none⟩)]) (by simp) (by simp [go_sem]) ?_
      refine (caught_panic ⟨p, 0, none⟩ _ c _ e0 f0).mono ?_
      rintro e u' w'' ⟨rfl, rfl, rfl⟩
      have hv3 := hv2.far hmp 0 (.int .i64 c)
      have hp3 : SAt _ p #[.int .i64 c] 30 := hp2.set 0 (.int .i64 c)
      have hb3 : Below w.heap.size w (w2.setCell ⟨p, 0, none⟩ (.int .i64 c)) := hb2.setCell hzp _
      clear e0 f0
      generalize w2.setCell ⟨p, 0, none⟩ (.int .i64 c) = w3 at *
      have z0 := hv3.is 0 rfl
      have z1 := hv3.is 1 rfl
      have z2 := hv3.is 2 rfl
      have z3 := hv3.is 3 rfl
      have z4 := hv3.is 4 rfl
      have z5 := hv3.is 5 rfl
      have e0 := hp3.is 0 rfl
      show Leaves _ _ _ _ _ (settle _) _
      simp only [settle, List.dropWhile_nil]
      refine ⟨.tuple #[.agg zMsg, .int .i64 c], by simp [results, Try.results24, go_sem, z0, z1, z2, z3, z4, z5, e0, zMsg], ⟨_, rfl, zM_own _ _⟩, hb3⟩
    | ok x =>
      obtain ⟨mm, nx⟩ := x
      rw [hn] at hR
      subst hR
      obtain ⟨v, rfl, hP, hr2⟩ := ht.good mm nx hn
      obtain ⟨v2, v3, v4, v5, rfl, q2, q3, q4, q5⟩ := hP
      obtain ⟨A2, l2, c2, rfl⟩ := R_anyslice q2
      obtain ⟨A3, l3, c3, rfl⟩ := R_anyslice q3
      obtain ⟨A4, l4, c4, rfl⟩ := R_anyslice q4
      obtain ⟨A5, l5, c5, rfl⟩ := R_anyslice q5
      have P0 : MsgP W2.heap.size mm (.agg #[.int .u16 mm.id, .int .u16 mm.flags, .slice A2 l2 c2, .slice A3 l3 c3, .slice A4 l4 c4, .slice A5 l5 c5]) w2 := ⟨_, _, _, _, rfl, q2, q3, q4, q5⟩
      clear ht hn q2 q3 q4 q5
      have z0 := hv2.is 0 rfl
      have z1 := hv2.is 1 rfl
      have z2 := hv2.is 2 rfl
      have z3 := hv2.is 3 rfl
      have z4 := hv2.is 4 rfl
      have z5 := hv2.is 5 rfl
      have y0 := hv2.frozen 0
      have y1 := hv2.frozen 1
      have y2 := hv2.frozen 2
      have y3 := hv2.frozen 3
      have y4 := hv2.frozen 4
      have y5 := hv2.frozen 5
      go_wp2_with fail
      clear z0 z1 z2 z3 z4 z5 y0 y1 y2 y3 y4 y5 e0 f0
      have L0 : Laid w w2 m p W2.heap.size mm (.agg #[.int .u16 mm.id, .int .u16 mm.flags, .slice A2 l2 c2, .slice A3 l3 c3, .slice A4 l4 c4, .slice A5 l5 c5]) zMsg := ⟨hv2, hp2, hb2, P0, hmp, hzm⟩
      have L6 := (((((L0.step 0 (.int .u16 mm.id)).step 1 (.int .u16 mm.flags)).step 2 (.slice A2 l2 c2)).step 3 (.slice A3 l3 c3)).step 4 (.slice A4 l4 c4)).step 5 (.slice A5 l5 c5)
      clear L0 P0 hv2 hp2 hb2 hr2
      generalize hW : (((((w2.setCell ⟨m, 0, none⟩ (.int .u16 mm.id)).setCell ⟨m, 1, none⟩ (.int .u16 mm.flags)).setCell ⟨m, 2, none⟩ (.slice A2 l2 c2)).setCell ⟨m, 3, none⟩ (.slice A3 l3 c3)).setCell ⟨m, 4, none⟩ (.slice A4 l4 c4)).setCell ⟨m, 5, none⟩ (.slice A5 l5 c5) = w3 at *
      have hv9 : SAt (w3.setCell ⟨p, 0, none⟩ (.int .i64 0)) m #[.int .u16 mm.id, .int .u16 mm.flags, .slice A2 l2 c2, .slice A3 l3 c3, .slice A4 l4 c4, .slice A5 l5 c5] 26 := SAt.far (show SAt w3 m #[.int .u16 mm.id, .int .u16 mm.flags, .slice A2 l2 c2, .slice A3 l3 c3, .slice A4 l4 c4, .slice A5 l5 c5] 26 from L6.vm) hmp 0 _
      have hp9 : SAt (w3.setCell ⟨p, 0, none⟩ (.int .i64 0)) p #[.int .i64 0] 30 := L6.vp.set 0 (.int .i64 0)
      have hb9 : Below w.heap.size w (w3.setCell ⟨p, 0, none⟩ (.int .i64 0)) := L6.b.setCell hzp _
      have P9 := L6.P.setE L6.vp 0 (.int .i64 0)
      clear L6
      generalize w3.setCell ⟨p, 0, none⟩ (.int .i64 0) = w4 at *
      refine leaves_cons (f := 43) (args := #[.pointer (some ⟨p, 0, none⟩)]) (by simp) (by simp [go_sem]) ?_
      refine (caught_idle ⟨p, 0, none⟩ _).mono ?_
      rintro e u' w'' ⟨rfl, rfl, rfl⟩
      have z0 := hv9.is 0 rfl
      have z1 := hv9.is 1 rfl
      have z2 := hv9.is 2 rfl
      have z3 := hv9.is 3 rfl
      have z4 := hv9.is 4 rfl
      have z5 := hv9.is 5 rfl
      have e0 := hp9.is 0 rfl
      show Leaves _ _ _ _ _ (settle _) _
      simp only [settle]
      refine ⟨.tuple #[.agg #[.int .u16 mm.id, .int .u16 mm.flags, .slice A2 l2 c2, .slice A3 l3 c3, .slice A4 l4 c4, .slice A5 l5 c5], .int .i64 0], by simp [results, Try.results24, go_sem, z0, z1, z2, z3, z4, z5, e0], ⟨_, rfl, P9.lower HSZ.out⟩, hb9⟩
theorem Read_calls (s : ByteArray) (w : World) (hs : s.size ≤ 1000000) :
    Calls Try.prog 24 #[.string s] w fun e w' => ReadPost (readF s) w e w' := (Read_reads s w hs).mono (fun _ _ h => h.post)
def nameT : Except Int (List Int × Int) → Ending
  | .error c => .returned (.tuple #[.string ⟨#[]⟩, .int .i64 0, .int .i64 c])
  | .ok (b, nx) => .returned (.tuple #[.string (strOfNums b), .int .i64 nx, .int .i64 0])
end Go.Proofs.Ytbbeikdbioelgaa.M
