/- Walk of route.Route. -/
import Derived.Test.YtfoflodgegehfaaMBytes
import Derived.Test.YtfoflodgegehfaaMRDns
set_option linter.unusedVariables false
set_option linter.unusedSimpArgs false
namespace Go.Proofs.Ytfoflodgegehfaa.M
open Go.RowKit Go.Maps Go.Proofs.YtfoflodgegehfaaW.PrintWords Go.Proofs.YtfoflodgegehfaaW.PrintLast Go.Proofs.YtfoflodgegehfaaW.PrintMore
attribute [local go_sem] max2_int min2_int max_two min_two max_three min_three max_four min_four
attribute [local go_sem ↓] Go.wp_at_zero Go.wp_at_succ
theorem zM_sm : MsgSm zM := ⟨by decide, by decide, by decide, by decide, by decide, by decide, fun _ h => absurd h (by simp [zM]), fun _ h => absurd h (by simp [zM])⟩
theorem readF_sm (s : ByteArray) : MsgSm (readF s).1 := by
  unfold readF
  split
  · exact zM_sm
  · cases h : msgR s with
    | error c => exact zM_sm
    | ok x => exact msg_sm (show msgR s = .ok (x.1, x.2) from h) (by omega)
theorem readF_err {s : ByteArray} (h : (readF s).2 ≠ 0) : (readF s).1 = zM := by
  unfold readF at h ⊢
  by_cases c : 65535 < s.size
  · rw [if_pos c]
  · rw [if_neg c] at h ⊢
    cases hm : msgR s with
    | error c => rfl
    | ok x => rw [hm] at h; exact absurd rfl h
theorem readF_three (s : ByteArray) : (readF s).2 = 3 ↔ 65535 < s.size := by
  unfold readF
  by_cases c : 65535 < s.size
  · rw [if_pos c]; exact ⟨fun _ => c, fun _ => rfl⟩
  · rw [if_neg c]
    refine ⟨fun h => ?_, fun h => absurd h c⟩
    cases hm : msgR s with
    | error d => rw [hm] at h; exact absurd h (msgR_er3 hm).2
    | ok x => rw [hm] at h; exact absurd h (show ¬ (0 : Int) = 3 by decide)
/-- What bytes ask for. -/
def routeS (s : ByteArray) : Msg × Key × Int :=
  if (readF s).2 = 3 then (zM, zKey, 413) else if (readF s).2 ≠ 0 then (zM, zKey, 400) else
  match askF (readF s).1 with
  | none => (zM, zKey, 400)
  | some k => ((readF s).1, k, 200)
/-- What a request asks for. -/
def routeF (r : Req) (body : ByteArray) : Msg × Key × Int := if (bytesF r body).2 ≠ 200 then (zM, zKey, (bytesF r body).2) else routeS (bytesF r body).1
theorem MsgP.setA {B : Nat} {mm : Msg} {v : Value} {w : World} {r : Nat} {cs : Array Value} (h : MsgP B mm v w) (hx : SAt w r cs 35) (j : Nat) (u : Value) : MsgP B mm v (w.setCell ⟨r, j, none⟩ u) := by
  obtain ⟨v2, v3, v4, v5, h1, h2, h3, h4, h5⟩ := h
  exact ⟨v2, v3, v4, v5, h1, Kd.R_set h2 hx (by decide) j u, Kd.R_set h3 hx (by decide) j u, Kd.R_set h4 hx (by decide) j u, Kd.R_set h5 hx (by decide) j u⟩
theorem MsgP.setK {B : Nat} {mm : Msg} {v : Value} {w : World} {r : Nat} {cs : Array Value} (h : MsgP B mm v w) (hx : SAt w r cs 37) (j : Nat) (u : Value) : MsgP B mm v (w.setCell ⟨r, j, none⟩ u) := by
  obtain ⟨v2, v3, v4, v5, h1, h2, h3, h4, h5⟩ := h
  exact ⟨v2, v3, v4, v5, h1, Kd.R_set h2 hx (by decide) j u, Kd.R_set h3 hx (by decide) j u, Kd.R_set h4 hx (by decide) j u, Kd.R_set h5 hx (by decide) j u⟩
theorem MsgP.bel {B : Nat} {mm : Msg} {v : Value} {w w1 : World} (h : MsgP B mm v w) (hb : Below w.heap.size w w1) : MsgP B mm v w1 := by
  obtain ⟨v2, v3, v4, v5, h1, h2, h3, h4, h5⟩ := h
  exact ⟨v2, v3, v4, v5, h1, Kd.R_below h2 hb, Kd.R_below h3 hb, Kd.R_below h4 hb, Kd.R_below h5 hb⟩
theorem MsgP.drew {B : Nat} {mm : Msg} {v : Value} {w : World} (h : MsgP B mm v w) : MsgP B mm v w.drew := h
/-- The results' boxes. -/
structure RS (w0 w : World) (a b : Nat) (ms ks : Array Value) (B : Nat) (mm : Msg) (v : Value) : Prop where
  am : SAt w a ms 35
  bk : SAt w b ks 37
  bl : Below w0.heap.size w0 w
  ne : a ≠ b
  la : w0.heap.size ≤ a
  lb : w0.heap.size ≤ b
  p : MsgP B mm v w
section
variable {w0 w w1 : World} {a b B : Nat} {ms ks : Array Value} {mm : Msg} {v : Value}
theorem RS.setm (h : RS w0 w a b ms ks B mm v) (j : Nat) (u : Value) : RS w0 (w.setCell ⟨a, j, none⟩ u) a b (ms.setIfInBounds j u) ks B mm v :=
  ⟨h.am.set j u, h.bk.far (Ne.symm h.ne) j u, h.bl.setCell h.la u, h.ne, h.la, h.lb, h.p.setA h.am j u⟩
theorem RS.setk (h : RS w0 w a b ms ks B mm v) (j : Nat) (u : Value) : RS w0 (w.setCell ⟨b, j, none⟩ u) a b ms (ks.setIfInBounds j u) B mm v :=
  ⟨h.am.far h.ne j u, h.bk.set j u, h.bl.setCell h.lb u, h.ne, h.la, h.lb, h.p.setK h.bk j u⟩
theorem RS.call (h : RS w0 w a b ms ks B mm v) (hb : Below w.heap.size w w1) : RS w0 w1 a b ms ks B mm v :=
  ⟨h.am.below hb, h.bk.below hb, below_step h.bl hb, h.ne, h.la, h.lb, h.p.bel hb⟩
theorem RS.drew (h : RS w0 w a b ms ks B mm v) : RS w0 w.drew a b ms ks B mm v := ⟨h.am, h.bk, h.bl.drew, h.ne, h.la, h.lb, h.p⟩
theorem RS.msg (h : RS w0 w a b ms ks B mm v) {B' : Nat} {m2 : Msg} {v2 : Value} (hp : MsgP B' m2 v2 w) : RS w0 w a b ms ks B' m2 v2 := ⟨h.am, h.bk, h.bl, h.ne, h.la, h.lb, hp⟩
end
def zKc : Array Value := #[.string ⟨#[]⟩, .int .u16 0, .int .u16 0, .bool false]
theorem heap_3z (h : Array Obj) (a b c : Obj) : (((h.push a).push b).push c)[h.size]? = some a := by
  rw [Array.getElem?_push, if_neg (by simp; omega), Array.getElem?_push, if_neg (by simp), Array.getElem?_push, if_pos rfl]
theorem three_new' (w : World) (es cs ds : Array Value) (S T U : Nat) :
    SAt (((w.alloc (.cells es S (0, 0))).alloc (.cells cs T (0, 0))).alloc (.cells ds U (0, 0))) w.heap.size es S ∧ SAt (((w.alloc (.cells es S (0, 0))).alloc (.cells cs T (0, 0))).alloc (.cells ds U (0, 0))) (w.heap.size + 1) cs T ∧ SAt (((w.alloc (.cells es S (0, 0))).alloc (.cells cs T (0, 0))).alloc (.cells ds U (0, 0))) (w.heap.size + 1 + 1) ds U ∧ Below w.heap.size w (((w.alloc (.cells es S (0, 0))).alloc (.cells cs T (0, 0))).alloc (.cells ds U (0, 0))) :=
  ⟨heap_3z _ _ _ _, (three_at w _ cs ds T U).1, (three_at w _ cs ds T U).2.1, (three_at w _ cs ds T U).2.2⟩
/-- How a route ends. -/
def RoutePost (x : Msg × Key × Int) (w : World) (e : Ending) (w' : World) : Prop := (∃ v, e = .returned (.tuple #[v, x.2.1.v, .int .i64 x.2.2]) ∧ MsgAt w' v x.1) ∧ Below w.heap.size w w'
theorem RS.zero {w0 w : World} {a b B : Nat} {x0 x1 x2 x3 x4 x5 y0 y1 y2 y3 v : Value} {mm : Msg} (h : RS w0 w a b #[x0, x1, x2, x3, x4, x5] #[y0, y1, y2, y3] B mm v) :
    RS w0 ((((((((((w.setCell ⟨a, 0, none⟩ (.int .u16 0)).setCell ⟨a, 1, none⟩ (.int .u16 0)).setCell ⟨a, 2, none⟩ (.slice none 0 0)).setCell ⟨a, 3, none⟩ (.slice none 0 0)).setCell ⟨a, 4, none⟩ (.slice none 0 0)).setCell ⟨a, 5, none⟩ (.slice none 0 0)).setCell ⟨b, 0, none⟩ (.string ⟨#[]⟩)).setCell ⟨b, 1, none⟩ (.int .u16 0)).setCell ⟨b, 2, none⟩ (.int .u16 0)).setCell ⟨b, 3, none⟩ (.bool false)) a b zMsg zKc B mm v := by
  have L := ((((((((((h.setm 0 (.int .u16 0)).setm 1 (.int .u16 0)).setm 2 (.slice none 0 0)).setm 3 (.slice none 0 0)).setm 4 (.slice none 0 0)).setm 5 (.slice none 0 0)).setk 0 (.string ⟨#[]⟩)).setk 1 (.int .u16 0)).setk 2 (.int .u16 0)).setk 3 (.bool false))
  unfold zMsg zKc
  simpa using L
theorem RS.mset {w0 w : World} {a b B : Nat} {x0 x1 x2 x3 x4 x5 v u0 u1 u2 u3 u4 u5 : Value} {ks : Array Value} {mm : Msg} (h : RS w0 w a b #[x0, x1, x2, x3, x4, x5] ks B mm v) :
    RS w0 ((((((w.setCell ⟨a, 0, none⟩ u0).setCell ⟨a, 1, none⟩ u1).setCell ⟨a, 2, none⟩ u2).setCell ⟨a, 3, none⟩ u3).setCell ⟨a, 4, none⟩ u4).setCell ⟨a, 5, none⟩ u5) a b #[u0, u1, u2, u3, u4, u5] ks B mm v := by
  have L := (((((h.setm 0 u0).setm 1 u1).setm 2 u2).setm 3 u3).setm 4 u4).setm 5 u5
  simpa using L
theorem RS.kset {w0 w : World} {a b B : Nat} {x0 x1 x2 x3 v u0 u1 u2 u3 : Value} {ms : Array Value} {mm : Msg} (h : RS w0 w a b ms #[x0, x1, x2, x3] B mm v) :
    RS w0 ((((w.setCell ⟨b, 0, none⟩ u0).setCell ⟨b, 1, none⟩ u1).setCell ⟨b, 2, none⟩ u2).setCell ⟨b, 3, none⟩ u3) a b ms #[u0, u1, u2, u3] B mm v := by
  have L := (((h.setk 0 u0).setk 1 u1).setk 2 u2).setk 3 u3
  simpa using L
theorem rs_cells {w0 w : World} {a b B : Nat} {x0 x1 x2 x3 x4 x5 u0 u1 u2 u3 v : Value} {mm : Msg} (h : RS w0 w a b #[x0, x1, x2, x3, x4, x5] #[u0, u1, u2, u3] B mm v) :
    ((w.cell? ⟨a, 0, none⟩ = some x0 ∧ w.cell? ⟨a, 1, none⟩ = some x1 ∧ w.cell? ⟨a, 2, none⟩ = some x2 ∧ w.cell? ⟨a, 3, none⟩ = some x3 ∧ w.cell? ⟨a, 4, none⟩ = some x4 ∧ w.cell? ⟨a, 5, none⟩ = some x5) ∧
    (w.cell? ⟨b, 0, none⟩ = some u0 ∧ w.cell? ⟨b, 1, none⟩ = some u1 ∧ w.cell? ⟨b, 2, none⟩ = some u2 ∧ w.cell? ⟨b, 3, none⟩ = some u3)) ∧ Aside0 (RS w0 w a b #[x0, x1, x2, x3, x4, x5] #[u0, u1, u2, u3] B mm v) :=
  ⟨⟨⟨h.am.is 0 rfl, h.am.is 1 rfl, h.am.is 2 rfl, h.am.is 3 rfl, h.am.is 4 rfl, h.am.is 5 rfl⟩, h.bk.is 0 rfl, h.bk.is 1 rfl, h.bk.is 2 rfl, h.bk.is 3 rfl⟩, ⟨h⟩⟩
set_option maxHeartbeats 8000000 in
set_option maxRecDepth 100000 in
theorem route_calls (r : Req) (body : ByteArray) (w : World) (hp : r.path.size ≤ 100000) (hbd : body.size ≤ 100000) :
    Calls Try.prog 15 #[r.v, .string body] w fun e w' => RoutePost (routeF r body) w e w' := by
  obtain ⟨R, hR⟩ : ∃ R, routeF r body = R := ⟨_, rfl⟩
  rw [hR]
  unfold routeF at hR
  have hs := fun w => bytes_calls r body w hp
  have hz : (bytesF r body).1.size ≤ 100000 := by
    unfold bytesF
    repeat' split
    · exact Nat.zero_le _
    · exact Nat.zero_le _
    · exact hbd
    · exact Nat.zero_le _
    · unfold getF'
      have h1 := decB_size (paramF (cutB r.path 63) dnsT).1
      have h2 := paramF_size (cutB r.path 63) dnsT
      have h3 := cutB_size r.path 63
      generalize decB (paramF (cutB r.path 63) dnsT).1 = dd at *
      repeat' split
      · exact Nat.zero_le _
      · exact Nat.zero_le _
      · show dd.1.size ≤ _
        omega
  generalize bytesF r body = y at *
  obtain ⟨s, st⟩ := y
  simp only [] at hR hs hz
  obtain ⟨me, pa, te, md, ha, le⟩ := r
  simp only [Req.v, Req.cs] at *
  clear hp hbd
  go_enter Try.func15, Try.ntmps15
  go_upto_region 1 with fail
  obtain ⟨HR0, HM0, HK0, HB0⟩ := three_new' w #[.string me, .string pa, .string te, .string md, .bool ha, .int .i64 le] zMsg zKc 30 35 37
  have la : w.heap.size ≤ w.heap.size + 1 := by omega
  have lb : w.heap.size ≤ w.heap.size + 1 + 1 := by omega
  have nab : w.heap.size + 1 ≠ w.heap.size + 1 + 1 := by omega
  unfold zMsg zKc at HM0 HK0 HR0 HB0
  generalize hW : (((w.alloc (.cells #[.string me, .string pa, .string te, .string md, .bool ha, .int .i64 le] 30 (0, 0))).alloc (.cells #[.int .u16 0, .int .u16 0, .slice none 0 0, .slice none 0 0, .slice none 0 0, .slice none 0 0] 35 (0, 0))).alloc (.cells #[.string ⟨#[]⟩, .int .u16 0, .int .u16 0, .bool false] 37 (0, 0))) = w1 at *
  clear hW
  obtain ⟨b, hbb⟩ : ∃ b, w.heap.size + 1 + 1 = b := ⟨_, rfl⟩
  rw [hbb] at HK0 lb nab
  rw [hbb]
  clear hbb
  obtain ⟨a, haa⟩ : ∃ a, w.heap.size + 1 = a := ⟨_, rfl⟩
  rw [haa] at HM0 la nab
  rw [haa]
  clear haa
  have D1 := Aside0.mk (show RS w w1 a b zMsg zKc 0 zM (.agg zMsg) from ⟨HM0, HK0, HB0, nab, la, lb, zM_own _ _⟩)
  clear HM0 HK0 HB0 la lb nab
  have z0 := HR0.is 0 rfl
  have z1 := HR0.is 1 rfl
  have z2 := HR0.is 2 rfl
  have z3 := HR0.is 3 rfl
  have z4 := HR0.is 4 rfl
  have z5 := HR0.is 5 rfl
  go_wp2_with fail
  clear z0 z1 z2 z3 z4 z5 HR0
  refine (hs _).mono ?_
  rintro e w2 ⟨rfl, hb⟩
  have D2 := Aside0.mk (D1.out.call hb)
  clear hb D1 hs
  by_cases c1 : st ≠ 200
  · rw [if_pos c1] at hR
    subst hR
    have d1 : (st != 200) = true := bne_iff_ne.mpr c1
    clear c1
    have z0 := D2.out.am.is 0 rfl
    have z1 := D2.out.am.is 1 rfl
    have z2 := D2.out.am.is 2 rfl
    have z3 := D2.out.am.is 3 rfl
    have z4 := D2.out.am.is 4 rfl
    have z5 := D2.out.am.is 5 rfl
    have y0 := D2.out.am.frozen 0
    have y1 := D2.out.am.frozen 1
    have y2 := D2.out.am.frozen 2
    have y3 := D2.out.am.frozen 3
    have y4 := D2.out.am.frozen 4
    have y5 := D2.out.am.frozen 5
    have k0 := D2.out.bk.is 0 rfl
    have k1 := D2.out.bk.is 1 rfl
    have k2 := D2.out.bk.is 2 rfl
    have k3 := D2.out.bk.is 3 rfl
    have fk0 := D2.out.bk.frozen 0
    have fk1 := D2.out.bk.frozen 1
    have fk2 := D2.out.bk.frozen 2
    have fk3 := D2.out.bk.frozen 3
    have nab := D2.out.ne
    have nba := Ne.symm D2.out.ne
    go_wp2_with fail
    clear k0 k1 k2 k3 fk0 fk1 fk2 fk3
    clear z0 z1 z2 z3 z4 z5 y0 y1 y2 y3 y4 y5 nab nba
    have L := D2.out.zero
    have z0 : World.cell? _ ⟨a, 0, none⟩ = some (.int .u16 0) := L.am.is 0 rfl
    have z1 : World.cell? _ ⟨a, 1, none⟩ = some (.int .u16 0) := L.am.is 1 rfl
    have z2 : World.cell? _ ⟨a, 2, none⟩ = some (.slice none 0 0) := L.am.is 2 rfl
    have z3 : World.cell? _ ⟨a, 3, none⟩ = some (.slice none 0 0) := L.am.is 3 rfl
    have z4 : World.cell? _ ⟨a, 4, none⟩ = some (.slice none 0 0) := L.am.is 4 rfl
    have z5 : World.cell? _ ⟨a, 5, none⟩ = some (.slice none 0 0) := L.am.is 5 rfl
    have k0 : World.cell? _ ⟨b, 0, none⟩ = some (.string ⟨#[]⟩) := L.bk.is 0 rfl
    have k1 : World.cell? _ ⟨b, 1, none⟩ = some (.int .u16 0) := L.bk.is 1 rfl
    have k2 : World.cell? _ ⟨b, 2, none⟩ = some (.int .u16 0) := L.bk.is 2 rfl
    have k3 : World.cell? _ ⟨b, 3, none⟩ = some (.bool false) := L.bk.is 3 rfl
    exact bodyPost_ret (v := .tuple #[.agg zMsg, zKey.v, .int .i64 st]) (by simp [results, Try.results15, go_sem, z0, z1, z2, z3, z4, z5, k0, k1, k2, k3, zMsg, zKey, Key.v]) rfl ⟨⟨_, rfl, zM_at _⟩, L.bl⟩
  rw [if_neg c1] at hR
  obtain rfl := Decidable.not_not.mp c1
  clear c1
  go_wp2_with fail
  refine (Read_reads s _ (by omega)).mono ?_
  rintro e w3 ⟨⟨v, rfl, hp⟩, hb⟩
  have hsm := readF_sm s
  have h0 := @readF_err s
  have h3 := readF_three s
  unfold routeS at hR
  generalize readF s = x at *
  obtain ⟨m, er⟩ := x
  simp only [] at *
  have D3' := Aside0.mk ((D2.out.call hb).msg hp)
  obtain ⟨v2, v3, v4, v5, rfl, q2, q3, q4, q5⟩ := hp
  obtain ⟨A2, l2, c2, rfl⟩ := R_anyslice q2
  obtain ⟨A3, l3, c3, rfl⟩ := R_anyslice q3
  obtain ⟨A4, l4, c4, rfl⟩ := R_anyslice q4
  obtain ⟨A5, l5, c5, rfl⟩ := R_anyslice q5
  have D3 : Aside0 (RS w w3 a b zMsg zKc w2.heap.size m (.agg #[.int .u16 m.id, .int .u16 m.flags, .slice A2 l2 c2, .slice A3 l3 c3, .slice A4 l4 c4, .slice A5 l5 c5])) := D3'
  clear q2 q3 q4 q5 hb D2 D3'
  have z0 := D3.out.am.is 0 rfl
  have z1 := D3.out.am.is 1 rfl
  have z2 := D3.out.am.is 2 rfl
  have z3 := D3.out.am.is 3 rfl
  have z4 := D3.out.am.is 4 rfl
  have z5 := D3.out.am.is 5 rfl
  have y0 := D3.out.am.frozen 0
  have y1 := D3.out.am.frozen 1
  have y2 := D3.out.am.frozen 2
  have y3 := D3.out.am.frozen 3
  have y4 := D3.out.am.frozen 4
  have y5 := D3.out.am.frozen 5
  have k0 := D3.out.bk.is 0 rfl
  have k1 := D3.out.bk.is 1 rfl
  have k2 := D3.out.bk.is 2 rfl
  have k3 := D3.out.bk.is 3 rfl
  have fk0 := D3.out.bk.frozen 0
  have fk1 := D3.out.bk.frozen 1
  have fk2 := D3.out.bk.frozen 2
  have fk3 := D3.out.bk.frozen 3
  have nab := D3.out.ne
  have nba := Ne.symm D3.out.ne
  go_upto_region 5 with fail
  clear k0 k1 k2 k3 fk0 fk1 fk2 fk3
  clear z0 z1 z2 z3 z4 z5 y0 y1 y2 y3 y4 y5 nab nba
  have D4' := D3.out.mset (u0 := .int .u16 m.id) (u1 := .int .u16 m.flags) (u2 := .slice A2 l2 c2) (u3 := .slice A3 l3 c3) (u4 := .slice A4 l4 c4) (u5 := .slice A5 l5 c5)
  generalize hW : (((((w3.setCell ⟨a, 0, none⟩ (.int .u16 m.id)).setCell ⟨a, 1, none⟩ (.int .u16 m.flags)).setCell ⟨a, 2, none⟩ (.slice A2 l2 c2)).setCell ⟨a, 3, none⟩ (.slice A3 l3 c3)).setCell ⟨a, 4, none⟩ (.slice A4 l4 c4)).setCell ⟨a, 5, none⟩ (.slice A5 l5 c5) = w4 at *
  have D4 : Aside0 (RS w w4 a b #[.int .u16 m.id, .int .u16 m.flags, .slice A2 l2 c2, .slice A3 l3 c3, .slice A4 l4 c4, .slice A5 l5 c5] zKc w2.heap.size m (.agg #[.int .u16 m.id, .int .u16 m.flags, .slice A2 l2 c2, .slice A3 l3 c3, .slice A4 l4 c4, .slice A5 l5 c5])) := ⟨D4'⟩
  clear hW D3 D4'
  by_cases c1 : er = 3
  · rw [if_pos c1] at hR
    subst hR
    have e1 : (er == 3) = true := beq_iff_eq.mpr c1
    clear c1 h3 h0
    have z0 := D4.out.am.is 0 rfl
    have z1 := D4.out.am.is 1 rfl
    have z2 := D4.out.am.is 2 rfl
    have z3 := D4.out.am.is 3 rfl
    have z4 := D4.out.am.is 4 rfl
    have z5 := D4.out.am.is 5 rfl
    have y0 := D4.out.am.frozen 0
    have y1 := D4.out.am.frozen 1
    have y2 := D4.out.am.frozen 2
    have y3 := D4.out.am.frozen 3
    have y4 := D4.out.am.frozen 4
    have y5 := D4.out.am.frozen 5
    have k0 := D4.out.bk.is 0 rfl
    have k1 := D4.out.bk.is 1 rfl
    have k2 := D4.out.bk.is 2 rfl
    have k3 := D4.out.bk.is 3 rfl
    have fk0 := D4.out.bk.frozen 0
    have fk1 := D4.out.bk.frozen 1
    have fk2 := D4.out.bk.frozen 2
    have fk3 := D4.out.bk.frozen 3
    have nab := D4.out.ne
    have nba := Ne.symm D4.out.ne
    go_wp2_with fail
    clear k0 k1 k2 k3 fk0 fk1 fk2 fk3
    clear z0 z1 z2 z3 z4 z5 y0 y1 y2 y3 y4 y5 nab nba
    have L := D4.out.zero
    have z0 : World.cell? _ ⟨a, 0, none⟩ = some (.int .u16 0) := L.am.is 0 rfl
    have z1 : World.cell? _ ⟨a, 1, none⟩ = some (.int .u16 0) := L.am.is 1 rfl
    have z2 : World.cell? _ ⟨a, 2, none⟩ = some (.slice none 0 0) := L.am.is 2 rfl
    have z3 : World.cell? _ ⟨a, 3, none⟩ = some (.slice none 0 0) := L.am.is 3 rfl
    have z4 : World.cell? _ ⟨a, 4, none⟩ = some (.slice none 0 0) := L.am.is 4 rfl
    have z5 : World.cell? _ ⟨a, 5, none⟩ = some (.slice none 0 0) := L.am.is 5 rfl
    have k0 : World.cell? _ ⟨b, 0, none⟩ = some (.string ⟨#[]⟩) := L.bk.is 0 rfl
    have k1 : World.cell? _ ⟨b, 1, none⟩ = some (.int .u16 0) := L.bk.is 1 rfl
    have k2 : World.cell? _ ⟨b, 2, none⟩ = some (.int .u16 0) := L.bk.is 2 rfl
    have k3 : World.cell? _ ⟨b, 3, none⟩ = some (.bool false) := L.bk.is 3 rfl
    exact bodyPost_ret (v := .tuple #[.agg zMsg, zKey.v, .int .i64 413]) (by simp [results, Try.results15, go_sem, z0, z1, z2, z3, z4, z5, k0, k1, k2, k3, zMsg, zKey, Key.v]) rfl ⟨⟨_, rfl, zM_at _⟩, L.bl⟩
  rw [if_neg c1] at hR
  have e1 : (er == 3) = false := beq_eq_false_iff_ne.mpr c1
  clear c1 h3
  have hask := fun W hv => ask_calls m (.agg #[.int .u16 m.id, .int .u16 m.flags, .slice A2 l2 c2, .slice A3 l3 c3, .slice A4 l4 c4, .slice A5 l5 c5]) W hv hsm
  have HASK := Aside0.mk hask
  clear hask
  have z0 := D4.out.am.is 0 rfl
  have z1 := D4.out.am.is 1 rfl
  have z2 := D4.out.am.is 2 rfl
  have z3 := D4.out.am.is 3 rfl
  have z4 := D4.out.am.is 4 rfl
  have z5 := D4.out.am.is 5 rfl
  have y0 := D4.out.am.frozen 0
  have y1 := D4.out.am.frozen 1
  have y2 := D4.out.am.frozen 2
  have y3 := D4.out.am.frozen 3
  have y4 := D4.out.am.frozen 4
  have y5 := D4.out.am.frozen 5
  have k0 := D4.out.bk.is 0 rfl
  have k1 := D4.out.bk.is 1 rfl
  have k2 := D4.out.bk.is 2 rfl
  have k3 := D4.out.bk.is 3 rfl
  have fk0 := D4.out.bk.frozen 0
  have fk1 := D4.out.bk.frozen 1
  have fk2 := D4.out.bk.frozen 2
  have fk3 := D4.out.bk.frozen 3
  have nab := D4.out.ne
  have nba := Ne.symm D4.out.ne
  go_wp2_with fail
  clear k0 k1 k2 k3 fk0 fk1 fk2 fk3
  clear z0 z1 z2 z3 z4 z5 y0 y1 y2 y3 y4 y5 nab nba
  refine (HASK.out _ (msgAt_of D4.out.p)).mono ?_
  rintro e w5 ⟨rfl, hb⟩
  have D5 := Aside0.mk (D4.out.call hb)
  clear hb D4 HASK e1
  by_cases c2 : er ≠ 0
  · rw [if_pos c2] at hR
    have hm := h0 c2
    have e2 : (er != 0) = true := bne_iff_ne.mpr c2
    have ha : askF m = none := by rw [hm]; decide
    rw [ha]
    unfold askE zKey Key.v
    simp only []
    subst hR
    clear c2 h0 hm ha
    have z0 := D5.out.am.is 0 rfl
    have z1 := D5.out.am.is 1 rfl
    have z2 := D5.out.am.is 2 rfl
    have z3 := D5.out.am.is 3 rfl
    have z4 := D5.out.am.is 4 rfl
    have z5 := D5.out.am.is 5 rfl
    have y0 := D5.out.am.frozen 0
    have y1 := D5.out.am.frozen 1
    have y2 := D5.out.am.frozen 2
    have y3 := D5.out.am.frozen 3
    have y4 := D5.out.am.frozen 4
    have y5 := D5.out.am.frozen 5
    have k0 := D5.out.bk.is 0 rfl
    have k1 := D5.out.bk.is 1 rfl
    have k2 := D5.out.bk.is 2 rfl
    have k3 := D5.out.bk.is 3 rfl
    have fk0 := D5.out.bk.frozen 0
    have fk1 := D5.out.bk.frozen 1
    have fk2 := D5.out.bk.frozen 2
    have fk3 := D5.out.bk.frozen 3
    have nab := D5.out.ne
    have nba := Ne.symm D5.out.ne
    go_upto_region 8 with fail
    clear k0 k1 k2 k3 fk0 fk1 fk2 fk3
    clear z0 z1 z2 z3 z4 z5 y0 y1 y2 y3 y4 y5 nab nba
    have D6' := D5.out.kset (u0 := (.string ⟨#[]⟩)) (u1 := (.int .u16 0)) (u2 := (.int .u16 0)) (u3 := (.bool false))
    generalize hW : (((w5.setCell ⟨b, 0, none⟩ (.string ⟨#[]⟩)).setCell ⟨b, 1, none⟩ (.int .u16 0)).setCell ⟨b, 2, none⟩ (.int .u16 0)).setCell ⟨b, 3, none⟩ (.bool false) = w6 at *
    have D6 : Aside0 (RS w w6 a b #[.int .u16 m.id, .int .u16 m.flags, .slice A2 l2 c2, .slice A3 l3 c3, .slice A4 l4 c4, .slice A5 l5 c5] zKc _ m _) := ⟨D6'⟩
    clear hW D5 D6'
    have z0 := D6.out.am.is 0 rfl
    have z1 := D6.out.am.is 1 rfl
    have z2 := D6.out.am.is 2 rfl
    have z3 := D6.out.am.is 3 rfl
    have z4 := D6.out.am.is 4 rfl
    have z5 := D6.out.am.is 5 rfl
    have y0 := D6.out.am.frozen 0
    have y1 := D6.out.am.frozen 1
    have y2 := D6.out.am.frozen 2
    have y3 := D6.out.am.frozen 3
    have y4 := D6.out.am.frozen 4
    have y5 := D6.out.am.frozen 5
    have k0 := D6.out.bk.is 0 rfl
    have k1 := D6.out.bk.is 1 rfl
    have k2 := D6.out.bk.is 2 rfl
    have k3 := D6.out.bk.is 3 rfl
    have fk0 := D6.out.bk.frozen 0
    have fk1 := D6.out.bk.frozen 1
    have fk2 := D6.out.bk.frozen 2
    have fk3 := D6.out.bk.frozen 3
    have nab := D6.out.ne
    have nba := Ne.symm D6.out.ne
    go_wp2_with fail
    clear k0 k1 k2 k3 fk0 fk1 fk2 fk3
    clear z0 z1 z2 z3 z4 z5 y0 y1 y2 y3 y4 y5 nab nba
    have L := D6.out.zero
    have z0 : World.cell? _ ⟨a, 0, none⟩ = some (.int .u16 0) := L.am.is 0 rfl
    have z1 : World.cell? _ ⟨a, 1, none⟩ = some (.int .u16 0) := L.am.is 1 rfl
    have z2 : World.cell? _ ⟨a, 2, none⟩ = some (.slice none 0 0) := L.am.is 2 rfl
    have z3 : World.cell? _ ⟨a, 3, none⟩ = some (.slice none 0 0) := L.am.is 3 rfl
    have z4 : World.cell? _ ⟨a, 4, none⟩ = some (.slice none 0 0) := L.am.is 4 rfl
    have z5 : World.cell? _ ⟨a, 5, none⟩ = some (.slice none 0 0) := L.am.is 5 rfl
    have k0 : World.cell? _ ⟨b, 0, none⟩ = some (.string ⟨#[]⟩) := L.bk.is 0 rfl
    have k1 : World.cell? _ ⟨b, 1, none⟩ = some (.int .u16 0) := L.bk.is 1 rfl
    have k2 : World.cell? _ ⟨b, 2, none⟩ = some (.int .u16 0) := L.bk.is 2 rfl
    have k3 : World.cell? _ ⟨b, 3, none⟩ = some (.bool false) := L.bk.is 3 rfl
    exact bodyPost_ret (v := .tuple #[.agg zMsg, zKey.v, .int .i64 400]) (by simp [results, Try.results15, go_sem, z0, z1, z2, z3, z4, z5, k0, k1, k2, k3, zMsg, zKey, Key.v]) rfl ⟨⟨_, rfl, zM_at _⟩, L.bl⟩
  rw [if_neg c2] at hR
  obtain rfl := Decidable.not_not.mp c2
  clear c2 h0
  cases ha : askF m with
  | none =>
    rw [ha] at hR
    simp only [] at hR
    unfold askE zKey Key.v
    simp only []
    subst hR
    clear ha
    have z0 := D5.out.am.is 0 rfl
    have z1 := D5.out.am.is 1 rfl
    have z2 := D5.out.am.is 2 rfl
    have z3 := D5.out.am.is 3 rfl
    have z4 := D5.out.am.is 4 rfl
    have z5 := D5.out.am.is 5 rfl
    have y0 := D5.out.am.frozen 0
    have y1 := D5.out.am.frozen 1
    have y2 := D5.out.am.frozen 2
    have y3 := D5.out.am.frozen 3
    have y4 := D5.out.am.frozen 4
    have y5 := D5.out.am.frozen 5
    have k0 := D5.out.bk.is 0 rfl
    have k1 := D5.out.bk.is 1 rfl
    have k2 := D5.out.bk.is 2 rfl
    have k3 := D5.out.bk.is 3 rfl
    have fk0 := D5.out.bk.frozen 0
    have fk1 := D5.out.bk.frozen 1
    have fk2 := D5.out.bk.frozen 2
    have fk3 := D5.out.bk.frozen 3
    have nab := D5.out.ne
    have nba := Ne.symm D5.out.ne
    go_upto_region 8 with fail
    clear k0 k1 k2 k3 fk0 fk1 fk2 fk3
    clear z0 z1 z2 z3 z4 z5 y0 y1 y2 y3 y4 y5 nab nba
    have D6' := D5.out.kset (u0 := (.string ⟨#[]⟩)) (u1 := (.int .u16 0)) (u2 := (.int .u16 0)) (u3 := (.bool false))
    generalize hW : (((w5.setCell ⟨b, 0, none⟩ (.string ⟨#[]⟩)).setCell ⟨b, 1, none⟩ (.int .u16 0)).setCell ⟨b, 2, none⟩ (.int .u16 0)).setCell ⟨b, 3, none⟩ (.bool false) = w6 at *
    have D6 : Aside0 (RS w w6 a b #[.int .u16 m.id, .int .u16 m.flags, .slice A2 l2 c2, .slice A3 l3 c3, .slice A4 l4 c4, .slice A5 l5 c5] zKc _ m _) := ⟨D6'⟩
    clear hW D5 D6'
    have z0 := D6.out.am.is 0 rfl
    have z1 := D6.out.am.is 1 rfl
    have z2 := D6.out.am.is 2 rfl
    have z3 := D6.out.am.is 3 rfl
    have z4 := D6.out.am.is 4 rfl
    have z5 := D6.out.am.is 5 rfl
    have y0 := D6.out.am.frozen 0
    have y1 := D6.out.am.frozen 1
    have y2 := D6.out.am.frozen 2
    have y3 := D6.out.am.frozen 3
    have y4 := D6.out.am.frozen 4
    have y5 := D6.out.am.frozen 5
    have k0 := D6.out.bk.is 0 rfl
    have k1 := D6.out.bk.is 1 rfl
    have k2 := D6.out.bk.is 2 rfl
    have k3 := D6.out.bk.is 3 rfl
    have fk0 := D6.out.bk.frozen 0
    have fk1 := D6.out.bk.frozen 1
    have fk2 := D6.out.bk.frozen 2
    have fk3 := D6.out.bk.frozen 3
    have nab := D6.out.ne
    have nba := Ne.symm D6.out.ne
    go_wp2_with fail
    clear k0 k1 k2 k3 fk0 fk1 fk2 fk3
    clear z0 z1 z2 z3 z4 z5 y0 y1 y2 y3 y4 y5 nab nba
    have L := D6.out.zero
    have z0 : World.cell? _ ⟨a, 0, none⟩ = some (.int .u16 0) := L.am.is 0 rfl
    have z1 : World.cell? _ ⟨a, 1, none⟩ = some (.int .u16 0) := L.am.is 1 rfl
    have z2 : World.cell? _ ⟨a, 2, none⟩ = some (.slice none 0 0) := L.am.is 2 rfl
    have z3 : World.cell? _ ⟨a, 3, none⟩ = some (.slice none 0 0) := L.am.is 3 rfl
    have z4 : World.cell? _ ⟨a, 4, none⟩ = some (.slice none 0 0) := L.am.is 4 rfl
    have z5 : World.cell? _ ⟨a, 5, none⟩ = some (.slice none 0 0) := L.am.is 5 rfl
    have k0 : World.cell? _ ⟨b, 0, none⟩ = some (.string ⟨#[]⟩) := L.bk.is 0 rfl
    have k1 : World.cell? _ ⟨b, 1, none⟩ = some (.int .u16 0) := L.bk.is 1 rfl
    have k2 : World.cell? _ ⟨b, 2, none⟩ = some (.int .u16 0) := L.bk.is 2 rfl
    have k3 : World.cell? _ ⟨b, 3, none⟩ = some (.bool false) := L.bk.is 3 rfl
    exact bodyPost_ret (v := .tuple #[.agg zMsg, zKey.v, .int .i64 400]) (by simp [results, Try.results15, go_sem, z0, z1, z2, z3, z4, z5, k0, k1, k2, k3, zMsg, zKey, Key.v]) rfl ⟨⟨_, rfl, zM_at _⟩, L.bl⟩
  | some k =>
    rw [ha] at hR
    simp only [] at hR
    obtain ⟨kn, kt, kc, kd⟩ := k
    unfold askE Key.v
    simp only []
    subst hR
    clear ha
    have z0 := D5.out.am.is 0 rfl
    have z1 := D5.out.am.is 1 rfl
    have z2 := D5.out.am.is 2 rfl
    have z3 := D5.out.am.is 3 rfl
    have z4 := D5.out.am.is 4 rfl
    have z5 := D5.out.am.is 5 rfl
    have y0 := D5.out.am.frozen 0
    have y1 := D5.out.am.frozen 1
    have y2 := D5.out.am.frozen 2
    have y3 := D5.out.am.frozen 3
    have y4 := D5.out.am.frozen 4
    have y5 := D5.out.am.frozen 5
    have k0 := D5.out.bk.is 0 rfl
    have k1 := D5.out.bk.is 1 rfl
    have k2 := D5.out.bk.is 2 rfl
    have k3 := D5.out.bk.is 3 rfl
    have fk0 := D5.out.bk.frozen 0
    have fk1 := D5.out.bk.frozen 1
    have fk2 := D5.out.bk.frozen 2
    have fk3 := D5.out.bk.frozen 3
    have nab := D5.out.ne
    have nba := Ne.symm D5.out.ne
    go_upto_region 8 with fail
    clear k0 k1 k2 k3 fk0 fk1 fk2 fk3
    clear z0 z1 z2 z3 z4 z5 y0 y1 y2 y3 y4 y5 nab nba
    have D6' := D5.out.kset (u0 := (.string kn)) (u1 := (.int .u16 kt)) (u2 := (.int .u16 kc)) (u3 := (.bool kd))
    generalize hW : (((w5.setCell ⟨b, 0, none⟩ (.string kn)).setCell ⟨b, 1, none⟩ (.int .u16 kt)).setCell ⟨b, 2, none⟩ (.int .u16 kc)).setCell ⟨b, 3, none⟩ (.bool kd) = w6 at *
    have D6 : Aside0 (RS w w6 a b #[.int .u16 m.id, .int .u16 m.flags, .slice A2 l2 c2, .slice A3 l3 c3, .slice A4 l4 c4, .slice A5 l5 c5] #[.string kn, .int .u16 kt, .int .u16 kc, .bool kd] _ m _) := ⟨D6'⟩
    clear hW D5 D6'
    go_upto_region 10 with fail
    refine dr_start (fun w' => ((w'.cell? ⟨a, 0, none⟩ = some (.int .u16 m.id) ∧ w'.cell? ⟨a, 1, none⟩ = some (.int .u16 m.flags) ∧ w'.cell? ⟨a, 2, none⟩ = some (.slice A2 l2 c2) ∧ w'.cell? ⟨a, 3, none⟩ = some (.slice A3 l3 c3) ∧ w'.cell? ⟨a, 4, none⟩ = some (.slice A4 l4 c4) ∧ w'.cell? ⟨a, 5, none⟩ = some (.slice A5 l5 c5)) ∧
      (w'.cell? ⟨b, 0, none⟩ = some (.string kn) ∧ w'.cell? ⟨b, 1, none⟩ = some (.int .u16 kt) ∧ w'.cell? ⟨b, 2, none⟩ = some (.int .u16 kc) ∧ w'.cell? ⟨b, 3, none⟩ = some (.bool kd))) ∧ Aside0 (RS w w' a b #[.int .u16 m.id, .int .u16 m.flags, .slice A2 l2 c2, .slice A3 l3 c3, .slice A4 l4 c4, .slice A5 l5 c5] #[.string kn, .int .u16 kt, .int .u16 kc, .bool kd] w2.heap.size m (.agg #[.int .u16 m.id, .int .u16 m.flags, .slice A2 l2 c2, .slice A3 l3 c3, .slice A4 l4 c4, .slice A5 l5 c5]))) [] (by kernel_rfl) (rs_cells D6.out.drew) (fun hS => ?_)
    repeat (first | (refine dr_pure (by kernel_rfl) (by rfl) (fun _ _ _ h => h) (v := ?_) (a' := ?_) ?_ ?_ ?_; rotate_left 2; (focus (intro w'; go_simp; with_reducible rfl)); (focus (simp only [Act.put, List.setIfInBounds_toArray, List.set_cons_zero, List.set_cons_succ]; rfl))) | (refine dr_take (by kernel_rfl) (by rfl) (fun _ _ _ h => h) hS (v := ?_) (a' := ?_) ?_ ?_ ?_; rotate_left 2; (focus (intro w' hS'; go_simp; with_reducible rfl)); (focus (simp only [Act.put, List.setIfInBounds_toArray, List.set_cons_zero, List.set_cons_succ]; rfl))) | (refine dr_off (by kernel_rfl) (by rfl) (fun _ _ _ h => h) (a' := ?_) ?_ ?_; rotate_left; (focus (simp only [Act.put, List.setIfInBounds_toArray, List.set_cons_zero, List.set_cons_succ]; rfl))))
    clear D6
    generalize w6.drew = w6d at *
    have D7 := hS.2
    have z0 := D7.out.am.is 0 rfl
    have z1 := D7.out.am.is 1 rfl
    have z2 := D7.out.am.is 2 rfl
    have z3 := D7.out.am.is 3 rfl
    have z4 := D7.out.am.is 4 rfl
    have z5 := D7.out.am.is 5 rfl
    have y0 := D7.out.am.frozen 0
    have y1 := D7.out.am.frozen 1
    have y2 := D7.out.am.frozen 2
    have y3 := D7.out.am.frozen 3
    have y4 := D7.out.am.frozen 4
    have y5 := D7.out.am.frozen 5
    have k0 := D7.out.bk.is 0 rfl
    have k1 := D7.out.bk.is 1 rfl
    have k2 := D7.out.bk.is 2 rfl
    have k3 := D7.out.bk.is 3 rfl
    have fk0 := D7.out.bk.frozen 0
    have fk1 := D7.out.bk.frozen 1
    have fk2 := D7.out.bk.frozen 2
    have fk3 := D7.out.bk.frozen 3
    have nab := D7.out.ne
    have nba := Ne.symm D7.out.ne
    refine dr_skip ((((((w6d.setCell ⟨a, 0, none⟩ (.int .u16 m.id)).setCell ⟨a, 1, none⟩ (.int .u16 m.flags)).setCell ⟨a, 2, none⟩ (.slice A2 l2 c2)).setCell ⟨a, 3, none⟩ (.slice A3 l3 c3)).setCell ⟨a, 4, none⟩ (.slice A4 l4 c4)).setCell ⟨a, 5, none⟩ (.slice A5 l5 c5)) (by kernel_rfl) (by rfl) (by rfl) rfl ⟨by go_simp⟩ (rs_cells D7.out.mset) (fun hS => ?_)
    clear k0 k1 k2 k3 fk0 fk1 fk2 fk3
    clear z0 z1 z2 z3 z4 z5 y0 y1 y2 y3 y4 y5 nab nba
    clear D7
    generalize (((((w6d.setCell ⟨a, 0, none⟩ (.int .u16 m.id)).setCell ⟨a, 1, none⟩ (.int .u16 m.flags)).setCell ⟨a, 2, none⟩ (.slice A2 l2 c2)).setCell ⟨a, 3, none⟩ (.slice A3 l3 c3)).setCell ⟨a, 4, none⟩ (.slice A4 l4 c4)).setCell ⟨a, 5, none⟩ (.slice A5 l5 c5) = w7 at *
    have D7 := hS.2
    have z0 := D7.out.am.is 0 rfl
    have z1 := D7.out.am.is 1 rfl
    have z2 := D7.out.am.is 2 rfl
    have z3 := D7.out.am.is 3 rfl
    have z4 := D7.out.am.is 4 rfl
    have z5 := D7.out.am.is 5 rfl
    have y0 := D7.out.am.frozen 0
    have y1 := D7.out.am.frozen 1
    have y2 := D7.out.am.frozen 2
    have y3 := D7.out.am.frozen 3
    have y4 := D7.out.am.frozen 4
    have y5 := D7.out.am.frozen 5
    have k0 := D7.out.bk.is 0 rfl
    have k1 := D7.out.bk.is 1 rfl
    have k2 := D7.out.bk.is 2 rfl
    have k3 := D7.out.bk.is 3 rfl
    have fk0 := D7.out.bk.frozen 0
    have fk1 := D7.out.bk.frozen 1
    have fk2 := D7.out.bk.frozen 2
    have fk3 := D7.out.bk.frozen 3
    have nab := D7.out.ne
    have nba := Ne.symm D7.out.ne
    refine dr_skip ((((w7.setCell ⟨b, 0, none⟩ (.string kn)).setCell ⟨b, 1, none⟩ (.int .u16 kt)).setCell ⟨b, 2, none⟩ (.int .u16 kc)).setCell ⟨b, 3, none⟩ (.bool kd)) (by kernel_rfl) (by rfl) (by rfl) rfl ⟨by go_simp⟩ (rs_cells D7.out.kset) (fun hS => ?_)
    clear k0 k1 k2 k3 fk0 fk1 fk2 fk3
    clear z0 z1 z2 z3 z4 z5 y0 y1 y2 y3 y4 y5 nab nba
    clear D7
    generalize (((w7.setCell ⟨b, 0, none⟩ (.string kn)).setCell ⟨b, 1, none⟩ (.int .u16 kt)).setCell ⟨b, 2, none⟩ (.int .u16 kc)).setCell ⟨b, 3, none⟩ (.bool kd) = w8 at *
    repeat (first | (refine dr_pure (by kernel_rfl) (by rfl) (fun _ _ _ h => h) (v := ?_) (a' := ?_) ?_ ?_ ?_; rotate_left 2; (focus (intro w'; go_simp; with_reducible rfl)); (focus (simp only [Act.put, List.setIfInBounds_toArray, List.set_cons_zero, List.set_cons_succ]; rfl))) | (refine dr_take (by kernel_rfl) (by rfl) (fun _ _ _ h => h) hS (v := ?_) (a' := ?_) ?_ ?_ ?_; rotate_left 2; (focus (intro w' hS'; go_simp; with_reducible rfl)); (focus (simp only [Act.put, List.setIfInBounds_toArray, List.set_cons_zero, List.set_cons_succ]; rfl))) | (refine dr_off (by kernel_rfl) (by rfl) (fun _ _ _ h => h) (a' := ?_) ?_ ?_; rotate_left; (focus (simp only [Act.put, List.setIfInBounds_toArray, List.set_cons_zero, List.set_cons_succ]; rfl))))
    refine dr_done (by kernel_rfl) ?_
    obtain ⟨⟨⟨z0, z1, z2, z3, z4, z5⟩, k0, k1, k2, k3⟩, D8⟩ := hS
    go_wp2_with fail
    exact bodyPost_ret (v := .tuple #[.agg #[.int .u16 m.id, .int .u16 m.flags, .slice A2 l2 c2, .slice A3 l3 c3, .slice A4 l4 c4, .slice A5 l5 c5], Key.v ⟨kn, kt, kc, kd⟩, .int .i64 200]) (by simp [results, Try.results15, go_sem, z0, z1, z2, z3, z4, z5, k0, k1, k2, k3, Key.v]) rfl ⟨⟨_, rfl, msgAt_of D8.out.p⟩, D8.out.bl⟩
end Go.Proofs.Ytfoflodgegehfaa.M
