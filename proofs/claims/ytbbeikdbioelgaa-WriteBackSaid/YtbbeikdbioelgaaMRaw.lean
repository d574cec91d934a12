/- Rows of records whose inner rows belong to others; nuncioref07.Records. -/
import Derived.Test.YtbbeikdbioelgaaMCheck
set_option linter.unusedVariables false
set_option linter.unusedSimpArgs false
namespace Go.Proofs.Ytbbeikdbioelgaa.M
open Go.RowKit Go.Maps Go.Proofs.YtbbeikdbioelgaaW.PrintWords Go.Proofs.YtbbeikdbioelgaaW.PrintLast Go.Proofs.YtbbeikdbioelgaaW.PrintMore
attribute [local go_sem] max2_int min2_int max_two min_two max_three min_three max_four min_four
attribute [local go_sem ↓] Go.wp_at_zero Go.wp_at_succ

/-- An element as its bare cells. -/
def kRaw (n : Nat) : Kd (List Value) where
  sz := n
  E := []
  K := fun _ x cs => cs = x ∧ x.length = n ∧ ∀ u ∈ x, u.oneCell' = true
  M := fun _ _ _ x cs => cs = x ∧ x.length = n ∧ ∀ u ∈ x, u.oneCell' = true
  K_len := fun h => by rw [h.1]; exact h.2.1
  K_one := fun h => by rw [h.1]; exact h.2.2
  K_below := fun _ h => h
  K_of_M := fun h => h
  M_mono := fun _ h => h
  M_bound := fun h => h
  M_move := fun _ h => h
  M_lower := fun _ h => h
/-- These cells are those of these records. -/
def Match (w : World) (ys : List Rec) (zs : List (List Value)) : Prop := zs.length = ys.length ∧ ∀ (j : Nat) y z, ys[j]? = some y → zs[j]? = some z → kRec.K w y z
theorem Match.below {w w1 : World} {ys : List Rec} {zs : List (List Value)} (h : Match w ys zs) (hb : Below w.heap.size w w1) : Match w1 ys zs := ⟨h.1, fun j y z hy hz => kRec.K_below hb (h.2 j y z hy hz)⟩
theorem Match.nil (w : World) : Match w [] [] := ⟨rfl, fun j y z hy => absurd hy (by simp)⟩
theorem Match.append {w : World} {ys ys' : List Rec} {zs zs' : List (List Value)} (h : Match w ys zs) (h' : Match w ys' zs') : Match w (ys ++ ys') (zs ++ zs') := by
  refine ⟨by rw [List.length_append, List.length_append, h.1, h'.1], fun j y z hy hz => ?_⟩
  rcases Nat.lt_or_ge j ys.length with hj | hj
  · rw [List.getElem?_append_left hj] at hy
    rw [List.getElem?_append_left (by rw [h.1]; exact hj)] at hz
    exact h.2 j y z hy hz
  · rw [List.getElem?_append_right hj] at hy
    rw [List.getElem?_append_right (by rw [h.1]; exact hj), h.1] at hz
    exact h'.2 _ y z hy hz
theorem raw_of {w : World} {A : Option Addr} {n : Nat} {ys : List Rec} (h : kRec.C w A n ys) : ∃ zs, (kRaw 7).C w A n zs ∧ Match w ys zs := by
  classical
  obtain ⟨h1, h2, h3⟩ := h
  have key : ∀ j, ∃ c : List Value, ∀ p, ys[j]? = some p → c.length = 7 ∧ kRec.K w p c ∧ ∀ ad, A = some ad → ∀ i u, c[i]? = some u → w.cell? (ad.add (j * 7 + i)) = some u := by
    intro j
    cases hp : ys[j]? with
    | none => exact ⟨[], fun p hp' => absurd hp' (by simp)⟩
    | some p =>
      obtain ⟨ad, hA, hc⟩ := h3 (by have := (List.getElem?_eq_some_iff.1 hp).1; omega)
      obtain ⟨c, hl, hK, hcell⟩ := hc j p hp
      refine ⟨c, fun p' hp' => ?_⟩
      obtain rfl := Option.some.inj hp'
      exact ⟨hl, hK, fun ad' hA' i u hu => by rw [hA] at hA'; rw [← Option.some.inj hA']; exact hcell i u hu⟩
  refine ⟨(List.range ys.length).map fun j => Classical.choose (key j), ⟨by simpa using h1, h2, fun hn => ?_⟩, by simp, fun j y z hy hz => ?_⟩
  · obtain ⟨ad, hA, _⟩ := h3 hn
    refine ⟨ad, hA, fun j p hp => ?_⟩
    obtain ⟨hj, e⟩ := List.getElem?_eq_some_iff.1 hp
    simp at hj e
    obtain ⟨k1, k2, k3⟩ := Classical.choose_spec (key j) _ (List.getElem?_eq_getElem hj)
    subst e
    exact ⟨_, k1, ⟨rfl, k1, kRec.K_one k2⟩, k3 ad hA⟩
  · obtain ⟨hj, e⟩ := List.getElem?_eq_some_iff.1 hz
    simp at hj e
    subst e
    exact (Classical.choose_spec (key j) _ hy).2.1
theorem of_raw {w : World} {A : Option Addr} {n : Nat} {ys : List Rec} {zs : List (List Value)} (h : (kRaw 7).C w A n zs) (hm : Match w ys zs) : kRec.C w A n ys := by
  obtain ⟨h1, h2, h3⟩ := h
  refine ⟨by rw [← hm.1]; exact h1, h2, fun hn => ?_⟩
  obtain ⟨ad, hA, hc⟩ := h3 hn
  refine ⟨ad, hA, fun j p hp => ?_⟩
  have hj := (List.getElem?_eq_some_iff.1 hp).1
  have hz := List.getElem?_eq_getElem (show j < zs.length by rw [hm.1]; exact hj)
  obtain ⟨c, hl, hK, hcell⟩ := hc j _ hz
  obtain ⟨rfl, _, _⟩ := hK
  exact ⟨_, hl, hm.2 j p _ hp hz, hcell⟩
/-- A row of bare records of the call's own. -/
abbrev BR (w : World) (base : Nat) (v : Value) (zs : List (List Value)) : Prop := Kd.R (kRaw 7) 44 w base (fun _ => True) v zs
section
variable {ops : Array Oper} {rest : List Oper} {o : Oper} {a : Act} {Q : Exit → Act → World → Prop} {Kc : Act → World → Prop}
theorem appR_step {w0 W : World} {base : Nat} (N : Option Tmp) (hN : o.dst = N) (hw : Region.wanted o (yielded ops a.tmps) = true) (s x : Operand) (ho : o.op = .call { callee := .builtin .append, args := #[s, x], argTypes := #[24, 24] })
    {v : Value} {xs ys : List (List Value)} {A : Option Addr} {m c : Nat} (hs : a.eval s = v) (hx : a.eval x = .slice A m c)
    (HO : BR W base v xs) (HR : (kRaw 7).C W A m ys) (HB : Below base w0 W) (hbase : base ≤ W.heap.size) (hl : (xs.length + m) * 96 ≤ 140737488355328)
    (h : ∀ v1 w1, BR w1 base v1 (xs ++ ys) → Below base w0 w1 → W.grownBy w1 v.ownBlock → Kc (a.put N v1) w1) :
    if Region.wanted o (yielded ops a.tmps) = true then Oper.wp Try.prog o a W Kc Q else Kc (a.put N undef) W := by
  subst hN
  exact Kd.R_append_rows_step (kRaw 7) (w0 := w0) base hw s x 24 44 _ 96 ho Try.underlying24 infoRec rfl (by decide) (by decide) v xs ys A m c (fun _ => True) (fun _ => False) hs hx HO HR (fun _ _ hk => hk) (fun _ hk => hk.elim) (fun _ _ => trivial) HB hbase hl
    (fun v1 w1 h1 h2 h3 _ => h v1 w1 h1 h2 h3)
end
theorem BR_empty {w0 w : World} (hb : w0.heap.size ≤ w.heap.size) : BR (w.alloc (.cells #[] 44)) w0.heap.size (.slice (some ⟨w.heap.size, 0, none⟩) 0 0) [] :=
  ⟨fun _ _ => trivial, [], by have h2 := World.ownsRow_lit (base := w0.heap.size) (e := 44) (size := 7) w #[] 0 hb (by decide) rfl; exact h2, Reps.none _ _⟩

set_option maxHeartbeats 4000000 in
set_option maxRecDepth 100000 in
theorem Records_calls (m : Msg) (v : Value) (w : World) (hv : MsgAt w v m) (n1 : m.ans.length ≤ 100000) (n2 : m.auth.length ≤ 100000) (n3 : m.add.length ≤ 100000) :
    Calls Try.prog 29 #[v] w fun e w' => ∃ A c, e = .returned (.slice A (m.ans ++ m.auth ++ m.add).length c) ∧ (m.ans ++ m.auth ++ m.add).length ≤ c ∧ kRec.C w' A (m.ans ++ m.auth ++ m.add).length (m.ans ++ m.auth ++ m.add) ∧ Below w.heap.size w w' := by
  obtain ⟨A2, c2, A3, c3, A4, c4, A5, c5, rfl, l2, g2, l3, g3, l4, g4, l5, g5⟩ := hv
  obtain ⟨z3s, r3, e3⟩ := raw_of g3
  obtain ⟨z4s, r4, e4⟩ := raw_of g4
  obtain ⟨z5s, r5, e5⟩ := raw_of g5
  have R3 := Aside0.mk r3
  have R4 := Aside0.mk r4
  have R5 := Aside0.mk r5
  have E := Aside0.mk ((e3.append e4).append e5)
  have L3 := Aside0.mk e3.1
  have L4 := Aside0.mk e4.1
  have L5 := Aside0.mk e5.1
  have N1 := Aside0.mk n1
  have N2 := Aside0.mk n2
  have N3 := Aside0.mk n3
  clear g2 g3 g4 g5 r3 r4 r5 e3 e4 e5 n1 n2 n3
  go_enter Try.func29, Try.ntmps29
  go_wp2_with (((with_reducible refine gate_dst (N := 1) rfl ?_); refine box_event rfl (N := 1) rfl (cs := #[.int .u16 m.id, .int .u16 m.flags, .slice A2 m.qs.length c2, .slice A3 m.ans.length c3, .slice A4 m.auth.length c4, .slice A5 m.add.length c5]) (t := 26) (by first | (go_simp; done) | (go_simp; rfl)) ?_; intro g hg w1 hbox hb); have HX := Aside0.mk hbox; have HB := Aside0.mk hb; have HGe := Aside0.mk hg; clear hb hg; have z0 : w1.cell? ⟨g, 0, none⟩ = some (.int .u16 m.id) := (blk_cell HX.out 0).trans rfl; have z1 : w1.cell? ⟨g, 1, none⟩ = some (.int .u16 m.flags) := (blk_cell HX.out 1).trans rfl; have z2 : w1.cell? ⟨g, 2, none⟩ = some (.slice A2 m.qs.length c2) := (blk_cell HX.out 2).trans rfl; have z3 : w1.cell? ⟨g, 3, none⟩ = some (.slice A3 m.ans.length c3) := (blk_cell HX.out 3).trans rfl; have z4 : w1.cell? ⟨g, 4, none⟩ = some (.slice A4 m.auth.length c4) := (blk_cell HX.out 4).trans rfl; have z5 : w1.cell? ⟨g, 5, none⟩ = some (.slice A5 m.add.length c5) := (blk_cell HX.out 5).trans rfl; have hlt : g < w1.heap.size := blk_lt hbox; have hlne : ¬ g = w1.heap.size := Nat.ne_of_lt hlt; clear hbox)
  refine start_ (n := 11) (S := fun w' => w'.cell? ⟨g, 3, none⟩ = some (.slice A3 m.ans.length c3) ∧ w'.cell? ⟨g, 4, none⟩ = some (.slice A4 m.auth.length c4) ∧ w'.cell? ⟨g, 5, none⟩ = some (.slice A5 m.add.length c5)) (ds := []) (Array.replicate 11 false) (by kernel_rfl) (by kernel_rfl) rfl ⟨z3, z4, z5⟩ (fun hS => ?_)
  refine dpure 1 (some 4) rfl rfl (by kernel_rfl) (fun _ _ _ h => h) (by rfl) (v := ?_) (a' := ?_) ?_ ?_ ?_
  rotate_left 2
  · intro w'; go_simp; with_reducible rfl
  · simp only [Act.put, List.setIfInBounds_toArray, List.set_cons_zero, List.set_cons_succ]; rfl
  refine dtake 2 (some 5) rfl rfl (by kernel_rfl) (fun _ _ _ h => h) (by rfl) hS (v := ?_) (a' := ?_) ?_ ?_ ?_
  rotate_left 2
  · rintro w' ⟨s0,s1,s2⟩; go_simp; with_reducible rfl
  · simp only [Act.put, List.setIfInBounds_toArray, List.set_cons_zero, List.set_cons_succ]; rfl
  refine dpure 4 (some 7) rfl rfl (by kernel_rfl) (fun _ _ _ h => h) (by rfl) (v := ?_) (a' := ?_) ?_ ?_ ?_
  rotate_left 2
  · intro w'; go_simp; with_reducible rfl
  · simp only [Act.put, List.setIfInBounds_toArray, List.set_cons_zero, List.set_cons_succ]; rfl
  refine dtake 5 (some 8) rfl rfl (by kernel_rfl) (fun _ _ _ h => h) (by rfl) hS (v := ?_) (a' := ?_) ?_ ?_ ?_
  rotate_left 2
  · rintro w' ⟨s0,s1,s2⟩; go_simp; with_reducible rfl
  · simp only [Act.put, List.setIfInBounds_toArray, List.set_cons_zero, List.set_cons_succ]; rfl
  refine dpure 7 (some 10) rfl rfl (by kernel_rfl) (fun _ _ _ h => h) (by rfl) (v := ?_) (a' := ?_) ?_ ?_ ?_
  rotate_left 2
  · intro w'; go_simp; with_reducible rfl
  · simp only [Act.put, List.setIfInBounds_toArray, List.set_cons_zero, List.set_cons_succ]; rfl
  refine dtake 8 (some 11) rfl rfl (by kernel_rfl) (fun _ _ _ h => h) (by rfl) hS (v := ?_) (a' := ?_) ?_ ?_ ?_
  rotate_left 2
  · rintro w' ⟨s0,s1,s2⟩; go_simp; with_reducible rfl
  · simp only [Act.put, List.setIfInBounds_toArray, List.set_cons_zero, List.set_cons_succ]; rfl
  refine done1 0 (some 3) rfl rfl (by kernel_rfl) (by decide) (fun K hK => ?_)
  refine value_ (v := .slice (some ⟨w1.drew.heap.size, 0, none⟩) 0 0) (w1 := w1.drew.alloc (.cells #[] 44)) (by rfl) rfl (by go_simp) ?_
  have hb1 := HB.out
  have ho1 := BR_empty (w0 := w) (w := w1.drew) hb1.size
  have hb2 : Below w.heap.size w (w1.drew.alloc (.cells #[] 44)) := hb1.drew.alloc hb1.size _
  have hx1 := blk_alloc (blk_drew HX.out) (.cells #[] 44)
  generalize w1.drew.alloc (.cells #[] 44) = wa at *
  generalize hv0 : Value.slice (some ⟨w1.drew.heap.size, 0, none⟩) 0 0 = va at *
  clear hv0
  refine hK.out _ _ ⟨(blk_cell hx1 3).trans rfl, (blk_cell hx1 4).trans rfl, (blk_cell hx1 5).trans rfl⟩ (fun hS => ?_)
  clear hK K
  refine norm_ (a' := ?_) ?_ ?_
  rotate_left
  · simp only [Act.put, List.setIfInBounds_toArray, List.set_cons_zero, List.set_cons_succ]; rfl
  refine done1 3 (some 6) rfl rfl (by kernel_rfl) (by decide) (fun K hK => ?_)
  refine appR_step (w0 := w) (base := w.heap.size) (c := c3) (some 6) rfl (by rfl) (.tmp 3) (.tmp 5) (by kernel_rfl) (by kernel_rfl) (by kernel_rfl) ho1 (Kd.C_below R3.out hb2) hb2 hb2.size (by have := N1.out; simp; omega) ?_
  intro v3 w3 ho3 hb3 hg3
  have hx3 := blk_grown hx1 hg3 (Kd.R_ne ho1 hx1 (by decide))
  refine hK.out _ _ ⟨(blk_cell hx3 3).trans rfl, (blk_cell hx3 4).trans rfl, (blk_cell hx3 5).trans rfl⟩ (fun hS => ?_)
  clear hK K
  refine norm_ (a' := ?_) ?_ ?_
  rotate_left
  · simp only [Act.put, List.setIfInBounds_toArray, List.set_cons_zero, List.set_cons_succ]; rfl
  refine done1 6 (some 9) rfl rfl (by kernel_rfl) (by decide) (fun K hK => ?_)
  refine appR_step (w0 := w) (base := w.heap.size) (c := c4) (some 9) rfl (by rfl) (.tmp 6) (.tmp 8) (by kernel_rfl) (by kernel_rfl) (by kernel_rfl) ho3 (Kd.C_below R4.out hb3) hb3 hb3.size (by have := N1.out; have := N2.out; have := L3.out; simp; omega) ?_
  intro v4 w4 ho4 hb4 hg4
  have hx4 := blk_grown hx3 hg4 (Kd.R_ne ho3 hx3 (by decide))
  refine hK.out _ _ ⟨(blk_cell hx4 3).trans rfl, (blk_cell hx4 4).trans rfl, (blk_cell hx4 5).trans rfl⟩ (fun hS => ?_)
  clear hK K
  refine norm_ (a' := ?_) ?_ ?_
  rotate_left
  · simp only [Act.put, List.setIfInBounds_toArray, List.set_cons_zero, List.set_cons_succ]; rfl
  refine done1 9 (some 12) rfl rfl (by kernel_rfl) (by decide) (fun K hK => ?_)
  refine appR_step (w0 := w) (base := w.heap.size) (c := c5) (some 12) rfl (by rfl) (.tmp 9) (.tmp 11) (by kernel_rfl) (by kernel_rfl) (by kernel_rfl) ho4 (Kd.C_below R5.out hb4) hb4 hb4.size (by have := N1.out; have := N2.out; have := N3.out; have := L3.out; have := L4.out; simp; omega) ?_
  intro v5 w5 ho5 hb5 hg5
  have hx5 := blk_grown hx4 hg5 (Kd.R_ne ho4 hx4 (by decide))
  obtain ⟨A, c, rfl, hlc, hrc⟩ := Kd.R_reads ho5
  have hE := E.out.below hb5
  have hC := of_raw (ys := m.ans ++ m.auth ++ m.add) hrc (by simpa using hE)
  have hln : ([] ++ z3s ++ z4s ++ z5s).length = (m.ans ++ m.auth ++ m.add).length := by simpa using E.out.1
  rw [hln] at hC hlc
  refine hK.out _ _ ⟨(blk_cell hx5 3).trans rfl, (blk_cell hx5 4).trans rfl, (blk_cell hx5 5).trans rfl⟩ (fun hS => ?_)
  clear hK K
  refine norm_ (a' := ?_) ?_ ?_
  rotate_left
  · simp only [Act.put, List.setIfInBounds_toArray, List.set_cons_zero, List.set_cons_succ]; rfl
  refine dpure 10 (some 2) rfl rfl (by kernel_rfl) (fun _ _ _ h => h) (by rfl) (v := ?_) (a' := ?_) ?_ ?_ ?_
  rotate_left 2
  · intro w'; go_simp; with_reducible rfl
  · simp only [Act.put, List.setIfInBounds_toArray, List.set_cons_zero, List.set_cons_succ]; rfl
  refine done_ (by kernel_rfl) ?_
  have HC := Aside0.mk hC
  have HLn := Lib.hid hln
  have HB5 := Aside0.mk hb5
  clear hC hln hb5 ho5 hrc hE hx5 ho4 hb4 hx4 ho3 hb3 hx3 ho1 hb2 hx1 hb1 hS z0 z1 z2 z3 z4 z5 hg3 hg4 hg5
  go_wp2_with fail
  go_ret
  exact ⟨A, c, congrArg (fun n => Ending.returned (.slice A n c)) (show z3s.length + (z4s.length + z5s.length) = (m.ans ++ m.auth ++ m.add).length by rw [L3.out, L4.out, L5.out]; simp), hlc, HC.out, HB5.out⟩
end Go.Proofs.Ytbbeikdbioelgaa.M
