/- Walk of package head: (*told).one. -/
import Derived.Test.YtdpoookgmckclaaDoorMHTold
set_option linter.unusedVariables false
set_option linter.unusedSimpArgs false
namespace Go.Proofs.YtdpoookgmckclaaDoor.M
open Go.RowKit Go.Maps Go.Proofs.YtdpoookgmckclaaDoorW.PrintWords Go.Proofs.YtdpoookgmckclaaDoorW.PrintLast Go.Proofs.YtdpoookgmckclaaDoorW.PrintMore
attribute [local go_sem] max2_int min2_int max_two min_two max_three min_three max_four min_four
attribute [local go_sem ↓] Go.wp_at_zero Go.wp_at_succ
/-- How `one` ends. -/
structure OneEnds (w0 : World) (g mt mv : Nat) (c : List Fld) (N : Nat) (f : Fld) (b : Bool) (e : Ending) (w' : World) : Prop where
  ret : e = .returned (.bool b)
  good : b = true → TAt w0 w' g mt mv (addC c f) (nps (addC c f) : Nat) ⟨#[]⟩ (-1) (N + 1)
  below : Below w0.heap.size w0 w'
set_option maxRecDepth 100000 in
theorem look_put {w : World} {b N : Nat} {D : DataW Unit} {n : ByteArray} {q : Int} (hM : w.ownsMap Tryd.prog 9 (plainElem Tryd.prog 3) b N (D.put (.string n.data.toList) (.lit (.int .i64 q)))) (hD : IsMap D) (hn : n.size ≤ maxLen) : (Instr.lookup 50 (.map (some b)) (.string n) false).run Tryd.prog w = .ok (.int .i64 q) w := by
  obtain ⟨x, hrun, hat, _⟩ := hM.lookup_int keyedH Tryd.underlying50 Tryd.underlying3 (zeroIH w) (keyH n hn)
  rw [Maps.atKey_put_same hD (isKey _)] at hat
  injection hat with hat
  injection hat with _ hat
  exact hrun.trans (congrArg (fun y => Result.ok (Value.int .i64 y) w) hat.symm)
theorem sat_map_ne {w : World} {h b N T e : Nat} {cs : Array Value} {D : DataW Unit} (hx : SAt w h cs T) (hM : w.ownsMap Tryd.prog 9 (plainElem Tryd.prog e) b N D) : h ≠ b := by
  rintro rfl
  obtain ⟨es, clock, he, _⟩ := hM
  unfold SAt at hx
  rw [hx] at he
  exact absurd (Option.some.inj he) (by simp)
theorem SAt.grown {w w1 : World} {h T : Nat} {cs : Array Value} (hx : SAt w h cs T) {b : Nat} (hg : w.grownBy w1 (some b)) (hne : h ≠ b) : SAt w1 h cs T := (hg.block h hx.lt (fun e => hne (Option.some.inj e))).trans hx
theorem maps_grown {w w1 : World} {e b b' N : Nat} {D : DataW Unit} (h : w.ownsMap Tryd.prog 9 (plainElem Tryd.prog e) b N D) (hg : w.grownBy w1 (some b')) (hne : b ≠ b') : w1.ownsMap Tryd.prog 9 (plainElem Tryd.prog e) b N D := map_far h (hg.block b h.lt (fun e => hne (Option.some.inj e)))
set_option maxHeartbeats 8000000 in
set_option maxRecDepth 100000 in
theorem one_calls {w0 w : World} {g mt mv N : Nat} {c : List Fld} (h : TAt w0 w g mt mv c (nps c : Nat) ⟨#[]⟩ (-1) N) (x : Fl) (o : Nat) (h1 : x.n.size ≤ 1000000) (h2 : x.v.size ≤ 1000000) (hN : N ≤ 100000) (hc : nps c ≤ 100000) :
    Calls Tryd.prog 24 #[.pointer (some ⟨g, 0, none⟩), .agg x.cs, .int .i64 o] w fun e w' => OneEnds w0 g mt mv c N x.f (oneB x.f o c) e w' := by
  have HT := Aside0.mk h
  have HR := Aside0.mk (fun w => right_calls x w h1 h2)
  have HBa := Aside0.mk (fun w => barred_calls x w)
  unfold Fl.cs at *
  obtain ⟨B, hB⟩ : ∃ B, oneB x.f o c = B := ⟨_, rfl⟩
  rw [hB]
  obtain ⟨r, hr⟩ : ∃ r, rightFB x.f = r := ⟨_, rfl⟩
  obtain ⟨br, hbr⟩ : ∃ r, barredB x.f = r := ⟨_, rfl⟩
  obtain ⟨p, hp⟩ : ∃ p, pseudoB x.f = p := ⟨_, rfl⟩
  have hBq := hB
  unfold oneB at hBq
  rw [hr, hbr, hp] at hBq
  rw [hr] at HR
  rw [hbr] at HBa
  have hps := hp
  unfold pseudoB pseudoS Fl.f at hps
  simp only [] at hps
  have HBq := Lib.hid hBq
  have HBb := Lib.hid hB
  have HP := Lib.hid hp
  have s1 : x.n.size ≤ maxLen := by unfold maxLen; omega
  have HS := Lib.hid (And.intro h1 h2)
  have HN := Lib.hid (And.intro hN hc)
  -- the test of the first sign
  by_cases hz : x.n.size = 0
  · have hxn : x.n = ⟨#[]⟩ := size_zero hz
    have hpf : p = false := by rw [← hps, decide_eq_false (by omega : ¬ x.n.size ≠ 0)]; rfl
    have hrf : r = false := by
      rw [← hr]
      unfold rightFB Fl.f
      simp only []
      rw [hxn]
      rfl
    obtain ⟨d1, d2, d3⟩ := const_yes (s := x.n) (t := ⟨#[]⟩) hxn (L := []) rfl
    have hBf : B = false := by rw [← HBq.out, hrf]; rfl
    subst hrf
    subst hpf
    clear h hps hBq hB hr hbr hp hxn hz
    go_enter Tryd.func24, Tryd.ntmps24
    go_wp2_with ((with_reducible refine gate_dst (N := 4) rfl ?_); refine box_event rfl (N := 4) rfl (cs := #[.string x.n, .string x.v, .bool x.nv]) (t := 41) (by first | (go_simp; done) | (go_simp; rfl)) ?_; intro gf hg w1 hbox hb; have HX1 := Aside0.mk (show SAt w1 gf #[.string x.n, .string x.v, .bool x.nv] 41 from hbox); have HT1 := Aside0.mk (HT.out.step hb); clear hb hg hbox HT; have z0 := HX1.out.is 0 rfl; have z1 := HX1.out.is 1 rfl; have z2 := HX1.out.is 2 rfl)
    refine (HR.out _).mono ?_
    rintro e w2 ⟨rfl, hb⟩
    have HX2 := Aside0.mk (HX1.out.below hb)
    have HT2 := Aside0.mk (HT1.out.step hb)
    clear hb z0 z1 z2 HX1 HT1
    have z0 := HX2.out.is 0 rfl
    have z1 := HX2.out.is 1 rfl
    have z2 := HX2.out.is 2 rfl
    go_wp2_with fail
    go_ret
    exact ⟨congrArg (fun y => Ending.returned (.bool y)) hBf.symm, fun e => absurd (hBf.symm.trans e) (by decide), HT2.out.below⟩
  have hne : x.n ≠ ⟨#[]⟩ := fun e => hz (by rw [e]; rfl)
  obtain ⟨d1, d2, d3⟩ := const_no (s := x.n) (t := ⟨#[]⟩) hne (L := []) rfl
  have hx0 := bt_nat x.n 0 (by omega)
  obtain ⟨bb, hbb⟩ : ∃ b, bt x.n 0 = b := ⟨_, rfl⟩
  have hx : ((x.n[0]'(by omega)).toNat : Int) = bb := hx0.trans hbb
  clear hx0
  have d4 : (bb == 58) = p := by
    rw [← hps, decide_eq_true hz, Bool.true_and, hbb]
    rfl
  have q0 : 0 < x.n.size := by omega
  have q1 : (0 : Int) < (x.n.size : Int) := by omega
  clear h hps hBq hB hr hbr hp hne hbb
  cases r with
  | false =>
    have hBf : B = false := by rw [← HBq.out]; rfl
    cases p with
    | false =>
      go_enter Tryd.func24, Tryd.ntmps24
      go_wp2_with ((with_reducible refine gate_dst (N := 4) rfl ?_); refine box_event rfl (N := 4) rfl (cs := #[.string x.n, .string x.v, .bool x.nv]) (t := 41) (by first | (go_simp; done) | (go_simp; rfl)) ?_; intro gf hg w1 hbox hb; have HX1 := Aside0.mk (show SAt w1 gf #[.string x.n, .string x.v, .bool x.nv] 41 from hbox); have HT1 := Aside0.mk (HT.out.step hb); clear hb hg hbox HT; have z0 := HX1.out.is 0 rfl; have z1 := HX1.out.is 1 rfl; have z2 := HX1.out.is 2 rfl)
      refine (HR.out _).mono ?_
      rintro e w2 ⟨rfl, hb⟩
      have HX2 := Aside0.mk (HX1.out.below hb)
      have HT2 := Aside0.mk (HT1.out.step hb)
      clear hb z0 z1 z2 HX1 HT1
      have z0 := HX2.out.is 0 rfl
      have z1 := HX2.out.is 1 rfl
      have z2 := HX2.out.is 2 rfl
      go_wp2_with fail
      go_ret
      exact ⟨congrArg (fun y => Ending.returned (.bool y)) hBf.symm, fun e => absurd (hBf.symm.trans e) (by decide), HT2.out.below⟩
    | true =>
      go_enter Tryd.func24, Tryd.ntmps24
      go_wp2_with ((with_reducible refine gate_dst (N := 4) rfl ?_); refine box_event rfl (N := 4) rfl (cs := #[.string x.n, .string x.v, .bool x.nv]) (t := 41) (by first | (go_simp; done) | (go_simp; rfl)) ?_; intro gf hg w1 hbox hb; have HX1 := Aside0.mk (show SAt w1 gf #[.string x.n, .string x.v, .bool x.nv] 41 from hbox); have HT1 := Aside0.mk (HT.out.step hb); clear hb hg hbox HT; have z0 := HX1.out.is 0 rfl; have z1 := HX1.out.is 1 rfl; have z2 := HX1.out.is 2 rfl)
      refine (HR.out _).mono ?_
      rintro e w2 ⟨rfl, hb⟩
      have HX2 := Aside0.mk (HX1.out.below hb)
      have HT2 := Aside0.mk (HT1.out.step hb)
      clear hb z0 z1 z2 HX1 HT1
      have z0 := HX2.out.is 0 rfl
      have z1 := HX2.out.is 1 rfl
      have z2 := HX2.out.is 2 rfl
      go_wp2_with fail
      go_ret
      exact ⟨congrArg (fun y => Ending.returned (.bool y)) hBf.symm, fun e => absurd (hBf.symm.trans e) (by decide), HT2.out.below⟩
  | true =>
  cases br with
  | true =>
    have hBf : B = false := by rw [← HBq.out]; rfl
    cases p with
    | false =>
      go_enter Tryd.func24, Tryd.ntmps24
      go_wp2_with ((with_reducible refine gate_dst (N := 4) rfl ?_); refine box_event rfl (N := 4) rfl (cs := #[.string x.n, .string x.v, .bool x.nv]) (t := 41) (by first | (go_simp; done) | (go_simp; rfl)) ?_; intro gf hg w1 hbox hb; have HX1 := Aside0.mk (show SAt w1 gf #[.string x.n, .string x.v, .bool x.nv] 41 from hbox); have HT1 := Aside0.mk (HT.out.step hb); clear hb hg hbox HT; have z0 := HX1.out.is 0 rfl; have z1 := HX1.out.is 1 rfl; have z2 := HX1.out.is 2 rfl)
      refine (HR.out _).mono ?_
      rintro e w2 ⟨rfl, hb⟩
      have HX2 := Aside0.mk (HX1.out.below hb)
      have HT2 := Aside0.mk (HT1.out.step hb)
      clear hb z0 z1 z2 HX1 HT1
      have z0 := HX2.out.is 0 rfl
      have z1 := HX2.out.is 1 rfl
      have z2 := HX2.out.is 2 rfl
      go_wp2_with fail
      refine (HBa.out _).mono ?_
      rintro e w3 ⟨rfl, hb⟩
      have HX3 := Aside0.mk (HX2.out.below hb)
      have HT3 := Aside0.mk (HT2.out.step hb)
      clear hb z0 z1 z2 HX2 HT2
      have z0 := HX3.out.is 0 rfl
      have z1 := HX3.out.is 1 rfl
      have z2 := HX3.out.is 2 rfl
      go_wp2_with fail
      go_ret
      exact ⟨congrArg (fun y => Ending.returned (.bool y)) hBf.symm, fun e => absurd (hBf.symm.trans e) (by decide), HT3.out.below⟩
    | true =>
      go_enter Tryd.func24, Tryd.ntmps24
      go_wp2_with ((with_reducible refine gate_dst (N := 4) rfl ?_); refine box_event rfl (N := 4) rfl (cs := #[.string x.n, .string x.v, .bool x.nv]) (t := 41) (by first | (go_simp; done) | (go_simp; rfl)) ?_; intro gf hg w1 hbox hb; have HX1 := Aside0.mk (show SAt w1 gf #[.string x.n, .string x.v, .bool x.nv] 41 from hbox); have HT1 := Aside0.mk (HT.out.step hb); clear hb hg hbox HT; have z0 := HX1.out.is 0 rfl; have z1 := HX1.out.is 1 rfl; have z2 := HX1.out.is 2 rfl)
      refine (HR.out _).mono ?_
      rintro e w2 ⟨rfl, hb⟩
      have HX2 := Aside0.mk (HX1.out.below hb)
      have HT2 := Aside0.mk (HT1.out.step hb)
      clear hb z0 z1 z2 HX1 HT1
      have z0 := HX2.out.is 0 rfl
      have z1 := HX2.out.is 1 rfl
      have z2 := HX2.out.is 2 rfl
      go_wp2_with fail
      refine (HBa.out _).mono ?_
      rintro e w3 ⟨rfl, hb⟩
      have HX3 := Aside0.mk (HX2.out.below hb)
      have HT3 := Aside0.mk (HT2.out.step hb)
      clear hb z0 z1 z2 HX2 HT2
      have z0 := HX3.out.is 0 rfl
      have z1 := HX3.out.is 1 rfl
      have z2 := HX3.out.is 2 rfl
      go_wp2_with fail
      go_ret
      exact ⟨congrArg (fun y => Ending.returned (.bool y)) hBf.symm, fun e => absurd (hBf.symm.trans e) (by decide), HT3.out.below⟩
  | false =>
  cases p with
  | true =>
    by_cases ho : 0 < o
    · have hBf : B = false := by rw [← HBq.out, decide_eq_true ho]; rfl
      have d8 : decide ((0 : Int) < (o : Int)) = true := decide_eq_true (by omega)
      have d9 : decide (0 < o) = true := decide_eq_true ho
      clear ho
      go_enter Tryd.func24, Tryd.ntmps24
      go_wp2_with ((with_reducible refine gate_dst (N := 4) rfl ?_); refine box_event rfl (N := 4) rfl (cs := #[.string x.n, .string x.v, .bool x.nv]) (t := 41) (by first | (go_simp; done) | (go_simp; rfl)) ?_; intro gf hg w1 hbox hb; have HX1 := Aside0.mk (show SAt w1 gf #[.string x.n, .string x.v, .bool x.nv] 41 from hbox); have HT1 := Aside0.mk (HT.out.step hb); clear hb hg hbox HT; have z0 := HX1.out.is 0 rfl; have z1 := HX1.out.is 1 rfl; have z2 := HX1.out.is 2 rfl)
      refine (HR.out _).mono ?_
      rintro e w2 ⟨rfl, hb⟩
      have HX2 := Aside0.mk (HX1.out.below hb)
      have HT2 := Aside0.mk (HT1.out.step hb)
      clear hb z0 z1 z2 HX1 HT1
      have z0 := HX2.out.is 0 rfl
      have z1 := HX2.out.is 1 rfl
      have z2 := HX2.out.is 2 rfl
      go_wp2_with fail
      refine (HBa.out _).mono ?_
      rintro e w3 ⟨rfl, hb⟩
      have HX3 := Aside0.mk (HX2.out.below hb)
      have HT3 := Aside0.mk (HT2.out.step hb)
      clear hb z0 z1 z2 HX2 HT2
      have z0 := HX3.out.is 0 rfl
      have z1 := HX3.out.is 1 rfl
      have z2 := HX3.out.is 2 rfl
      go_wp2_with fail
      go_ret
      exact ⟨congrArg (fun y => Ending.returned (.bool y)) hBf.symm, fun e => absurd (hBf.symm.trans e) (by decide), HT3.out.below⟩
    · have d8 : decide ((0 : Int) < (o : Int)) = false := decide_eq_false (by omega)
      have d9 : decide (0 < o) = false := decide_eq_false ho
      have HD9 := Lib.hid d9
      have HCo := Lib.hid (show countedB x.f = true by unfold countedB; rw [HP.out]; rfl)
      have q2 : (nps c : Int) ≤ 100000 := by omega
      clear ho
      obtain ⟨dup, hdup⟩ : ∃ b, hasN c x.n = b := ⟨_, rfl⟩
      have HD := Lib.hid hdup
      clear hdup
      cases dup with
      | false =>
        go_enter Tryd.func24, Tryd.ntmps24
        go_wp2_with ((with_reducible refine gate_dst (N := 4) rfl ?_); refine box_event rfl (N := 4) rfl (cs := #[.string x.n, .string x.v, .bool x.nv]) (t := 41) (by first | (go_simp; done) | (go_simp; rfl)) ?_; intro gf hg w1 hbox hb; have HX1 := Aside0.mk (show SAt w1 gf #[.string x.n, .string x.v, .bool x.nv] 41 from hbox); have HT1 := Aside0.mk (HT.out.step hb); clear hb hg hbox HT; have z0 := HX1.out.is 0 rfl; have z1 := HX1.out.is 1 rfl; have z2 := HX1.out.is 2 rfl)
        refine (HR.out _).mono ?_
        rintro e w2 ⟨rfl, hb⟩
        have HX2 := Aside0.mk (HX1.out.below hb)
        have HT2 := Aside0.mk (HT1.out.step hb)
        clear hb z0 z1 z2 HX1 HT1
        have z0 := HX2.out.is 0 rfl
        have z1 := HX2.out.is 1 rfl
        have z2 := HX2.out.is 2 rfl
        go_wp2_with fail
        refine (HBa.out _).mono ?_
        rintro e w3 ⟨rfl, hb⟩
        have HX3 := Aside0.mk (HX2.out.below hb)
        have HT3 := Aside0.mk (HT2.out.step hb)
        clear hb z0 z1 z2 HX2 HT2
        have z0 := HX3.out.is 0 rfl
        have z1 := HX3.out.is 1 rfl
        have z2 := HX3.out.is 2 rfl
        have t2 := HT3.out.box.is 2 rfl
        have f2 := HT3.out.box.frozen 2
        go_wp2_with fail
        have HT4 := Aside0.mk (HT3.out.set 2 (.int .i64 ((nps c : Int) + 1)) (ps' := ((nps c + 1 : Nat) : Int)) (le' := -1) (me' := ⟨#[]⟩) rfl)
        have HX4 := Aside0.mk (HX3.out.far (blk_ne HX3.out HT3.out.box (by decide)) 2 (.int .i64 ((nps c : Int) + 1)))
        clear t2 f2 HT3 HX3 z0 z1 z2
        generalize w3.setCell ⟨g, 2, none⟩ (.int .i64 ((nps c : Int) + 1)) = w4 at *
        have z0 := HX4.out.is 0 rfl
        have z1 := HX4.out.is 1 rfl
        have z2 := HX4.out.is 2 rfl
        obtain ⟨D, hM, hR⟩ := HT4.out.times
        obtain ⟨E, hM2, hR2⟩ := HT4.out.value
        have t0 := HT4.out.box.is 0 rfl
        have t1 := HT4.out.box.is 1 rfl
        have t2 := HT4.out.box.is 2 rfl
        have t3 := HT4.out.box.is 3 rfl
        have t4 := HT4.out.box.is 4 rfl
        have hl := HT4.out.drew.lookT x.n s1
        rw [HD.out] at hl
        have hl : (Instr.lookup 50 (.map (some mt)) (.string x.n) false).run Tryd.prog w4.drew = .ok (.int .i64 (1 - 1)) w4.drew := hl
        go_still_tail 8, (by kernel_rfl)
        change wpList _ _ _ _ _ w4.drew
        go_wp2_with (at_mapUpdate; refine wpList_mapUpdate_in _ rfl _ _ _ 50 rfl 9 3 keyedH Tryd.underlying50 _ mt _ D rfl hM.drew (by have := HN.out.1; unfold maxLen; omega) _ _ _ rfl rfl (keyH x.n s1) (.lit (.int .i64 1)) [] (plainElem_int Tryd.underlying3 (by decide)) ?_; intro w7 hown hturn)
        have g1 := World.mapTurned.grown hturn
        have HM7 := Aside0.mk hown
        have HG7 := Aside0.mk g1
        have HE7 := Aside0.mk (maps_grown hM2.drew g1 (Ne.symm HT4.out.tv))
        have HX7 := Aside0.mk (HX4.out.drew.grown g1 (sat_map_ne HX4.out.drew hM.drew))
        have HC7 := Aside0.mk (HT4.out.box.drew.grown g1 HT4.out.gt)
        clear hown hturn g1 hl z0 z1 z2 t0 t1 t2 t3 t4
        have z0 := HX7.out.is 0 rfl
        have z1 := HX7.out.is 1 rfl
        have z2 := HX7.out.is 2 rfl
        have t0 := HC7.out.is 0 rfl
        have t1 := HC7.out.is 1 rfl
        go_wp2_with fail
        go_still_tail 8, (by kernel_rfl)
        change wpList _ _ _ _ _ w7.drew
        go_wp2_with (at_mapUpdate; refine wpList_mapUpdate_in _ rfl _ _ _ 51 rfl 9 9 keyedH Tryd.underlying51 _ mv _ E rfl HE7.out.drew (by have := HN.out.1; unfold maxLen; omega) _ _ _ rfl rfl (keyH x.n s1) (.lit (.string x.v.data.toList)) [] (plainElem_string Tryd.underlying9 (by have := HS.out.2; unfold maxLen; omega)) ?_; intro w8 hown hturn)
        have g2 := World.mapTurned.grown hturn
        have HE8 := Aside0.mk hown
        have HG8 := Aside0.mk g2
        have HM8 := Aside0.mk (maps_grown HM7.out.drew g2 HT4.out.tv)
        have HX8 := Aside0.mk (HX7.out.drew.grown g2 (sat_map_ne HX7.out.drew HE7.out.drew))
        have HC8 := Aside0.mk (HC7.out.drew.grown g2 HT4.out.gv)
        clear hown hturn g2 z0 z1 z2 t0 t1
        have z0 := HX8.out.is 0 rfl
        have t0 := HC8.out.is 0 rfl
        have hl := look_put HM8.out.drew hM.isMap s1
        go_wp2_with fail
        refine dr_start (fun w' => w'.cell? ⟨gf, 0, none⟩ = some (.string x.n) ∧ w'.cell? ⟨g, 0, none⟩ = some (.map (some mt)) ∧ (Instr.lookup 50 (.map (some mt)) (.string x.n) false).run Tryd.prog w' = .ok (.int .i64 1) w') [] (by kernel_rfl) ⟨z0, t0, hl⟩ (fun hS => ?_)
        repeat (first | (refine dr_pure (by kernel_rfl) (by rfl) (fun _ _ _ h => h) (v := ?_) (a' := ?_) ?_ ?_ ?_; rotate_left 2; (focus (intro w'; go_simp; with_reducible rfl)); (focus (simp only [Act.put, List.setIfInBounds_toArray, List.set_cons_zero, List.set_cons_succ]; rfl))) | (refine dr_take (by kernel_rfl) (by rfl) (fun _ _ _ h => h) hS (v := ?_) (a' := ?_) ?_ ?_ ?_; rotate_left 2; (focus (intro w' hS'; go_simp; with_reducible rfl)); (focus (simp only [Act.put, List.setIfInBounds_toArray, List.set_cons_zero, List.set_cons_succ]; rfl))) | (refine dr_off (by kernel_rfl) (by rfl) (fun _ _ _ h => h) (a' := ?_) ?_ ?_; rotate_left; (focus (simp only [Act.put, List.setIfInBounds_toArray, List.set_cons_zero, List.set_cons_succ]; rfl))))
        refine dr_done (by kernel_rfl) ?_
        clear hS
        have HD8 := Aside0.mk (show w4.grownBy w7 (some mt) from (show w4.grownBy w4.drew (some mt) from ⟨rfl, rfl, rfl, Nat.le_refl _, fun _ _ _ => rfl⟩).trans HG7.out)
        have HF8 := Aside0.mk (show w7.grownBy w8 (some mv) from (show w7.grownBy w7.drew (some mv) from ⟨rfl, rfl, rfl, Nat.le_refl _, fun _ _ _ => rfl⟩).trans HG8.out)
        go_wp2_with fail
        go_ret
        have hcf : countedB x.f = true := HCo.out
        have ha : addC c x.f = c ++ [x.f] := if_pos hcf
        have hn : nps (c ++ [x.f]) = nps c + 1 := by rw [nps_app]; unfold nps; rw [show ([x.f] : List Fld).countP pseudoB = 1 by rw [List.countP_cons, HP.out]; rfl]
        refine ⟨congrArg (fun y => Ending.returned (.bool y)) (show true = B by rw [← HBq.out, show hasN c x.f.1 = false from HD.out, HD9.out]; simp), fun _ => ?_, ?_⟩
        · rw [ha, hn]
          exact ((HT4.out.put (f := x.f) HD.out hM hR HM7.out HD8.out HE7.out hR2 HE8.out HF8.out).drew)
        · exact ((HT4.out.put (f := x.f) HD.out hM hR HM7.out HD8.out HE7.out hR2 HE8.out HF8.out).drew).below
      | true =>
        go_enter Tryd.func24, Tryd.ntmps24
        go_wp2_with ((with_reducible refine gate_dst (N := 4) rfl ?_); refine box_event rfl (N := 4) rfl (cs := #[.string x.n, .string x.v, .bool x.nv]) (t := 41) (by first | (go_simp; done) | (go_simp; rfl)) ?_; intro gf hg w1 hbox hb; have HX1 := Aside0.mk (show SAt w1 gf #[.string x.n, .string x.v, .bool x.nv] 41 from hbox); have HT1 := Aside0.mk (HT.out.step hb); clear hb hg hbox HT; have z0 := HX1.out.is 0 rfl; have z1 := HX1.out.is 1 rfl; have z2 := HX1.out.is 2 rfl)
        refine (HR.out _).mono ?_
        rintro e w2 ⟨rfl, hb⟩
        have HX2 := Aside0.mk (HX1.out.below hb)
        have HT2 := Aside0.mk (HT1.out.step hb)
        clear hb z0 z1 z2 HX1 HT1
        have z0 := HX2.out.is 0 rfl
        have z1 := HX2.out.is 1 rfl
        have z2 := HX2.out.is 2 rfl
        go_wp2_with fail
        refine (HBa.out _).mono ?_
        rintro e w3 ⟨rfl, hb⟩
        have HX3 := Aside0.mk (HX2.out.below hb)
        have HT3 := Aside0.mk (HT2.out.step hb)
        clear hb z0 z1 z2 HX2 HT2
        have z0 := HX3.out.is 0 rfl
        have z1 := HX3.out.is 1 rfl
        have z2 := HX3.out.is 2 rfl
        have t2 := HT3.out.box.is 2 rfl
        have f2 := HT3.out.box.frozen 2
        go_wp2_with fail
        have HT4 := Aside0.mk (HT3.out.set 2 (.int .i64 ((nps c : Int) + 1)) (ps' := ((nps c + 1 : Nat) : Int)) (le' := -1) (me' := ⟨#[]⟩) rfl)
        have HX4 := Aside0.mk (HX3.out.far (blk_ne HX3.out HT3.out.box (by decide)) 2 (.int .i64 ((nps c : Int) + 1)))
        clear t2 f2 HT3 HX3 z0 z1 z2
        generalize w3.setCell ⟨g, 2, none⟩ (.int .i64 ((nps c : Int) + 1)) = w4 at *
        have z0 := HX4.out.is 0 rfl
        have z1 := HX4.out.is 1 rfl
        have z2 := HX4.out.is 2 rfl
        obtain ⟨D, hM, hR⟩ := HT4.out.times
        obtain ⟨E, hM2, hR2⟩ := HT4.out.value
        have t0 := HT4.out.box.is 0 rfl
        have t1 := HT4.out.box.is 1 rfl
        have t2 := HT4.out.box.is 2 rfl
        have t3 := HT4.out.box.is 3 rfl
        have t4 := HT4.out.box.is 4 rfl
        have hl := HT4.out.drew.lookT x.n s1
        rw [HD.out] at hl
        have hl : (Instr.lookup 50 (.map (some mt)) (.string x.n) false).run Tryd.prog w4.drew = .ok (.int .i64 (2 - 1)) w4.drew := hl
        go_still_tail 8, (by kernel_rfl)
        change wpList _ _ _ _ _ w4.drew
        go_wp2_with (at_mapUpdate; refine wpList_mapUpdate_in _ rfl _ _ _ 50 rfl 9 3 keyedH Tryd.underlying50 _ mt _ D rfl hM.drew (by have := HN.out.1; unfold maxLen; omega) _ _ _ rfl rfl (keyH x.n s1) (.lit (.int .i64 2)) [] (plainElem_int Tryd.underlying3 (by decide)) ?_; intro w7 hown hturn)
        have g1 := World.mapTurned.grown hturn
        have HM7 := Aside0.mk hown
        have HG7 := Aside0.mk g1
        have HE7 := Aside0.mk (maps_grown hM2.drew g1 (Ne.symm HT4.out.tv))
        have HX7 := Aside0.mk (HX4.out.drew.grown g1 (sat_map_ne HX4.out.drew hM.drew))
        have HC7 := Aside0.mk (HT4.out.box.drew.grown g1 HT4.out.gt)
        clear hown hturn g1 hl z0 z1 z2 t0 t1 t2 t3 t4
        have z0 := HX7.out.is 0 rfl
        have z1 := HX7.out.is 1 rfl
        have z2 := HX7.out.is 2 rfl
        have t0 := HC7.out.is 0 rfl
        have t1 := HC7.out.is 1 rfl
        go_wp2_with fail
        go_still_tail 8, (by kernel_rfl)
        change wpList _ _ _ _ _ w7.drew
        go_wp2_with (at_mapUpdate; refine wpList_mapUpdate_in _ rfl _ _ _ 51 rfl 9 9 keyedH Tryd.underlying51 _ mv _ E rfl HE7.out.drew (by have := HN.out.1; unfold maxLen; omega) _ _ _ rfl rfl (keyH x.n s1) (.lit (.string x.v.data.toList)) [] (plainElem_string Tryd.underlying9 (by have := HS.out.2; unfold maxLen; omega)) ?_; intro w8 hown hturn)
        have g2 := World.mapTurned.grown hturn
        have HE8 := Aside0.mk hown
        have HG8 := Aside0.mk g2
        have HM8 := Aside0.mk (maps_grown HM7.out.drew g2 HT4.out.tv)
        have HX8 := Aside0.mk (HX7.out.drew.grown g2 (sat_map_ne HX7.out.drew HE7.out.drew))
        have HC8 := Aside0.mk (HC7.out.drew.grown g2 HT4.out.gv)
        clear hown hturn g2 z0 z1 z2 t0 t1
        have z0 := HX8.out.is 0 rfl
        have t0 := HC8.out.is 0 rfl
        have hl := look_put HM8.out.drew hM.isMap s1
        go_wp2_with fail
        refine dr_start (fun w' => w'.cell? ⟨gf, 0, none⟩ = some (.string x.n) ∧ w'.cell? ⟨g, 0, none⟩ = some (.map (some mt)) ∧ (Instr.lookup 50 (.map (some mt)) (.string x.n) false).run Tryd.prog w' = .ok (.int .i64 2) w') [] (by kernel_rfl) ⟨z0, t0, hl⟩ (fun hS => ?_)
        repeat (first | (refine dr_pure (by kernel_rfl) (by rfl) (fun _ _ _ h => h) (v := ?_) (a' := ?_) ?_ ?_ ?_; rotate_left 2; (focus (intro w'; go_simp; with_reducible rfl)); (focus (simp only [Act.put, List.setIfInBounds_toArray, List.set_cons_zero, List.set_cons_succ]; rfl))) | (refine dr_take (by kernel_rfl) (by rfl) (fun _ _ _ h => h) hS (v := ?_) (a' := ?_) ?_ ?_ ?_; rotate_left 2; (focus (intro w' hS'; go_simp; with_reducible rfl)); (focus (simp only [Act.put, List.setIfInBounds_toArray, List.set_cons_zero, List.set_cons_succ]; rfl))) | (refine dr_off (by kernel_rfl) (by rfl) (fun _ _ _ h => h) (a' := ?_) ?_ ?_; rotate_left; (focus (simp only [Act.put, List.setIfInBounds_toArray, List.set_cons_zero, List.set_cons_succ]; rfl))))
        refine dr_done (by kernel_rfl) ?_
        clear hS
        have HD8 := Aside0.mk (show w4.grownBy w7 (some mt) from (show w4.grownBy w4.drew (some mt) from ⟨rfl, rfl, rfl, Nat.le_refl _, fun _ _ _ => rfl⟩).trans HG7.out)
        have HF8 := Aside0.mk (show w7.grownBy w8 (some mv) from (show w7.grownBy w7.drew (some mv) from ⟨rfl, rfl, rfl, Nat.le_refl _, fun _ _ _ => rfl⟩).trans HG8.out)
        go_wp2_with fail
        go_ret
        have hB : B = false := by rw [← HBq.out, show hasN c x.f.1 = true from HD.out, show countedB x.f = true from HCo.out]; simp
        exact ⟨congrArg (fun y => Ending.returned (.bool y)) hB.symm, fun e => absurd (hB.symm.trans e) (by decide), (HT4.out.belowPut HD8.out HF8.out).drew⟩
  | false =>
    by_cases hcl : x.n = clN
    · obtain ⟨d5, d6, d7⟩ := const_yes hcl (L := [99, 111, 110, 116, 101, 110, 116, 45, 108, 101, 110, 103, 116, 104]) rfl
      have HCo := Lib.hid (show countedB x.f = true by unfold countedB Fl.f; simp [hcl])
      clear hcl
      obtain ⟨dup, hdup⟩ : ∃ b, hasN c x.n = b := ⟨_, rfl⟩
      have HD := Lib.hid hdup
      clear hdup
      cases dup with
      | false =>
        go_enter Tryd.func24, Tryd.ntmps24
        go_wp2_with ((with_reducible refine gate_dst (N := 4) rfl ?_); refine box_event rfl (N := 4) rfl (cs := #[.string x.n, .string x.v, .bool x.nv]) (t := 41) (by first | (go_simp; done) | (go_simp; rfl)) ?_; intro gf hg w1 hbox hb; have HX1 := Aside0.mk (show SAt w1 gf #[.string x.n, .string x.v, .bool x.nv] 41 from hbox); have HT1 := Aside0.mk (HT.out.step hb); clear hb hg hbox HT; have z0 := HX1.out.is 0 rfl; have z1 := HX1.out.is 1 rfl; have z2 := HX1.out.is 2 rfl)
        refine (HR.out _).mono ?_
        rintro e w2 ⟨rfl, hb⟩
        have HX2 := Aside0.mk (HX1.out.below hb)
        have HT2 := Aside0.mk (HT1.out.step hb)
        clear hb z0 z1 z2 HX1 HT1
        have z0 := HX2.out.is 0 rfl
        have z1 := HX2.out.is 1 rfl
        have z2 := HX2.out.is 2 rfl
        go_wp2_with fail
        refine (HBa.out _).mono ?_
        rintro e w3 ⟨rfl, hb⟩
        have HX3 := Aside0.mk (HX2.out.below hb)
        have HT3 := Aside0.mk (HT2.out.step hb)
        clear hb z0 z1 z2 HX2 HT2
        have z0 := HX3.out.is 0 rfl
        have z1 := HX3.out.is 1 rfl
        have z2 := HX3.out.is 2 rfl
        go_wp2_with fail
        obtain ⟨D, hM, hR⟩ := HT3.out.times
        obtain ⟨E, hM2, hR2⟩ := HT3.out.value
        have t0 := HT3.out.box.is 0 rfl
        have t1 := HT3.out.box.is 1 rfl
        have t2 := HT3.out.box.is 2 rfl
        have t3 := HT3.out.box.is 3 rfl
        have t4 := HT3.out.box.is 4 rfl
        have hl := HT3.out.drew.lookT x.n s1
        rw [HD.out] at hl
        have hl : (Instr.lookup 50 (.map (some mt)) (.string x.n) false).run Tryd.prog w3.drew = .ok (.int .i64 (1 - 1)) w3.drew := hl
        go_still_tail 8, (by kernel_rfl)
        change wpList _ _ _ _ _ w3.drew
        go_wp2_with (at_mapUpdate; refine wpList_mapUpdate_in _ rfl _ _ _ 50 rfl 9 3 keyedH Tryd.underlying50 _ mt _ D rfl hM.drew (by have := HN.out.1; unfold maxLen; omega) _ _ _ rfl rfl (keyH x.n s1) (.lit (.int .i64 1)) [] (plainElem_int Tryd.underlying3 (by decide)) ?_; intro w7 hown hturn)
        have g1 := World.mapTurned.grown hturn
        have HM7 := Aside0.mk hown
        have HG7 := Aside0.mk g1
        have HE7 := Aside0.mk (maps_grown hM2.drew g1 (Ne.symm HT3.out.tv))
        have HX7 := Aside0.mk (HX3.out.drew.grown g1 (sat_map_ne HX3.out.drew hM.drew))
        have HC7 := Aside0.mk (HT3.out.box.drew.grown g1 HT3.out.gt)
        clear hown hturn g1 hl z0 z1 z2 t0 t1 t2 t3 t4
        have z0 := HX7.out.is 0 rfl
        have z1 := HX7.out.is 1 rfl
        have z2 := HX7.out.is 2 rfl
        have t0 := HC7.out.is 0 rfl
        have t1 := HC7.out.is 1 rfl
        go_wp2_with fail
        go_still_tail 8, (by kernel_rfl)
        change wpList _ _ _ _ _ w7.drew
        go_wp2_with (at_mapUpdate; refine wpList_mapUpdate_in _ rfl _ _ _ 51 rfl 9 9 keyedH Tryd.underlying51 _ mv _ E rfl HE7.out.drew (by have := HN.out.1; unfold maxLen; omega) _ _ _ rfl rfl (keyH x.n s1) (.lit (.string x.v.data.toList)) [] (plainElem_string Tryd.underlying9 (by have := HS.out.2; unfold maxLen; omega)) ?_; intro w8 hown hturn)
        have g2 := World.mapTurned.grown hturn
        have HE8 := Aside0.mk hown
        have HG8 := Aside0.mk g2
        have HM8 := Aside0.mk (maps_grown HM7.out.drew g2 HT3.out.tv)
        have HX8 := Aside0.mk (HX7.out.drew.grown g2 (sat_map_ne HX7.out.drew HE7.out.drew))
        have HC8 := Aside0.mk (HC7.out.drew.grown g2 HT3.out.gv)
        clear hown hturn g2 z0 z1 z2 t0 t1
        have z0 := HX8.out.is 0 rfl
        have t0 := HC8.out.is 0 rfl
        have hl := look_put HM8.out.drew hM.isMap s1
        go_wp2_with fail
        refine dr_start (fun w' => w'.cell? ⟨gf, 0, none⟩ = some (.string x.n) ∧ w'.cell? ⟨g, 0, none⟩ = some (.map (some mt)) ∧ (Instr.lookup 50 (.map (some mt)) (.string x.n) false).run Tryd.prog w' = .ok (.int .i64 1) w') [] (by kernel_rfl) ⟨z0, t0, hl⟩ (fun hS => ?_)
        repeat (first | (refine dr_pure (by kernel_rfl) (by rfl) (fun _ _ _ h => h) (v := ?_) (a' := ?_) ?_ ?_ ?_; rotate_left 2; (focus (intro w'; go_simp; with_reducible rfl)); (focus (simp only [Act.put, List.setIfInBounds_toArray, List.set_cons_zero, List.set_cons_succ]; rfl))) | (refine dr_take (by kernel_rfl) (by rfl) (fun _ _ _ h => h) hS (v := ?_) (a' := ?_) ?_ ?_ ?_; rotate_left 2; (focus (intro w' hS'; go_simp; with_reducible rfl)); (focus (simp only [Act.put, List.setIfInBounds_toArray, List.set_cons_zero, List.set_cons_succ]; rfl))) | (refine dr_off (by kernel_rfl) (by rfl) (fun _ _ _ h => h) (a' := ?_) ?_ ?_; rotate_left; (focus (simp only [Act.put, List.setIfInBounds_toArray, List.set_cons_zero, List.set_cons_succ]; rfl))))
        refine dr_done (by kernel_rfl) ?_
        clear hS
        have HD8 := Aside0.mk (show w3.grownBy w7 (some mt) from (show w3.grownBy w3.drew (some mt) from ⟨rfl, rfl, rfl, Nat.le_refl _, fun _ _ _ => rfl⟩).trans HG7.out)
        have HF8 := Aside0.mk (show w7.grownBy w8 (some mv) from (show w7.grownBy w7.drew (some mv) from ⟨rfl, rfl, rfl, Nat.le_refl _, fun _ _ _ => rfl⟩).trans HG8.out)
        go_wp2_with fail
        go_ret
        have hcf : countedB x.f = true := HCo.out
        have ha : addC c x.f = c ++ [x.f] := if_pos hcf
        have hn : nps (c ++ [x.f]) = nps c + 0 := by rw [nps_app]; unfold nps; rw [show ([x.f] : List Fld).countP pseudoB = 0 by rw [List.countP_cons, HP.out]; rfl]
        refine ⟨congrArg (fun y => Ending.returned (.bool y)) (show true = B by rw [← HBq.out, show hasN c x.f.1 = false from HD.out]; simp), fun _ => ?_, ?_⟩
        · rw [ha, hn]
          exact ((HT3.out.put (f := x.f) HD.out hM hR HM7.out HD8.out HE7.out hR2 HE8.out HF8.out).drew)
        · exact ((HT3.out.put (f := x.f) HD.out hM hR HM7.out HD8.out HE7.out hR2 HE8.out HF8.out).drew).below
      | true =>
        go_enter Tryd.func24, Tryd.ntmps24
        go_wp2_with ((with_reducible refine gate_dst (N := 4) rfl ?_); refine box_event rfl (N := 4) rfl (cs := #[.string x.n, .string x.v, .bool x.nv]) (t := 41) (by first | (go_simp; done) | (go_simp; rfl)) ?_; intro gf hg w1 hbox hb; have HX1 := Aside0.mk (show SAt w1 gf #[.string x.n, .string x.v, .bool x.nv] 41 from hbox); have HT1 := Aside0.mk (HT.out.step hb); clear hb hg hbox HT; have z0 := HX1.out.is 0 rfl; have z1 := HX1.out.is 1 rfl; have z2 := HX1.out.is 2 rfl)
        refine (HR.out _).mono ?_
        rintro e w2 ⟨rfl, hb⟩
        have HX2 := Aside0.mk (HX1.out.below hb)
        have HT2 := Aside0.mk (HT1.out.step hb)
        clear hb z0 z1 z2 HX1 HT1
        have z0 := HX2.out.is 0 rfl
        have z1 := HX2.out.is 1 rfl
        have z2 := HX2.out.is 2 rfl
        go_wp2_with fail
        refine (HBa.out _).mono ?_
        rintro e w3 ⟨rfl, hb⟩
        have HX3 := Aside0.mk (HX2.out.below hb)
        have HT3 := Aside0.mk (HT2.out.step hb)
        clear hb z0 z1 z2 HX2 HT2
        have z0 := HX3.out.is 0 rfl
        have z1 := HX3.out.is 1 rfl
        have z2 := HX3.out.is 2 rfl
        go_wp2_with fail
        obtain ⟨D, hM, hR⟩ := HT3.out.times
        obtain ⟨E, hM2, hR2⟩ := HT3.out.value
        have t0 := HT3.out.box.is 0 rfl
        have t1 := HT3.out.box.is 1 rfl
        have t2 := HT3.out.box.is 2 rfl
        have t3 := HT3.out.box.is 3 rfl
        have t4 := HT3.out.box.is 4 rfl
        have hl := HT3.out.drew.lookT x.n s1
        rw [HD.out] at hl
        have hl : (Instr.lookup 50 (.map (some mt)) (.string x.n) false).run Tryd.prog w3.drew = .ok (.int .i64 (2 - 1)) w3.drew := hl
        go_still_tail 8, (by kernel_rfl)
        change wpList _ _ _ _ _ w3.drew
        go_wp2_with (at_mapUpdate; refine wpList_mapUpdate_in _ rfl _ _ _ 50 rfl 9 3 keyedH Tryd.underlying50 _ mt _ D rfl hM.drew (by have := HN.out.1; unfold maxLen; omega) _ _ _ rfl rfl (keyH x.n s1) (.lit (.int .i64 2)) [] (plainElem_int Tryd.underlying3 (by decide)) ?_; intro w7 hown hturn)
        have g1 := World.mapTurned.grown hturn
        have HM7 := Aside0.mk hown
        have HG7 := Aside0.mk g1
        have HE7 := Aside0.mk (maps_grown hM2.drew g1 (Ne.symm HT3.out.tv))
        have HX7 := Aside0.mk (HX3.out.drew.grown g1 (sat_map_ne HX3.out.drew hM.drew))
        have HC7 := Aside0.mk (HT3.out.box.drew.grown g1 HT3.out.gt)
        clear hown hturn g1 hl z0 z1 z2 t0 t1 t2 t3 t4
        have z0 := HX7.out.is 0 rfl
        have z1 := HX7.out.is 1 rfl
        have z2 := HX7.out.is 2 rfl
        have t0 := HC7.out.is 0 rfl
        have t1 := HC7.out.is 1 rfl
        go_wp2_with fail
        go_still_tail 8, (by kernel_rfl)
        change wpList _ _ _ _ _ w7.drew
        go_wp2_with (at_mapUpdate; refine wpList_mapUpdate_in _ rfl _ _ _ 51 rfl 9 9 keyedH Tryd.underlying51 _ mv _ E rfl HE7.out.drew (by have := HN.out.1; unfold maxLen; omega) _ _ _ rfl rfl (keyH x.n s1) (.lit (.string x.v.data.toList)) [] (plainElem_string Tryd.underlying9 (by have := HS.out.2; unfold maxLen; omega)) ?_; intro w8 hown hturn)
        have g2 := World.mapTurned.grown hturn
        have HE8 := Aside0.mk hown
        have HG8 := Aside0.mk g2
        have HM8 := Aside0.mk (maps_grown HM7.out.drew g2 HT3.out.tv)
        have HX8 := Aside0.mk (HX7.out.drew.grown g2 (sat_map_ne HX7.out.drew HE7.out.drew))
        have HC8 := Aside0.mk (HC7.out.drew.grown g2 HT3.out.gv)
        clear hown hturn g2 z0 z1 z2 t0 t1
        have z0 := HX8.out.is 0 rfl
        have t0 := HC8.out.is 0 rfl
        have hl := look_put HM8.out.drew hM.isMap s1
        go_wp2_with fail
        refine dr_start (fun w' => w'.cell? ⟨gf, 0, none⟩ = some (.string x.n) ∧ w'.cell? ⟨g, 0, none⟩ = some (.map (some mt)) ∧ (Instr.lookup 50 (.map (some mt)) (.string x.n) false).run Tryd.prog w' = .ok (.int .i64 2) w') [] (by kernel_rfl) ⟨z0, t0, hl⟩ (fun hS => ?_)
        repeat (first | (refine dr_pure (by kernel_rfl) (by rfl) (fun _ _ _ h => h) (v := ?_) (a' := ?_) ?_ ?_ ?_; rotate_left 2; (focus (intro w'; go_simp; with_reducible rfl)); (focus (simp only [Act.put, List.setIfInBounds_toArray, List.set_cons_zero, List.set_cons_succ]; rfl))) | (refine dr_take (by kernel_rfl) (by rfl) (fun _ _ _ h => h) hS (v := ?_) (a' := ?_) ?_ ?_ ?_; rotate_left 2; (focus (intro w' hS'; go_simp; with_reducible rfl)); (focus (simp only [Act.put, List.setIfInBounds_toArray, List.set_cons_zero, List.set_cons_succ]; rfl))) | (refine dr_off (by kernel_rfl) (by rfl) (fun _ _ _ h => h) (a' := ?_) ?_ ?_; rotate_left; (focus (simp only [Act.put, List.setIfInBounds_toArray, List.set_cons_zero, List.set_cons_succ]; rfl))))
        refine dr_done (by kernel_rfl) ?_
        clear hS
        have HD8 := Aside0.mk (show w3.grownBy w7 (some mt) from (show w3.grownBy w3.drew (some mt) from ⟨rfl, rfl, rfl, Nat.le_refl _, fun _ _ _ => rfl⟩).trans HG7.out)
        have HF8 := Aside0.mk (show w7.grownBy w8 (some mv) from (show w7.grownBy w7.drew (some mv) from ⟨rfl, rfl, rfl, Nat.le_refl _, fun _ _ _ => rfl⟩).trans HG8.out)
        go_wp2_with fail
        go_ret
        have hB : B = false := by rw [← HBq.out, show hasN c x.f.1 = true from HD.out, show countedB x.f = true from HCo.out]; simp
        exact ⟨congrArg (fun y => Ending.returned (.bool y)) hB.symm, fun e => absurd (hB.symm.trans e) (by decide), (HT3.out.belowPut HD8.out HF8.out).drew⟩
    obtain ⟨d5, d6, d7⟩ := const_no hcl (L := [99, 111, 110, 116, 101, 110, 116, 45, 108, 101, 110, 103, 116, 104]) rfl
    by_cases hct : x.n = ctN
    · obtain ⟨d8, d9, d10⟩ := const_yes hct (L := [99, 111, 110, 116, 101, 110, 116, 45, 116, 121, 112, 101]) rfl
      have HCo := Lib.hid (show countedB x.f = true by unfold countedB Fl.f; simp [hct])
      clear hct hcl d7
      obtain ⟨dup, hdup⟩ : ∃ b, hasN c x.n = b := ⟨_, rfl⟩
      have HD := Lib.hid hdup
      clear hdup
      cases dup with
      | false =>
        go_enter Tryd.func24, Tryd.ntmps24
        go_wp2_with ((with_reducible refine gate_dst (N := 4) rfl ?_); refine box_event rfl (N := 4) rfl (cs := #[.string x.n, .string x.v, .bool x.nv]) (t := 41) (by first | (go_simp; done) | (go_simp; rfl)) ?_; intro gf hg w1 hbox hb; have HX1 := Aside0.mk (show SAt w1 gf #[.string x.n, .string x.v, .bool x.nv] 41 from hbox); have HT1 := Aside0.mk (HT.out.step hb); clear hb hg hbox HT; have z0 := HX1.out.is 0 rfl; have z1 := HX1.out.is 1 rfl; have z2 := HX1.out.is 2 rfl)
        refine (HR.out _).mono ?_
        rintro e w2 ⟨rfl, hb⟩
        have HX2 := Aside0.mk (HX1.out.below hb)
        have HT2 := Aside0.mk (HT1.out.step hb)
        clear hb z0 z1 z2 HX1 HT1
        have z0 := HX2.out.is 0 rfl
        have z1 := HX2.out.is 1 rfl
        have z2 := HX2.out.is 2 rfl
        go_wp2_with fail
        refine (HBa.out _).mono ?_
        rintro e w3 ⟨rfl, hb⟩
        have HX3 := Aside0.mk (HX2.out.below hb)
        have HT3 := Aside0.mk (HT2.out.step hb)
        clear hb z0 z1 z2 HX2 HT2
        have z0 := HX3.out.is 0 rfl
        have z1 := HX3.out.is 1 rfl
        have z2 := HX3.out.is 2 rfl
        go_wp2_with fail
        obtain ⟨D, hM, hR⟩ := HT3.out.times
        obtain ⟨E, hM2, hR2⟩ := HT3.out.value
        have t0 := HT3.out.box.is 0 rfl
        have t1 := HT3.out.box.is 1 rfl
        have t2 := HT3.out.box.is 2 rfl
        have t3 := HT3.out.box.is 3 rfl
        have t4 := HT3.out.box.is 4 rfl
        have hl := HT3.out.drew.lookT x.n s1
        rw [HD.out] at hl
        have hl : (Instr.lookup 50 (.map (some mt)) (.string x.n) false).run Tryd.prog w3.drew = .ok (.int .i64 (1 - 1)) w3.drew := hl
        go_still_tail 8, (by kernel_rfl)
        change wpList _ _ _ _ _ w3.drew
        go_wp2_with (at_mapUpdate; refine wpList_mapUpdate_in _ rfl _ _ _ 50 rfl 9 3 keyedH Tryd.underlying50 _ mt _ D rfl hM.drew (by have := HN.out.1; unfold maxLen; omega) _ _ _ rfl rfl (keyH x.n s1) (.lit (.int .i64 1)) [] (plainElem_int Tryd.underlying3 (by decide)) ?_; intro w7 hown hturn)
        have g1 := World.mapTurned.grown hturn
        have HM7 := Aside0.mk hown
        have HG7 := Aside0.mk g1
        have HE7 := Aside0.mk (maps_grown hM2.drew g1 (Ne.symm HT3.out.tv))
        have HX7 := Aside0.mk (HX3.out.drew.grown g1 (sat_map_ne HX3.out.drew hM.drew))
        have HC7 := Aside0.mk (HT3.out.box.drew.grown g1 HT3.out.gt)
        clear hown hturn g1 hl z0 z1 z2 t0 t1 t2 t3 t4
        have z0 := HX7.out.is 0 rfl
        have z1 := HX7.out.is 1 rfl
        have z2 := HX7.out.is 2 rfl
        have t0 := HC7.out.is 0 rfl
        have t1 := HC7.out.is 1 rfl
        go_wp2_with fail
        go_still_tail 8, (by kernel_rfl)
        change wpList _ _ _ _ _ w7.drew
        go_wp2_with (at_mapUpdate; refine wpList_mapUpdate_in _ rfl _ _ _ 51 rfl 9 9 keyedH Tryd.underlying51 _ mv _ E rfl HE7.out.drew (by have := HN.out.1; unfold maxLen; omega) _ _ _ rfl rfl (keyH x.n s1) (.lit (.string x.v.data.toList)) [] (plainElem_string Tryd.underlying9 (by have := HS.out.2; unfold maxLen; omega)) ?_; intro w8 hown hturn)
        have g2 := World.mapTurned.grown hturn
        have HE8 := Aside0.mk hown
        have HG8 := Aside0.mk g2
        have HM8 := Aside0.mk (maps_grown HM7.out.drew g2 HT3.out.tv)
        have HX8 := Aside0.mk (HX7.out.drew.grown g2 (sat_map_ne HX7.out.drew HE7.out.drew))
        have HC8 := Aside0.mk (HC7.out.drew.grown g2 HT3.out.gv)
        clear hown hturn g2 z0 z1 z2 t0 t1
        have z0 := HX8.out.is 0 rfl
        have t0 := HC8.out.is 0 rfl
        have hl := look_put HM8.out.drew hM.isMap s1
        go_wp2_with fail
        refine dr_start (fun w' => w'.cell? ⟨gf, 0, none⟩ = some (.string x.n) ∧ w'.cell? ⟨g, 0, none⟩ = some (.map (some mt)) ∧ (Instr.lookup 50 (.map (some mt)) (.string x.n) false).run Tryd.prog w' = .ok (.int .i64 1) w') [] (by kernel_rfl) ⟨z0, t0, hl⟩ (fun hS => ?_)
        repeat (first | (refine dr_pure (by kernel_rfl) (by rfl) (fun _ _ _ h => h) (v := ?_) (a' := ?_) ?_ ?_ ?_; rotate_left 2; (focus (intro w'; go_simp; with_reducible rfl)); (focus (simp only [Act.put, List.setIfInBounds_toArray, List.set_cons_zero, List.set_cons_succ]; rfl))) | (refine dr_take (by kernel_rfl) (by rfl) (fun _ _ _ h => h) hS (v := ?_) (a' := ?_) ?_ ?_ ?_; rotate_left 2; (focus (intro w' hS'; go_simp; with_reducible rfl)); (focus (simp only [Act.put, List.setIfInBounds_toArray, List.set_cons_zero, List.set_cons_succ]; rfl))) | (refine dr_off (by kernel_rfl) (by rfl) (fun _ _ _ h => h) (a' := ?_) ?_ ?_; rotate_left; (focus (simp only [Act.put, List.setIfInBounds_toArray, List.set_cons_zero, List.set_cons_succ]; rfl))))
        refine dr_done (by kernel_rfl) ?_
        clear hS
        have HD8 := Aside0.mk (show w3.grownBy w7 (some mt) from (show w3.grownBy w3.drew (some mt) from ⟨rfl, rfl, rfl, Nat.le_refl _, fun _ _ _ => rfl⟩).trans HG7.out)
        have HF8 := Aside0.mk (show w7.grownBy w8 (some mv) from (show w7.grownBy w7.drew (some mv) from ⟨rfl, rfl, rfl, Nat.le_refl _, fun _ _ _ => rfl⟩).trans HG8.out)
        go_wp2_with fail
        go_ret
        have hcf : countedB x.f = true := HCo.out
        have ha : addC c x.f = c ++ [x.f] := if_pos hcf
        have hn : nps (c ++ [x.f]) = nps c + 0 := by rw [nps_app]; unfold nps; rw [show ([x.f] : List Fld).countP pseudoB = 0 by rw [List.countP_cons, HP.out]; rfl]
        refine ⟨congrArg (fun y => Ending.returned (.bool y)) (show true = B by rw [← HBq.out, show hasN c x.f.1 = false from HD.out]; simp), fun _ => ?_, ?_⟩
        · rw [ha, hn]
          exact ((HT3.out.put (f := x.f) HD.out hM hR HM7.out HD8.out HE7.out hR2 HE8.out HF8.out).drew)
        · exact ((HT3.out.put (f := x.f) HD.out hM hR HM7.out HD8.out HE7.out hR2 HE8.out HF8.out).drew).below
      | true =>
        go_enter Tryd.func24, Tryd.ntmps24
        go_wp2_with ((with_reducible refine gate_dst (N := 4) rfl ?_); refine box_event rfl (N := 4) rfl (cs := #[.string x.n, .string x.v, .bool x.nv]) (t := 41) (by first | (go_simp; done) | (go_simp; rfl)) ?_; intro gf hg w1 hbox hb; have HX1 := Aside0.mk (show SAt w1 gf #[.string x.n, .string x.v, .bool x.nv] 41 from hbox); have HT1 := Aside0.mk (HT.out.step hb); clear hb hg hbox HT; have z0 := HX1.out.is 0 rfl; have z1 := HX1.out.is 1 rfl; have z2 := HX1.out.is 2 rfl)
        refine (HR.out _).mono ?_
        rintro e w2 ⟨rfl, hb⟩
        have HX2 := Aside0.mk (HX1.out.below hb)
        have HT2 := Aside0.mk (HT1.out.step hb)
        clear hb z0 z1 z2 HX1 HT1
        have z0 := HX2.out.is 0 rfl
        have z1 := HX2.out.is 1 rfl
        have z2 := HX2.out.is 2 rfl
        go_wp2_with fail
        refine (HBa.out _).mono ?_
        rintro e w3 ⟨rfl, hb⟩
        have HX3 := Aside0.mk (HX2.out.below hb)
        have HT3 := Aside0.mk (HT2.out.step hb)
        clear hb z0 z1 z2 HX2 HT2
        have z0 := HX3.out.is 0 rfl
        have z1 := HX3.out.is 1 rfl
        have z2 := HX3.out.is 2 rfl
        go_wp2_with fail
        obtain ⟨D, hM, hR⟩ := HT3.out.times
        obtain ⟨E, hM2, hR2⟩ := HT3.out.value
        have t0 := HT3.out.box.is 0 rfl
        have t1 := HT3.out.box.is 1 rfl
        have t2 := HT3.out.box.is 2 rfl
        have t3 := HT3.out.box.is 3 rfl
        have t4 := HT3.out.box.is 4 rfl
        have hl := HT3.out.drew.lookT x.n s1
        rw [HD.out] at hl
        have hl : (Instr.lookup 50 (.map (some mt)) (.string x.n) false).run Tryd.prog w3.drew = .ok (.int .i64 (2 - 1)) w3.drew := hl
        go_still_tail 8, (by kernel_rfl)
        change wpList _ _ _ _ _ w3.drew
        go_wp2_with (at_mapUpdate; refine wpList_mapUpdate_in _ rfl _ _ _ 50 rfl 9 3 keyedH Tryd.underlying50 _ mt _ D rfl hM.drew (by have := HN.out.1; unfold maxLen; omega) _ _ _ rfl rfl (keyH x.n s1) (.lit (.int .i64 2)) [] (plainElem_int Tryd.underlying3 (by decide)) ?_; intro w7 hown hturn)
        have g1 := World.mapTurned.grown hturn
        have HM7 := Aside0.mk hown
        have HG7 := Aside0.mk g1
        have HE7 := Aside0.mk (maps_grown hM2.drew g1 (Ne.symm HT3.out.tv))
        have HX7 := Aside0.mk (HX3.out.drew.grown g1 (sat_map_ne HX3.out.drew hM.drew))
        have HC7 := Aside0.mk (HT3.out.box.drew.grown g1 HT3.out.gt)
        clear hown hturn g1 hl z0 z1 z2 t0 t1 t2 t3 t4
        have z0 := HX7.out.is 0 rfl
        have z1 := HX7.out.is 1 rfl
        have z2 := HX7.out.is 2 rfl
        have t0 := HC7.out.is 0 rfl
        have t1 := HC7.out.is 1 rfl
        go_wp2_with fail
        go_still_tail 8, (by kernel_rfl)
        change wpList _ _ _ _ _ w7.drew
        go_wp2_with (at_mapUpdate; refine wpList_mapUpdate_in _ rfl _ _ _ 51 rfl 9 9 keyedH Tryd.underlying51 _ mv _ E rfl HE7.out.drew (by have := HN.out.1; unfold maxLen; omega) _ _ _ rfl rfl (keyH x.n s1) (.lit (.string x.v.data.toList)) [] (plainElem_string Tryd.underlying9 (by have := HS.out.2; unfold maxLen; omega)) ?_; intro w8 hown hturn)
        have g2 := World.mapTurned.grown hturn
        have HE8 := Aside0.mk hown
        have HG8 := Aside0.mk g2
        have HM8 := Aside0.mk (maps_grown HM7.out.drew g2 HT3.out.tv)
        have HX8 := Aside0.mk (HX7.out.drew.grown g2 (sat_map_ne HX7.out.drew HE7.out.drew))
        have HC8 := Aside0.mk (HC7.out.drew.grown g2 HT3.out.gv)
        clear hown hturn g2 z0 z1 z2 t0 t1
        have z0 := HX8.out.is 0 rfl
        have t0 := HC8.out.is 0 rfl
        have hl := look_put HM8.out.drew hM.isMap s1
        go_wp2_with fail
        refine dr_start (fun w' => w'.cell? ⟨gf, 0, none⟩ = some (.string x.n) ∧ w'.cell? ⟨g, 0, none⟩ = some (.map (some mt)) ∧ (Instr.lookup 50 (.map (some mt)) (.string x.n) false).run Tryd.prog w' = .ok (.int .i64 2) w') [] (by kernel_rfl) ⟨z0, t0, hl⟩ (fun hS => ?_)
        repeat (first | (refine dr_pure (by kernel_rfl) (by rfl) (fun _ _ _ h => h) (v := ?_) (a' := ?_) ?_ ?_ ?_; rotate_left 2; (focus (intro w'; go_simp; with_reducible rfl)); (focus (simp only [Act.put, List.setIfInBounds_toArray, List.set_cons_zero, List.set_cons_succ]; rfl))) | (refine dr_take (by kernel_rfl) (by rfl) (fun _ _ _ h => h) hS (v := ?_) (a' := ?_) ?_ ?_ ?_; rotate_left 2; (focus (intro w' hS'; go_simp; with_reducible rfl)); (focus (simp only [Act.put, List.setIfInBounds_toArray, List.set_cons_zero, List.set_cons_succ]; rfl))) | (refine dr_off (by kernel_rfl) (by rfl) (fun _ _ _ h => h) (a' := ?_) ?_ ?_; rotate_left; (focus (simp only [Act.put, List.setIfInBounds_toArray, List.set_cons_zero, List.set_cons_succ]; rfl))))
        refine dr_done (by kernel_rfl) ?_
        clear hS
        have HD8 := Aside0.mk (show w3.grownBy w7 (some mt) from (show w3.grownBy w3.drew (some mt) from ⟨rfl, rfl, rfl, Nat.le_refl _, fun _ _ _ => rfl⟩).trans HG7.out)
        have HF8 := Aside0.mk (show w7.grownBy w8 (some mv) from (show w7.grownBy w7.drew (some mv) from ⟨rfl, rfl, rfl, Nat.le_refl _, fun _ _ _ => rfl⟩).trans HG8.out)
        go_wp2_with fail
        go_ret
        have hB : B = false := by rw [← HBq.out, show hasN c x.f.1 = true from HD.out, show countedB x.f = true from HCo.out]; simp
        exact ⟨congrArg (fun y => Ending.returned (.bool y)) hB.symm, fun e => absurd (hB.symm.trans e) (by decide), (HT3.out.belowPut HD8.out HF8.out).drew⟩
    · obtain ⟨d8, d9, d10⟩ := const_no hct (L := [99, 111, 110, 116, 101, 110, 116, 45, 116, 121, 112, 101]) rfl
      have HCo := Lib.hid (show countedB x.f = false by unfold countedB; rw [HP.out]; unfold Fl.f; simp [hcl, hct])
      clear hct hcl
      go_enter Tryd.func24, Tryd.ntmps24
      go_wp2_with ((with_reducible refine gate_dst (N := 4) rfl ?_); refine box_event rfl (N := 4) rfl (cs := #[.string x.n, .string x.v, .bool x.nv]) (t := 41) (by first | (go_simp; done) | (go_simp; rfl)) ?_; intro gf hg w1 hbox hb; have HX1 := Aside0.mk (show SAt w1 gf #[.string x.n, .string x.v, .bool x.nv] 41 from hbox); have HT1 := Aside0.mk (HT.out.step hb); clear hb hg hbox HT; have z0 := HX1.out.is 0 rfl; have z1 := HX1.out.is 1 rfl; have z2 := HX1.out.is 2 rfl)
      refine (HR.out _).mono ?_
      rintro e w2 ⟨rfl, hb⟩
      have HX2 := Aside0.mk (HX1.out.below hb)
      have HT2 := Aside0.mk (HT1.out.step hb)
      clear hb z0 z1 z2 HX1 HT1
      have z0 := HX2.out.is 0 rfl
      have z1 := HX2.out.is 1 rfl
      have z2 := HX2.out.is 2 rfl
      go_wp2_with fail
      refine (HBa.out _).mono ?_
      rintro e w3 ⟨rfl, hb⟩
      have HX3 := Aside0.mk (HX2.out.below hb)
      have HT3 := Aside0.mk (HT2.out.step hb)
      clear hb z0 z1 z2 HX2 HT2
      have z0 := HX3.out.is 0 rfl
      have z1 := HX3.out.is 1 rfl
      have z2 := HX3.out.is 2 rfl
      go_wp2_with fail
      go_ret
      have ha : addC c x.f = c := if_neg (by rw [HCo.out]; decide)
      exact ⟨congrArg (fun y => Ending.returned (.bool y)) (show true = B by rw [← HBq.out, HCo.out]; rfl), fun _ => by rw [ha]; exact HT3.out.more (Nat.le_succ N), HT3.out.below⟩
end Go.Proofs.YtdpoookgmckclaaDoor.M
