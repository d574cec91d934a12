/- Walk of nuncioref06.Read. -/
import Derived.Test.YtbbeikdbioelgaaKMRefMsg
import Derived.Deep.DeepCutAuto
import Derived.Deep.CutBlock
set_option linter.unusedVariables false
set_option linter.unusedSimpArgs false
namespace Go.Proofs.Ytbbeikdbioelgaa.M
open Go.RowKit Go.Maps Go.Proofs.YtbbeikdbioelgaaW.PrintWords Go.Proofs.YtbbeikdbioelgaaW.PrintLast Go.Proofs.YtbbeikdbioelgaaW.PrintMore
attribute [local go_sem] max2_int min2_int max_two min_two max_three min_three max_four min_four
attribute [local go_sem ↓] Go.wp_at_zero Go.wp_at_succ
theorem met_ret {α : Type} (e : Int) (x : α) (a : Int) : Met6 (after6 e (.ok (x, a))) x a e := by
  by_cases c : e = 0
  · subst c
    exact .inl ⟨rfl, rfl⟩
  · exact .inr ⟨after6_err c _, c⟩
def stC (s : ByteArray) : Array Value := #[.string s, .int .i64 0, .int .i64 0]
theorem M6.start (w : World) (s : ByteArray) : M6 w (((w.alloc (.cells zMsg 26 (0, 0))).alloc (.cells (stC s) 96 (0, 0))).alloc (.cells zMsg 26 (0, 0))) (w.heap.size + 1) (w.heap.size + 1 + 1) w.heap.size w.heap.size w.heap.size (fun _ => True) (fun _ => True) (fun _ => True) s 0 0 0 0 (.slice none 0 0) (.slice none 0 0) (.slice none 0 0) (.slice none 0 0) [] [] [] [] := by
  have h1 : SAt (((w.alloc (.cells zMsg 26 (0, 0))).alloc (.cells (stC s) 96 (0, 0))).alloc (.cells zMsg 26 (0, 0))) w.heap.size zMsg 26 := by
    have := (SAt.new w zMsg 26).below (below_alloc (Below.refl _ _) (.cells (stC s) 96 (0, 0)))
    exact this.below (below_alloc (Below.refl _ _) _)
  have h2 : SAt (((w.alloc (.cells zMsg 26 (0, 0))).alloc (.cells (stC s) 96 (0, 0))).alloc (.cells zMsg 26 (0, 0))) (w.heap.size + 1) (stC s) 96 := by
    have := SAt.new (w.alloc (.cells zMsg 26 (0, 0))) (stC s) 96
    rw [show (w.alloc (.cells zMsg 26 (0, 0))).heap.size = w.heap.size + 1 by simp] at this
    exact this.below (below_alloc (Below.refl _ _) _)
  have h3 : SAt (((w.alloc (.cells zMsg 26 (0, 0))).alloc (.cells (stC s) 96 (0, 0))).alloc (.cells zMsg 26 (0, 0))) (w.heap.size + 1 + 1) zMsg 26 := by
    have := SAt.new ((w.alloc (.cells zMsg 26 (0, 0))).alloc (.cells (stC s) 96 (0, 0))) zMsg 26
    rw [show ((w.alloc (.cells zMsg 26 (0, 0))).alloc (.cells (stC s) 96 (0, 0))).heap.size = w.heap.size + 1 + 1 by simp] at this
    exact this
  exact ⟨⟨below_alloc (below_alloc (below_alloc (Below.refl _ _) _) _) _, h2, h3, h1, by omega, by omega, Nat.le_refl _, by omega⟩, Kd.R_nil _ _ _ _ _, Kd.R_nil _ _ _ _ _, Kd.R_nil _ _ _ _ _, Kd.R_nil _ _ _ _ _, Nat.le_refl _, by simp; omega, Nat.le_refl _, by simp; omega⟩
/-- Where a loop of reads stands: all went well so far, or an error was met. -/
def Way6 (s : ByteArray) {α : Type} (RQ R : Except Int (α × Int)) (p e : Int) : Prop := (e = 0 ∧ R = RQ ∧ 0 ≤ p ∧ p ≤ s.size) ∨ (e ≠ 0 ∧ RQ = .error e)
theorem Way6.start {s : ByteArray} {α : Type} {R : Except Int (α × Int)} {p e : Int} (h : e = 0 → 0 ≤ p ∧ p ≤ s.size) : Way6 s (after6 e R) R p e := by
  by_cases c : e = 0
  · subst c
    exact .inl ⟨rfl, (after6_ok R).symm, h rfl⟩
  · exact .inr ⟨c, after6_err c R⟩
theorem Way6.exit {s : ByteArray} {α : Type} {RQ : Except Int (α × Int)} {x : α} {p e : Int} (h : Way6 s RQ (.ok (x, p)) p e) : Met6 RQ x p e ∧ (e = 0 → 0 ≤ p ∧ p ≤ s.size) := by
  rcases h with ⟨h1, h2, h3⟩ | ⟨h1, h2⟩
  · exact ⟨.inl ⟨h2.symm, h1⟩, fun _ => h3⟩
  · exact ⟨.inr ⟨h2, h1⟩, fun h => absurd h h1⟩
theorem Way6.err {s : ByteArray} {α : Type} {RQ R : Except Int (α × Int)} {x : α} {p e : Int} (h : Way6 s RQ R p e) (he : e ≠ 0) : Met6 RQ x p e ∧ (e = 0 → 0 ≤ p ∧ p ≤ s.size) := by
  rcases h with ⟨h1, -⟩ | ⟨h1, h2⟩
  · exact absurd h1 he
  · exact ⟨.inr ⟨h2, h1⟩, fun h => absurd h h1⟩
theorem num_at {s : ByteArray} {x a a' e e' n : Int} (h : Met6 (after6 e (numR s a n)) x a' e') : e' = 0 → 0 ≤ a' ∧ a' ≤ s.size := by
  intro he
  rcases met_step h with ⟨-, -, h⟩ | ⟨h, -⟩
  · obtain ⟨h1, rfl⟩ := numR_ok h
    have := get_at h1
    omega
  · exact absurd he h
theorem sum_at {s : ByteArray} {l a e e' : Int} (h : Met6 (after6 e (sumE l a)) () a e') (h0 : e = 0 → 0 ≤ a ∧ a ≤ s.size) : e' = 0 → 0 ≤ a ∧ a ≤ s.size := by
  intro he
  rcases met_step h with ⟨-, h, -⟩ | ⟨h, -⟩
  · exact h0 h
  · exact absurd he h
theorem ques_met {s nm : ByteArray} {p a1 e1 a2 e2 a3 e3 t c : Int} (G1 : Met6 (after6 0 (txtR s p)) nm a1 e1) (G2 : Met6 (after6 e1 (numR s a1 2)) t a2 e2) (G3 : Met6 (after6 e2 (numR s a2 2)) c a3 e3) : Met6 (quesR s p) ⟨nm, t, c⟩ a3 e3 := by
  have h : Met6 (after6 0 (quesR s p)) ⟨nm, t, c⟩ a3 e3 := by
    rw [quesR_bind]
    exact met_bind G1 (met_bind G2 (met_bind G3 (met_ret _ _ _)))
  rw [after6_ok] at h
  exact h
theorem ques_step {s : ByteArray} {RQ : Except Int (List Ques × Int)} {k : Nat} {qs : List Ques} {p a e : Int} {q : Ques} (h : quessR s (k + 1) qs p = RQ) (hm : Met6 (quesR s p) q a e) : Way6 s RQ (quessR s k (qs ++ [q]) a) a e := by
  subst h
  rw [show quessR s (k + 1) qs p = (match quesR s p with | .error c => .error c | .ok (q, a') => quessR s k (qs ++ [q]) a') from rfl]
  rcases hm with ⟨hm, he⟩ | ⟨hm, he⟩
  · rw [hm]
    exact .inl ⟨he, rfl, quesR_at hm⟩
  · rw [hm]
    exact .inr ⟨he, rfl⟩
theorem rec_step {s : ByteArray} {RQ : Except Int (List Rec × Int)} {k : Nat} {l : List Rec} {p a e : Int} {r : Rec} (h : recsR s (k + 1) l p = RQ) (hm : Met6 (recR s p) r a e) : Way6 s RQ (recsR s k (l ++ [r]) a) a e := by
  subst h
  rw [show recsR s (k + 1) l p = (match recR s p with | .error c => .error c | .ok (q, a') => recsR s k (l ++ [q]) a') from rfl]
  rcases hm with ⟨hm, he⟩ | ⟨hm, he⟩
  · rw [hm]
    exact .inl ⟨he, rfl, recR_at hm⟩
  · rw [hm]
    exact .inr ⟨he, rfl⟩
theorem msg6_met {s : ByteArray} {id fl a1 a2 a3 a4 a5 a6 e1 e2 e3 e4 e5 e6 e7 b1 b2 b3 b4 f1 f2 f3 f4 f5 : Int} {na nb nc nd : Nat} {qs : List Ques} {ans auth add : List Rec} (F1 : Met6 (after6 0 (numR s 0 2)) id a1 e1) (F2 : Met6 (after6 e1 (numR s a1 2)) fl a2 e2) (F3 : Met6 (after6 e2 (numR s a2 2)) (na : Int) a3 e3) (F4 : Met6 (after6 e3 (numR s a3 2)) (nb : Int) a4 e4) (F5 : Met6 (after6 e4 (numR s a4 2)) (nc : Int) a5 e5) (F6 : Met6 (after6 e5 (numR s a5 2)) (nd : Int) a6 e6)
    (F7 : Met6 (after6 e6 (sumE ((na : Int) + nb + nc + nd) a6)) () a6 e7) (G1 : Met6 (after6 e7 (quessR s na [] a6)) qs b1 f1) (G2 : Met6 (after6 f1 (recsR s nb [] b1)) ans b2 f2) (G3 : Met6 (after6 f2 (recsR s nc [] b2)) auth b3 f3) (G4 : Met6 (after6 f3 (recsR s nd [] b3)) add b4 f4) (G5 : Met6 (after6 f4 (lastE s b4)) () b4 f5) : Met6 (msgR s) ⟨id, fl, qs, ans, auth, add⟩ b4 f5 := by
  have h : Met6 (after6 0 (msgR s)) ⟨id, fl, qs, ans, auth, add⟩ b4 f5 := by
    rw [msgR_bind]
    exact met_bind F1 (met_bind F2 (met_bind F3 (met_bind F4 (met_bind F5 (met_bind F6 (met_bind F7 (met_bind G1 (met_bind G2 (met_bind G3 (met_bind G4 (met_bind G5 (met_ret _ _ _))))))))))))
  rw [after6_ok] at h
  exact h
/-- The zero message is laid into the result's box. -/
theorem laid0 {w0 w : World} {g m q B4 B5 : Nat} {ok2 ok3 ok4 : Nat → Prop} {s : ByteArray} {a e id fl : Int} {v2 v3 v4 v5 : Value} {qs : List Ques} {ans auth add : List Rec} (d : M6 w0 w g m q B4 B5 ok2 ok3 ok4 s a e id fl v2 v3 v4 v5 qs ans auth add) :
    ∃ w9, w9 = (((((w.setCell ⟨q, 0, none⟩ (.int .u16 0)).setCell ⟨q, 1, none⟩ (.int .u16 0)).setCell ⟨q, 2, none⟩ (.slice none 0 0)).setCell ⟨q, 3, none⟩ (.slice none 0 0)).setCell ⟨q, 4, none⟩ (.slice none 0 0)).setCell ⟨q, 5, none⟩ (.slice none 0 0) ∧ Below w0.heap.size w0 w9 ∧ SAt w9 q zMsg 26 ∧ q = q ∧ St w9 g s a e := by
  have hq := d.c.qb
  have hg := Ne.symm d.c.qg
  exact ⟨_, rfl, (((((d.c.b.setCell hq _).setCell hq _).setCell hq _).setCell hq _).setCell hq _).setCell hq _, (((((d.c.z.set 0 (.int .u16 0)).set 1 (.int .u16 0)).set 2 (.slice none 0 0)).set 3 (.slice none 0 0)).set 4 (.slice none 0 0)).set 5 (.slice none 0 0), rfl, (((((d.c.st.far hg 0 _).far hg 1 _).far hg 2 _).far hg 3 _).far hg 4 _).far hg 5 _⟩
theorem post_err {s : ByteArray} {w w' : World} {M : Msg} {b c : Int} (hl : ¬ 65535 < s.size) (hm : Met6 (msgR s) M b c) (hc : c ≠ 0) (hb : Below w.heap.size w w') : ReadPost (readF s) w (.returned (.tuple #[.agg zMsg, .int .i64 c])) w' := by
  rw [show readF s = (match msgR s with | .error c => (zM, c) | .ok (m, _) => (m, 0)) from if_neg hl]
  rcases hm with ⟨-, h⟩ | ⟨h, -⟩
  · exact absurd h hc
  · rw [h]
    exact ⟨⟨_, rfl, zM_at w'⟩, hb⟩
theorem post_ok {s : ByteArray} {w w' : World} {M : Msg} {b : Int} {v : Value} (hl : ¬ 65535 < s.size) (hm : Met6 (msgR s) M b 0) (hp : MsgP w.heap.size M v w') (hb : Below w.heap.size w w') : ReadPost (readF s) w (.returned (.tuple #[v, .int .i64 0])) w' := by
  rw [show readF s = (match msgR s with | .error c => (zM, c) | .ok (m, _) => (m, 0)) from if_neg hl]
  rcases hm with ⟨h, -⟩ | ⟨-, h⟩
  · rw [h]
    exact ⟨⟨_, rfl, msgAt_of hp⟩, hb⟩
  · exact absurd rfl h
set_option maxHeartbeats 8000000 in
set_option maxRecDepth 100000 in
theorem read6_calls (s : ByteArray) (w : World) (hs : s.size ≤ 1000000) :
    Calls Try.prog 25 #[.string s] w fun e w' => ReadPost (readF s) w e w' := by
  by_cases hl : 65535 < s.size
  · have d1 : decide ((65535 : Int) < (s.size : Int)) = true := decide_eq_true (by omega)
    have d2 : decide (65535 < s.size) = true := decide_eq_true hl
    have hR : readF s = (zM, 3) := if_pos hl
    have HR := Lib.hid hR
    have hz := SAt.new w zMsg 26
    have hb := below_alloc (Below.refl w.heap.size w) (.cells zMsg 26 (0, 0))
    unfold zMsg at hz hb
    clear hl hR hs
    go_enter Try.func25, Try.ntmps25
    go_wp2_with fail
    generalize hW : w.alloc _ = w2 at *
    have r0 := hz.is 0 rfl
    have r1 := hz.is 1 rfl
    have r2 := hz.is 2 rfl
    have r3 := hz.is 3 rfl
    have r4 := hz.is 4 rfl
    have r5 := hz.is 5 rfl
    refine bodyPost_ret (v := .tuple #[.agg zMsg, .int .i64 3]) (by simp [results, Try.results25, go_sem, r0, r1, r2, r3, r4, r5, zMsg]) rfl ?_
    rw [HR.out]
    exact ⟨⟨_, rfl, zM_at w2⟩, hb⟩
  have d1 : decide ((65535 : Int) < (s.size : Int)) = false := decide_eq_false (by omega)
  have d2 : decide (65535 < s.size) = false := decide_eq_false hl
  have HLs := Lib.hid hl
  have HS := Lib.hid hs
  have HD := Aside0.mk (M6.start w s)
  unfold zMsg stC at HD
  clear hs hl
  go_enter Try.func25, Try.ntmps25
  go_wp2_with fail
  generalize hW : ((w.alloc _).alloc _).alloc _ = w1 at *
  obtain ⟨m, hm⟩ : ∃ m, w.heap.size + 1 + 1 = m := ⟨_, rfl⟩
  obtain ⟨g, hg⟩ : ∃ g, w.heap.size + 1 = g := ⟨_, rfl⟩
  obtain ⟨q, hq⟩ : ∃ q, w.heap.size = q := ⟨_, rfl⟩
  have hd := HD.out
  rw [hm, hg] at hd
  simp only [hm]
  simp only [hg]
  clear HD hm hg hW
  have HQ := Lib.hid hq
  rw [hq] at hd
  simp only [hq]
  have HD := Aside0.mk hd
  clear hq hd
  have l0 := HD.out.at0
  have fz0 := HD.out.c.x.frozen 0
  have l1 := HD.out.at1
  have fz1 := HD.out.c.x.frozen 1
  have l2 := HD.out.at2
  have fz2 := HD.out.c.x.frozen 2
  have l3 := HD.out.at3
  have fz3 := HD.out.c.x.frozen 3
  have l4 := HD.out.at4
  have fz4 := HD.out.c.x.frozen 4
  have l5 := HD.out.at5
  have fz5 := HD.out.c.x.frozen 5
  have z0 := HD.out.c.st.c0
  have z1 := HD.out.c.st.c1
  have z2 := HD.out.c.st.c2
  have k2 : w1.frozen? ⟨g, 2, none⟩ = false := blk_frozen HD.out.c.st 2
  refine (num6_b HD.out.c.st HS.out (.inl ⟨rfl, rfl⟩)).mono ?_
  rintro r w2 ⟨ho, id, v, a1, e1, rfl, ⟨rfl, t0, t1⟩, hs2, hm⟩
  have F1 := Aside0.mk hm
  have HX := Aside0.mk (HD.out.go ho hs2)
  clear l0 l1 l2 l3 l4 l5 fz0 fz1 fz2 fz3 fz4 fz5 z0 z1 z2 k2
  clear ho hs2 hm HD
  have HD := HX
  clear HX
  have l0 := HD.out.at0
  have fz0 := HD.out.c.x.frozen 0
  have l1 := HD.out.at1
  have fz1 := HD.out.c.x.frozen 1
  have l2 := HD.out.at2
  have fz2 := HD.out.c.x.frozen 2
  have l3 := HD.out.at3
  have fz3 := HD.out.c.x.frozen 3
  have l4 := HD.out.at4
  have fz4 := HD.out.c.x.frozen 4
  have l5 := HD.out.at5
  have fz5 := HD.out.c.x.frozen 5
  have z0 := HD.out.c.st.c0
  have z1 := HD.out.c.st.c1
  have z2 := HD.out.c.st.c2
  have k2 : w2.frozen? ⟨g, 2, none⟩ = false := blk_frozen HD.out.c.st 2
  have hw : IntKind.u16.wrap id = id := by rw [IntKind.wrap_u16]; omega
  have HY := Aside0.mk (HD.out.head 0 (u := .int .u16 id) rfl)
  clear t0 t1
  go_wp2_with fail
  generalize hW : w2.setCell ⟨m, 0, none⟩ (.int .u16 id) = w3 at *
  clear l0 l1 l2 l3 l4 l5 fz0 fz1 fz2 fz3 fz4 fz5 z0 z1 z2 k2
  clear HD hW hw
  have HD := HY
  clear HY
  have l0 := HD.out.at0
  have fz0 := HD.out.c.x.frozen 0
  have l1 := HD.out.at1
  have fz1 := HD.out.c.x.frozen 1
  have l2 := HD.out.at2
  have fz2 := HD.out.c.x.frozen 2
  have l3 := HD.out.at3
  have fz3 := HD.out.c.x.frozen 3
  have l4 := HD.out.at4
  have fz4 := HD.out.c.x.frozen 4
  have l5 := HD.out.at5
  have fz5 := HD.out.c.x.frozen 5
  have z0 := HD.out.c.st.c0
  have z1 := HD.out.c.st.c1
  have z2 := HD.out.c.st.c2
  have k2 : w3.frozen? ⟨g, 2, none⟩ = false := blk_frozen HD.out.c.st 2
  refine (num6_b HD.out.c.st HS.out (.inl ⟨rfl, rfl⟩)).mono ?_
  rintro r w4 ⟨ho, fl, v, a2, e2, rfl, ⟨rfl, t0, t1⟩, hs2, hm⟩
  have F2 := Aside0.mk hm
  have HX := Aside0.mk (HD.out.go ho hs2)
  clear l0 l1 l2 l3 l4 l5 fz0 fz1 fz2 fz3 fz4 fz5 z0 z1 z2 k2
  clear ho hs2 hm HD
  have HD := HX
  clear HX
  have l0 := HD.out.at0
  have fz0 := HD.out.c.x.frozen 0
  have l1 := HD.out.at1
  have fz1 := HD.out.c.x.frozen 1
  have l2 := HD.out.at2
  have fz2 := HD.out.c.x.frozen 2
  have l3 := HD.out.at3
  have fz3 := HD.out.c.x.frozen 3
  have l4 := HD.out.at4
  have fz4 := HD.out.c.x.frozen 4
  have l5 := HD.out.at5
  have fz5 := HD.out.c.x.frozen 5
  have z0 := HD.out.c.st.c0
  have z1 := HD.out.c.st.c1
  have z2 := HD.out.c.st.c2
  have k2 : w4.frozen? ⟨g, 2, none⟩ = false := blk_frozen HD.out.c.st 2
  have hw : IntKind.u16.wrap fl = fl := by rw [IntKind.wrap_u16]; omega
  have HY := Aside0.mk (HD.out.head 1 (u := .int .u16 fl) rfl)
  clear t0 t1
  go_wp2_with fail
  generalize hW : w4.setCell ⟨m, 1, none⟩ (.int .u16 fl) = w5 at *
  clear l0 l1 l2 l3 l4 l5 fz0 fz1 fz2 fz3 fz4 fz5 z0 z1 z2 k2
  clear HD hW hw
  have HD := HY
  clear HY
  have l0 := HD.out.at0
  have fz0 := HD.out.c.x.frozen 0
  have l1 := HD.out.at1
  have fz1 := HD.out.c.x.frozen 1
  have l2 := HD.out.at2
  have fz2 := HD.out.c.x.frozen 2
  have l3 := HD.out.at3
  have fz3 := HD.out.c.x.frozen 3
  have l4 := HD.out.at4
  have fz4 := HD.out.c.x.frozen 4
  have l5 := HD.out.at5
  have fz5 := HD.out.c.x.frozen 5
  have z0 := HD.out.c.st.c0
  have z1 := HD.out.c.st.c1
  have z2 := HD.out.c.st.c2
  have k2 : w5.frozen? ⟨g, 2, none⟩ = false := blk_frozen HD.out.c.st 2
  refine (num6_b HD.out.c.st HS.out (.inl ⟨rfl, rfl⟩)).mono ?_
  rintro r w6 ⟨ho, na, v, a3, e3, rfl, ⟨rfl, t0, t1⟩, hs2, hm⟩
  have F3 := Aside0.mk hm
  have HX := Aside0.mk (HD.out.go ho hs2)
  clear l0 l1 l2 l3 l4 l5 fz0 fz1 fz2 fz3 fz4 fz5 z0 z1 z2 k2
  clear ho hs2 hm HD
  have HD := HX
  clear HX
  have l0 := HD.out.at0
  have fz0 := HD.out.c.x.frozen 0
  have l1 := HD.out.at1
  have fz1 := HD.out.c.x.frozen 1
  have l2 := HD.out.at2
  have fz2 := HD.out.c.x.frozen 2
  have l3 := HD.out.at3
  have fz3 := HD.out.c.x.frozen 3
  have l4 := HD.out.at4
  have fz4 := HD.out.c.x.frozen 4
  have l5 := HD.out.at5
  have fz5 := HD.out.c.x.frozen 5
  have z0 := HD.out.c.st.c0
  have z1 := HD.out.c.st.c1
  have z2 := HD.out.c.st.c2
  have k2 : w6.frozen? ⟨g, 2, none⟩ = false := blk_frozen HD.out.c.st 2
  obtain ⟨na, rfl⟩ : ∃ n : Nat, na = n := ⟨na.toNat, by omega⟩
  have na1 : (na : Int) ≤ 65535 := t1
  clear t0 t1
  go_wp2_with fail
  refine (num6_b HD.out.c.st HS.out (.inl ⟨rfl, rfl⟩)).mono ?_
  rintro r w7 ⟨ho, nb, v, a4, e4, rfl, ⟨rfl, t0, t1⟩, hs2, hm⟩
  have F4 := Aside0.mk hm
  have HX := Aside0.mk (HD.out.go ho hs2)
  clear l0 l1 l2 l3 l4 l5 fz0 fz1 fz2 fz3 fz4 fz5 z0 z1 z2 k2
  clear ho hs2 hm HD
  have HD := HX
  clear HX
  have l0 := HD.out.at0
  have fz0 := HD.out.c.x.frozen 0
  have l1 := HD.out.at1
  have fz1 := HD.out.c.x.frozen 1
  have l2 := HD.out.at2
  have fz2 := HD.out.c.x.frozen 2
  have l3 := HD.out.at3
  have fz3 := HD.out.c.x.frozen 3
  have l4 := HD.out.at4
  have fz4 := HD.out.c.x.frozen 4
  have l5 := HD.out.at5
  have fz5 := HD.out.c.x.frozen 5
  have z0 := HD.out.c.st.c0
  have z1 := HD.out.c.st.c1
  have z2 := HD.out.c.st.c2
  have k2 : w7.frozen? ⟨g, 2, none⟩ = false := blk_frozen HD.out.c.st 2
  obtain ⟨nb, rfl⟩ : ∃ n : Nat, nb = n := ⟨nb.toNat, by omega⟩
  have nb1 : (nb : Int) ≤ 65535 := t1
  clear t0 t1
  go_wp2_with fail
  refine (num6_b HD.out.c.st HS.out (.inl ⟨rfl, rfl⟩)).mono ?_
  rintro r w8 ⟨ho, nc, v, a5, e5, rfl, ⟨rfl, t0, t1⟩, hs2, hm⟩
  have F5 := Aside0.mk hm
  have HX := Aside0.mk (HD.out.go ho hs2)
  clear l0 l1 l2 l3 l4 l5 fz0 fz1 fz2 fz3 fz4 fz5 z0 z1 z2 k2
  clear ho hs2 hm HD
  have HD := HX
  clear HX
  have l0 := HD.out.at0
  have fz0 := HD.out.c.x.frozen 0
  have l1 := HD.out.at1
  have fz1 := HD.out.c.x.frozen 1
  have l2 := HD.out.at2
  have fz2 := HD.out.c.x.frozen 2
  have l3 := HD.out.at3
  have fz3 := HD.out.c.x.frozen 3
  have l4 := HD.out.at4
  have fz4 := HD.out.c.x.frozen 4
  have l5 := HD.out.at5
  have fz5 := HD.out.c.x.frozen 5
  have z0 := HD.out.c.st.c0
  have z1 := HD.out.c.st.c1
  have z2 := HD.out.c.st.c2
  have k2 : w8.frozen? ⟨g, 2, none⟩ = false := blk_frozen HD.out.c.st 2
  obtain ⟨nc, rfl⟩ : ∃ n : Nat, nc = n := ⟨nc.toNat, by omega⟩
  have nc1 : (nc : Int) ≤ 65535 := t1
  clear t0 t1
  go_wp2_with fail
  refine (num6_b HD.out.c.st HS.out (.inl ⟨rfl, rfl⟩)).mono ?_
  rintro r w9 ⟨ho, nd, v, a6, e6, rfl, ⟨rfl, t0, t1⟩, hs2, hm⟩
  have F6 := Aside0.mk hm
  have HX := Aside0.mk (HD.out.go ho hs2)
  clear l0 l1 l2 l3 l4 l5 fz0 fz1 fz2 fz3 fz4 fz5 z0 z1 z2 k2
  clear ho hs2 hm HD
  have HD := HX
  clear HX
  have l0 := HD.out.at0
  have fz0 := HD.out.c.x.frozen 0
  have l1 := HD.out.at1
  have fz1 := HD.out.c.x.frozen 1
  have l2 := HD.out.at2
  have fz2 := HD.out.c.x.frozen 2
  have l3 := HD.out.at3
  have fz3 := HD.out.c.x.frozen 3
  have l4 := HD.out.at4
  have fz4 := HD.out.c.x.frozen 4
  have l5 := HD.out.at5
  have fz5 := HD.out.c.x.frozen 5
  have z0 := HD.out.c.st.c0
  have z1 := HD.out.c.st.c1
  have z2 := HD.out.c.st.c2
  have k2 : w9.frozen? ⟨g, 2, none⟩ = false := blk_frozen HD.out.c.st 2
  obtain ⟨nd, rfl⟩ : ∃ n : Nat, nd = n := ⟨nd.toNat, by omega⟩
  have nd1 : (nd : Int) ≤ 65535 := t1
  clear t0 t1
  go_upto_region 11 with fail
  obtain ⟨bs, hbs⟩ : ∃ b, decide (e6 = 0 ∧ 256 < (na : Int) + nb + nc + nd) = b := ⟨_, rfl⟩
  have HBs := Lib.hid hbs
  go_cut [53] (fun s53 wc => s53 = .bool bs ∧ Aside0 (wc = w9))
  case first =>
    by_cases c6 : e6 = 0
    case neg =>
      have d3 : (e6 == 0) = false := beq_eq_false_iff_ne.mpr c6
      obtain rfl : bs = false := by rw [← hbs]; exact decide_eq_false (fun h => c6 h.1)
      clear c6 hbs
      go_wp2_with fail
      go_meet
      exact ⟨rfl, ⟨rfl⟩⟩
    case pos =>
      have d3 : (e6 == 0) = true := beq_iff_eq.mpr c6
      by_cases c7 : 256 < (na : Int) + nb + nc + nd
      · have d4 : decide (256 < (na : Int) + nb + nc + nd) = true := decide_eq_true c7
        obtain rfl : bs = true := by rw [← hbs]; exact decide_eq_true ⟨c6, c7⟩
        clear c6 c7 hbs
        go_wp2_with fail
        go_meet
        exact ⟨rfl, ⟨rfl⟩⟩
      · have d4 : decide (256 < (na : Int) + nb + nc + nd) = false := decide_eq_false c7
        obtain rfl : bs = false := by rw [← hbs]; exact decide_eq_false (fun h => c7 h.2)
        clear c6 c7 hbs
        go_wp2_with fail
        go_meet
        exact ⟨rfl, ⟨rfl⟩⟩
  case rest =>
    obtain ⟨rfl, hwc⟩ := hcut
    obtain rfl := hwc.out
    clear hwc hbs
    go_upto_if 53 with fail
    go_cut [] (fun wc => ∃ e7 : Int, Aside0 (Met6 (after6 e6 (sumE ((na : Int) + nb + nc + nd) a6)) () a6 e7) ∧ Aside0 (M6 w wc g m q q q (fun _ => True) (fun _ => True) (fun _ => True) s a6 e7 id fl (.slice none 0 0) (.slice none 0 0) (.slice none 0 0) (.slice none 0 0) [] [] [] []))
    case first =>
      have hbs := HBs.out
      cases bs with
      | true =>
        have hb := of_decide_eq_true hbs
        have HM : Aside0 (Met6 (after6 e6 (sumE ((na : Int) + nb + nc + nd) a6)) () a6 6) := ⟨.inr ⟨by rw [hb.1, after6_ok]; exact if_pos hb.2, by decide⟩⟩
        have HD2 := Aside0.mk (HD.out.sete 6)
        clear hbs hb
        go_wp2_with fail
        go_meet
        exact ⟨6, HM, HD2⟩
      | false =>
        have hb := of_decide_eq_false hbs
        have HM : Aside0 (Met6 (after6 e6 (sumE ((na : Int) + nb + nc + nd) a6)) () a6 e6) := ⟨by
          by_cases c6 : e6 = 0
          · subst c6
            exact .inl ⟨by rw [after6_ok]; exact if_neg (fun h => hb ⟨rfl, h⟩), rfl⟩
          · exact .inr ⟨after6_err c6 _, c6⟩⟩
        clear hbs hb
        go_wp2_with fail
        go_meet
        exact ⟨e6, HM, HD⟩
    case rest =>
      clear l0 l1 l2 l3 l4 l5 fz0 fz1 fz2 fz3 fz4 fz5 z0 z1 z2 k2
      clear HD HBs
      obtain ⟨e7, F7, HD⟩ := hcut
      go_upto_block 0 with fail
      go_cut [10] (fun v10 wc => ∃ (qs : List Ques) (b1 f1 : Int) (v2 : Value), Aside0 (Met6 (after6 e7 (quessR s na [] a6)) qs b1 f1 ∧ (f1 = 0 → 0 ≤ b1 ∧ b1 ≤ s.size)) ∧ Aside0 (M6 w wc g m q q q (fun _ => True) (fun _ => True) (fun _ => True) s b1 f1 id fl v2 (.slice none 0 0) (.slice none 0 0) (.slice none 0 0) qs [] [] []))
      case first =>
        obtain ⟨RQ, hRQ⟩ : ∃ RQ, after6 e7 (quessR s na [] a6) = RQ := ⟨_, rfl⟩
        have hW := Way6.start (R := quessR s na [] a6) (sum_at F7.out (num_at F6.out))
        rw [hRQ] at hW
        have HRQ := Lib.hid hRQ
        have HW := Aside0.mk hW
        clear hRQ hW F7 F6 F5 F4 F3 F2 F1
        go_wp2_with fail
        go_loopg [10] na (fun kq v10 w' => ∃ (i : Nat) (qs : List Ques) (p e : Int) (v2 : Value), v10 = .int .i64 i ∧ Aside0 (Way6 s RQ (quessR s kq qs p) p e) ∧ Aside0 (kq + i = na) ∧ Aside0 (qs.length = i) ∧ Aside0 (M6 w w' g m q q q (fun _ => True) (fun _ => True) (fun _ => True) s p e id fl v2 (.slice none 0 0) (.slice none 0 0) (.slice none 0 0) qs [] [] []))
        case atStart => exact ⟨0, [], a6, e7, _, rfl, HW, ⟨rfl⟩, ⟨rfl⟩, HD⟩
        case round =>
          clear HW HD
          obtain ⟨i, qs, p, e, v2, rfl, HW, HK, HL, HD⟩ := hrel
          obtain ⟨A2, n2, c2, rfl⟩ := R_anyslice HD.out.r2
          have q0 : (i : Int) ≤ 65535 := by have := HK.out; omega
          have l0 := HD.out.at0
          have fz0 := HD.out.c.x.frozen 0
          have l1 := HD.out.at1
          have fz1 := HD.out.c.x.frozen 1
          have l2 := HD.out.at2
          have fz2 := HD.out.c.x.frozen 2
          have l3 := HD.out.at3
          have fz3 := HD.out.c.x.frozen 3
          have l4 := HD.out.at4
          have fz4 := HD.out.c.x.frozen 4
          have l5 := HD.out.at5
          have fz5 := HD.out.c.x.frozen 5
          have z0 := HD.out.c.st.c0
          have z1 := HD.out.c.st.c1
          have z2 := HD.out.c.st.c2
          have k2 : wr.frozen? ⟨g, 2, none⟩ = false := blk_frozen HD.out.c.st 2
          cases gk with
          | zero =>
            obtain rfl : i = na := by have := HK.out; omega
            go_wp2_with fail
            go_meet
            exact ⟨qs, p, e, _, ⟨by rw [HRQ.out]; exact Way6.exit HW.out⟩, HD⟩
          | succ k =>
            have q1 : (i : Int) < (na : Int) := by have := HK.out; omega
            by_cases c0 : e = 0
            case neg =>
              have d3 : (e == 0) = false := beq_eq_false_iff_ne.mpr c0
              have HM := Aside0.mk (Way6.err (x := qs) HW.out c0)
              clear c0
              go_wp2_with fail
              go_meet
              exact ⟨qs, p, e, _, ⟨by rw [HRQ.out]; exact HM.out⟩, HD⟩
            case pos =>
              subst c0
              have d3 : ((0 : Int) == 0) = true := rfl
              obtain ⟨-, hE, hp0, hp1⟩ := HW.out.resolve_right (fun h => h.1 rfl)
              have HE := Aside0.mk hE
              have HP := Lib.hid (And.intro hp0 hp1)
              clear hE hp0 hp1 HW
              go_wp2_with fail
              refine (name6_any HD.out.c.st HS.out (fun _ => HP.out)).mono ?_
              rintro r w2 ⟨ho, nm, v, a1, e1, rfl, ⟨rfl, hnm⟩, hs1, hm⟩
              have G1 := Aside0.mk hm
              have HD1 := Aside0.mk ((HD.out.go ho hs1).quesBox (.cells #[.string nm, .int .u16 0, .int .u16 0] 39 (0, 0)))
              have HX := Aside0.mk (SAt.new w2 #[.string nm, .int .u16 0, .int .u16 0] 39)
              have HB := Lib.hid (show q ≤ w2.heap.size by have := (HD.out.go ho hs1).c.b.size; rw [HQ.out] at this; exact this)
              clear l0 l1 l2 l3 l4 l5 fz0 fz1 fz2 fz3 fz4 fz5 z0 z1 z2 k2
              clear ho hs1 hm hnm HD
              go_wp2_with fail
              generalize hW : w2.alloc (.cells #[.string nm, .int .u16 0, .int .u16 0] 39 (0, 0)) = w3 at *
              obtain ⟨b, hb⟩ : ∃ b, w2.heap.size = b := ⟨_, rfl⟩
              rw [hb] at HD1 HX HB
              simp only [hb]
              clear hb hW
              refine (num6_b HD1.out.c.st HS.out (.inl ⟨rfl, rfl⟩)).mono ?_
              rintro r w4 ⟨ho, tt, v, a2, e2, rfl, ⟨rfl, t0, t1⟩, hs2, hm⟩
              have G2 := Aside0.mk hm
              have HD2 := Aside0.mk (HD1.out.go ho hs2)
              have HX2 := Aside0.mk (ho.at_ HX.out (HX.out.ne6 HD1.out.c.st (by decide)))
              have hw : IntKind.u16.wrap tt = tt := by rw [IntKind.wrap_u16]; omega
              have y := SAt.is (w := w4) HX2.out 1 rfl
              have fy := SAt.frozen (w := w4) HX2.out 1
              have HD3 := Aside0.mk (HD2.out.quesSet HX2.out (by rw [HQ.out]; exact HB.out) (fun _ hk => hk.2) 1 (.int .u16 tt))
              have HX3 := Aside0.mk (show SAt (w4.setCell ⟨b, 1, none⟩ (.int .u16 tt)) b #[.string nm, .int .u16 tt, .int .u16 0] 39 from SAt.set (w := w4) HX2.out 1 (.int .u16 tt))
              clear ho hs2 hm HD1 HX HX2 HD2 t0 t1
              go_wp2_with fail
              generalize hW : w4.setCell ⟨b, 1, none⟩ (.int .u16 tt) = w5 at *
              clear hW hw y fy
              have HD1 := HD3
              have HX := HX3
              clear HD3 HX3
              refine (num6_b HD1.out.c.st HS.out (.inl ⟨rfl, rfl⟩)).mono ?_
              rintro r w6 ⟨ho, cc, v, a3, e3, rfl, ⟨rfl, t0, t1⟩, hs2, hm⟩
              have G3 := Aside0.mk hm
              have HD2 := Aside0.mk (HD1.out.go ho hs2)
              have HX2 := Aside0.mk (ho.at_ HX.out (HX.out.ne6 HD1.out.c.st (by decide)))
              have hw : IntKind.u16.wrap cc = cc := by rw [IntKind.wrap_u16]; omega
              have y := SAt.is (w := w6) HX2.out 2 rfl
              have fy := SAt.frozen (w := w6) HX2.out 2
              have HD3 := Aside0.mk (HD2.out.quesSet HX2.out (by rw [HQ.out]; exact HB.out) (fun _ hk => hk.2) 2 (.int .u16 cc))
              have HX3 := Aside0.mk (show SAt (w6.setCell ⟨b, 2, none⟩ (.int .u16 cc)) b #[.string nm, .int .u16 tt, .int .u16 cc] 39 from SAt.set (w := w6) HX2.out 2 (.int .u16 cc))
              clear ho hs2 hm HD1 HX HX2 HD2 t0 t1
              go_upto_region 19 with fail
              generalize hW : w6.setCell ⟨b, 2, none⟩ (.int .u16 cc) = w7 at *
              clear hW hw y fy
              have HD1 := HD3
              have HX := HX3
              clear HD3 HX3
              have HM := Aside0.mk (ques_step HE.out (ques_met G1.out G2.out G3.out))
              have HL1 := Aside0.mk (show (qs.length + 1) * 24 ≤ 140737488355328 by have := HL.out; omega)
              clear G1 G2 G3 HE
              have l0 := HD1.out.at0
              have fz0 := HD1.out.c.x.frozen 0
              have l1 := HD1.out.at1
              have fz1 := HD1.out.c.x.frozen 1
              have l2 := HD1.out.at2
              have fz2 := HD1.out.c.x.frozen 2
              have l3 := HD1.out.at3
              have fz3 := HD1.out.c.x.frozen 3
              have l4 := HD1.out.at4
              have fz4 := HD1.out.c.x.frozen 4
              have l5 := HD1.out.at5
              have fz5 := HD1.out.c.x.frozen 5
              have z0 := HD1.out.c.st.c0
              have z1 := HD1.out.c.st.c1
              have z2 := HD1.out.c.st.c2
              have k2 : w7.frozen? ⟨g, 2, none⟩ = false := blk_frozen HD1.out.c.st 2
              have x0 := HX.out.is 0 rfl
              have x1 := HX.out.is 1 rfl
              have x2 := HX.out.is 2 rfl
              go_wp2_with ((with_reducible refine gate_builtin (b := .append) (xs := #[.tmp 81, .tmp 83]) rfl ?_); at_builtin; go_must (refine Kd.R_append kQues (w0 := w7) w.heap.size rfl (.tmp 81) (.tmp 83) 23 39 (.agg #[(.string ⟨#[]⟩), (.int .u16 0), (.int .u16 0)]) 24 rfl Try.underlying23 infoQues rfl (by decide) (by decide) (.slice A2 n2 c2) qs ⟨nm, tt, cc⟩ [.string nm, .int .u16 tt, .int .u16 cc] (fun k => True ∧ k ≠ b) (fun _ => False) rfl rfl (kQues_mkM w7 _ _ _) (fun _ hk => hk.elim) (fun k hk => ⟨trivial, by have := HX.out.lt; omega⟩) HD1.out.r2 (Below.refl _ _) HD1.out.c.b.size HL1.out ?_; intro va wa hoa hba hga hata; obtain ⟨A3, n3, c3, rfl⟩ := R_anyslice hoa; have HD4 := Aside0.mk (HD1.out.app2 (Kd.R_mono hoa (fun _ _ => trivial)) hga); have m2 := SAt.is (w := wa) (blk_grown HD1.out.c.x hga (Kd.R_ne HD1.out.r2 HD1.out.c.x (by decide))) 2 rfl; have g2 := SAt.frozen (w := wa) (blk_grown HD1.out.c.x hga (Kd.R_ne HD1.out.r2 HD1.out.c.x (by decide))) 2; clear hoa hba hga hata))
              go_roundg k
              case measure => omega
              case rel => exact ⟨i + 1, _, a3, e3, _, by go_num, HM, ⟨by have := HK.out; omega⟩, ⟨by have := HL.out; rw [List.length_append, List.length_singleton]; omega⟩, HD4⟩
      case rest =>
        clear HD
        obtain ⟨qs, b1, f1, v2, G1, HD⟩ := hcut
        go_upto_block 2 with fail
        go_cut [12] (fun vs wc => ∃ (ans : List Rec) (b2 f2 : Int) (v3 : Value), Aside0 (Met6 (after6 f1 (recsR s nb [] b1)) ans b2 f2 ∧ (f2 = 0 → 0 ≤ b2 ∧ b2 ≤ s.size)) ∧ Aside0 (M6 w wc g m q q q (fun _ => True) (fun _ => True) (fun _ => True) s b2 f2 id fl v2 v3 (.slice none 0 0) (.slice none 0 0) qs ans [] []))
        case first =>
          obtain ⟨RQ, hRQ⟩ : ∃ RQ, after6 f1 (recsR s nb [] b1) = RQ := ⟨_, rfl⟩
          have hW := Way6.start (R := recsR s nb [] b1) G1.out.2
          rw [hRQ] at hW
          have HRQ := Lib.hid hRQ
          have HW := Aside0.mk hW
          clear hRQ hW G1
          go_wp2_with fail
          go_loopg [12] nb (fun kq vs w' => ∃ (i : Nat) (l : List Rec) (p e : Int) (v : Value), vs = .int .i64 i ∧ Aside0 (Way6 s RQ (recsR s kq l p) p e) ∧ Aside0 (kq + i = nb) ∧ Aside0 (l.length = i) ∧ Aside0 (M6 w w' g m q q q (fun _ => True) (fun _ => True) (fun _ => True) s p e id fl v2 v (.slice none 0 0) (.slice none 0 0) qs l [] []))
          case atStart => exact ⟨0, [], b1, f1, _, rfl, HW, ⟨rfl⟩, ⟨rfl⟩, HD⟩
          case round =>
            clear HW HD
            obtain ⟨i, l, p, e, v, rfl, HW, HK, HL, HD⟩ := hrel
            obtain ⟨A3, n3, c3, rfl⟩ := R_anyslice HD.out.r3
            have q0 : (i : Int) ≤ 65535 := by have := HK.out; omega
            have l0 := HD.out.at0
            have fz0 := HD.out.c.x.frozen 0
            have l1 := HD.out.at1
            have fz1 := HD.out.c.x.frozen 1
            have l2 := HD.out.at2
            have fz2 := HD.out.c.x.frozen 2
            have l3 := HD.out.at3
            have fz3 := HD.out.c.x.frozen 3
            have l4 := HD.out.at4
            have fz4 := HD.out.c.x.frozen 4
            have l5 := HD.out.at5
            have fz5 := HD.out.c.x.frozen 5
            have z0 := HD.out.c.st.c0
            have z1 := HD.out.c.st.c1
            have z2 := HD.out.c.st.c2
            have k2 : wr.frozen? ⟨g, 2, none⟩ = false := blk_frozen HD.out.c.st 2
            cases gk with
            | zero =>
              obtain rfl : i = nb := by have := HK.out; omega
              go_wp2_with fail
              go_meet
              exact ⟨l, p, e, _, ⟨by rw [HRQ.out]; exact Way6.exit HW.out⟩, HD⟩
            | succ k =>
              have q1 : (i : Int) < (nb : Int) := by have := HK.out; omega
              by_cases c0 : e = 0
              case neg =>
                have d3 : (e == 0) = false := beq_eq_false_iff_ne.mpr c0
                have HM := Aside0.mk (Way6.err (x := l) HW.out c0)
                clear c0
                go_wp2_with fail
                go_meet
                exact ⟨l, p, e, _, ⟨by rw [HRQ.out]; exact HM.out⟩, HD⟩
              case pos =>
                subst c0
                have d3 : ((0 : Int) == 0) = true := rfl
                obtain ⟨-, hE, hp0, hp1⟩ := HW.out.resolve_right (fun h => h.1 rfl)
                have HE := Aside0.mk hE
                have HP := Lib.hid (And.intro hp0 hp1)
                clear hE hp0 hp1 HW
                go_wp2_with fail
                refine dr_start (fun w' => w'.cell? ⟨m, 3, none⟩ = some (.slice A3 n3 c3)) [7] (by kernel_rfl) l3 (fun hS => ?_)
                repeat (first | (refine dr_pure (by kernel_rfl) (by rfl) (fun _ _ _ h => h) (v := ?_) (a' := ?_) ?_ ?_ ?_; rotate_left 2; (focus (intro w'; go_simp; with_reducible rfl)); (focus (simp only [Act.put, List.setIfInBounds_toArray, List.set_cons_zero, List.set_cons_succ]; rfl))) | (refine dr_take (by kernel_rfl) (by rfl) (fun _ _ _ h => h) hS (v := ?_) (a' := ?_) ?_ ?_ ?_; rotate_left 2; (focus (intro w' hS'; go_simp; with_reducible rfl)); (focus (simp only [Act.put, List.setIfInBounds_toArray, List.set_cons_zero, List.set_cons_succ]; rfl))) | (refine dr_off (by kernel_rfl) (by rfl) (fun _ _ _ h => h) (a' := ?_) ?_ ?_; rotate_left; (focus (simp only [Act.put, List.setIfInBounds_toArray, List.set_cons_zero, List.set_cons_succ]; rfl))))
                refine dr_call Try.func50 (by kernel_rfl) rfl rfl (by kernel_rfl) (by kernel_rfl) (by rfl) (args := #[.pointer (some ⟨g, 0, none⟩)]) (by first | rfl | kernel_rfl | (simp [Act.eval]; done)) ?_
                have HDd := Aside0.mk HD.out.drew
                refine (record6_calls HDd.out.c.st HS.out HP.out.1 HP.out.2).mono ?_
                rintro r w2 ⟨ho, rc, v, a1, e1, rfl, hp, hs1, hm⟩
                obtain ⟨v4', v5', v6', rfl, h4, h5, h6⟩ := hp
                have HM := Aside0.mk (rec_step HE.out hm)
                have HD1 := Aside0.mk (HDd.out.go ho hs1)
                have hsz := HDd.out.c.b.size
                have H4 := Aside0.mk (Kd.R_apartR (Kd.R_lower h4 hsz) HD1.out.r3 (by decide))
                have H5 := Aside0.mk (Kd.R_apartR (Kd.R_lower h5 hsz) HD1.out.r3 (by intro q hq; rw [show q = 41 by simpa [Kd.int, Kd.scalar] using hq]; decide))
                have H6 := Aside0.mk (Kd.R_apartR (Kd.R_lower h6 hsz) HD1.out.r3 (by decide))
                have HL1 := Lib.hid (show (l.length + 1) * 96 ≤ 140737488355328 by have := HL.out; omega)
                obtain ⟨A4, n4, c4, rfl⟩ := R_anyslice h4
                obtain ⟨A5, n5, c5, rfl⟩ := R_anyslice h5
                obtain ⟨A6, n6, c6, rfl⟩ := R_anyslice h6
                clear l0 l1 l2 l3 l4 l5 fz0 fz1 fz2 fz3 fz4 fz5 z0 z1 z2 k2
                clear hsz ho hs1 hm h4 h5 h6 hS HE HDd HD
                refine .inl ⟨_, rfl, HD1.out.at3, fun hS => ?_⟩
                refine dr_norm (a' := ?_) ?_ ?_
                rotate_left
                · simp only [Act.put, List.setIfInBounds_toArray, List.set_cons_zero, List.set_cons_succ]; rfl
                refine dr_val (.slice (some ⟨w2.heap.size, 0, none⟩) 1 1) (w2.alloc (.cells #[.string rc.f0, .int .u16 rc.f1, .int .u16 rc.f2, .int .u32 rc.f3, .slice A4 n4 c4, .slice A5 n5 c5, .slice A6 n6 c6] 44)) (by kernel_rfl) (by kernel_rfl) (by rfl) (by go_simp; done) (HD1.out.below (below_alloc (Below.refl _ _) _)).at3 (by simp only [Act.put, List.setIfInBounds_toArray, List.set_cons_zero, List.set_cons_succ]; rfl) (fun hS => ?_)
                refine dr_one (by kernel_rfl) (by kernel_rfl) (fun K hK => ?_)
                refine Kd.R_append_step kRec (w0 := w2) w.heap.size (by kernel_rfl) (.tmp 99) (.tmp 102) 24 44 (.agg #[(.string ⟨#[]⟩), (.int .u16 0), (.int .u16 0), (.int .u32 0), (.slice none 0 0), (.slice none 0 0), (.slice none 0 0)]) 96 (by rfl) Try.underlying24 infoRec rfl (by decide) (by decide) (.slice A3 n3 c3) l rc [.string rc.f0, .int .u16 rc.f1, .int .u16 rc.f2, .int .u32 rc.f3, .slice A4 n4 c4, .slice A5 n5 c5, .slice A6 n6 c6] (fun _ => True) (fun k => True ∧ some k ≠ (Value.slice A3 n3 c3).ownBlock) (by rfl) (by rfl) (kRec_mkM w2 w.heap.size _ rc H4.out H5.out H6.out) (fun k hk => ⟨trivial, hk.2⟩) (fun _ _ => trivial) HD1.out.r3 (Below.refl _ _) HD1.out.c.b.size HL1.out ?_
                intro v7 w7 ho3 hb3 hg3 _
                obtain ⟨A7, n7, c7, rfl⟩ := R_anyslice ho3
                have HD2 := Aside0.mk (HD1.out.app3 ho3 hg3)
                have hx : SAt w7 m _ _ := blk_grown HD1.out.c.x hg3 (Kd.R_ne HD1.out.r3 HD1.out.c.x (by decide))
                have m6 : w7.cell? ⟨m, 3, none⟩ = some (.slice A3 n3 c3) := hx.is 3 rfl
                have f6' := hx.frozen 3
                refine hK.out _ _ m6 (fun hS => ?_)
                clear hK K
                refine dr_norm (a' := ?_) ?_ ?_
                rotate_left
                · simp only [Act.put, List.setIfInBounds_toArray, List.set_cons_zero, List.set_cons_succ]; rfl
                repeat (first | (refine dr_pure (by kernel_rfl) (by rfl) (fun _ _ _ h => h) (v := ?_) (a' := ?_) ?_ ?_ ?_; rotate_left 2; (focus (intro w'; go_simp; with_reducible rfl)); (focus (simp only [Act.put, List.setIfInBounds_toArray, List.set_cons_zero, List.set_cons_succ]; rfl))) | (refine dr_take (by kernel_rfl) (by rfl) (fun _ _ _ h => h) hS (v := ?_) (a' := ?_) ?_ ?_ ?_; rotate_left 2; (focus (intro w' hS'; go_simp; with_reducible rfl)); (focus (simp only [Act.put, List.setIfInBounds_toArray, List.set_cons_zero, List.set_cons_succ]; rfl))) | (refine dr_off (by kernel_rfl) (by rfl) (fun _ _ _ h => h) (a' := ?_) ?_ ?_; rotate_left; (focus (simp only [Act.put, List.setIfInBounds_toArray, List.set_cons_zero, List.set_cons_succ]; rfl))))
                refine dr_store (w7.setCell ⟨m, 3, none⟩ (.slice A7 n7 c7)) (by kernel_rfl) (by kernel_rfl) (by rfl) rfl ⟨by go_simp; done⟩ ?_
                refine dr_done (by kernel_rfl) ?_
                generalize hW : w7.setCell ⟨m, 3, none⟩ (.slice A7 n7 c7) = w8 at *
                clear m6 f6' hx hS ho3 hb3 hg3 hW HD1
                go_wp2_with fail
                go_roundg k
                case measure => omega
                case rel => exact ⟨i + 1, _, a1, e1, _, by go_num, HM, ⟨by have := HK.out; omega⟩, ⟨by have := HL.out; rw [List.length_append, List.length_singleton]; omega⟩, HD2⟩
        case rest =>
          clear HD
          obtain ⟨ans, b2, f2, v3, G1', HD⟩ := hcut
          have hd := HD.out.next4
          obtain ⟨B4, hB4⟩ : ∃ B4, wc.heap.size = B4 := ⟨_, rfl⟩
          rw [hB4] at hd
          have HD := Aside0.mk hd
          have G2 := G1'
          clear hB4 hd G1'
          go_upto_block 4 with fail
          go_cut [13] (fun vs wc => ∃ (auth : List Rec) (b3 f3 : Int) (v4 : Value), Aside0 (Met6 (after6 f2 (recsR s nc [] b2)) auth b3 f3 ∧ (f3 = 0 → 0 ≤ b3 ∧ b3 ≤ s.size)) ∧ Aside0 (M6 w wc g m q B4 q (fun _ => True) (fun k => k < B4) (fun _ => True) s b3 f3 id fl v2 v3 v4 (.slice none 0 0) qs ans auth []))
          case first =>
            obtain ⟨RQ, hRQ⟩ : ∃ RQ, after6 f2 (recsR s nc [] b2) = RQ := ⟨_, rfl⟩
            have hW := Way6.start (R := recsR s nc [] b2) G2.out.2
            rw [hRQ] at hW
            have HRQ := Lib.hid hRQ
            have HW := Aside0.mk hW
            clear hRQ hW G2
            go_wp2_with fail
            go_loopg [13] nc (fun kq vs w' => ∃ (i : Nat) (l : List Rec) (p e : Int) (v : Value), vs = .int .i64 i ∧ Aside0 (Way6 s RQ (recsR s kq l p) p e) ∧ Aside0 (kq + i = nc) ∧ Aside0 (l.length = i) ∧ Aside0 (M6 w w' g m q B4 q (fun _ => True) (fun k => k < B4) (fun _ => True) s p e id fl v2 v3 v (.slice none 0 0) qs ans l []))
            case atStart => exact ⟨0, [], b2, f2, _, rfl, HW, ⟨rfl⟩, ⟨rfl⟩, HD⟩
            case round =>
              clear HW HD
              obtain ⟨i, l, p, e, v, rfl, HW, HK, HL, HD⟩ := hrel
              obtain ⟨A3, n3, c3, rfl⟩ := R_anyslice HD.out.r4
              have q0 : (i : Int) ≤ 65535 := by have := HK.out; omega
              have l0 := HD.out.at0
              have fz0 := HD.out.c.x.frozen 0
              have l1 := HD.out.at1
              have fz1 := HD.out.c.x.frozen 1
              have l2 := HD.out.at2
              have fz2 := HD.out.c.x.frozen 2
              have l3 := HD.out.at3
              have fz3 := HD.out.c.x.frozen 3
              have l4 := HD.out.at4
              have fz4 := HD.out.c.x.frozen 4
              have l5 := HD.out.at5
              have fz5 := HD.out.c.x.frozen 5
              have z0 := HD.out.c.st.c0
              have z1 := HD.out.c.st.c1
              have z2 := HD.out.c.st.c2
              have k2 : wr.frozen? ⟨g, 2, none⟩ = false := blk_frozen HD.out.c.st 2
              cases gk with
              | zero =>
                obtain rfl : i = nc := by have := HK.out; omega
                go_wp2_with fail
                go_meet
                exact ⟨l, p, e, _, ⟨by rw [HRQ.out]; exact Way6.exit HW.out⟩, HD⟩
              | succ k =>
                have q1 : (i : Int) < (nc : Int) := by have := HK.out; omega
                by_cases c0 : e = 0
                case neg =>
                  have d3 : (e == 0) = false := beq_eq_false_iff_ne.mpr c0
                  have HM := Aside0.mk (Way6.err (x := l) HW.out c0)
                  clear c0
                  go_wp2_with fail
                  go_meet
                  exact ⟨l, p, e, _, ⟨by rw [HRQ.out]; exact HM.out⟩, HD⟩
                case pos =>
                  subst c0
                  have d3 : ((0 : Int) == 0) = true := rfl
                  obtain ⟨-, hE, hp0, hp1⟩ := HW.out.resolve_right (fun h => h.1 rfl)
                  have HE := Aside0.mk hE
                  have HP := Lib.hid (And.intro hp0 hp1)
                  clear hE hp0 hp1 HW
                  go_wp2_with fail
                  refine dr_start (fun w' => w'.cell? ⟨m, 4, none⟩ = some (.slice A3 n3 c3)) [7] (by kernel_rfl) l4 (fun hS => ?_)
                  repeat (first | (refine dr_pure (by kernel_rfl) (by rfl) (fun _ _ _ h => h) (v := ?_) (a' := ?_) ?_ ?_ ?_; rotate_left 2; (focus (intro w'; go_simp; with_reducible rfl)); (focus (simp only [Act.put, List.setIfInBounds_toArray, List.set_cons_zero, List.set_cons_succ]; rfl))) | (refine dr_take (by kernel_rfl) (by rfl) (fun _ _ _ h => h) hS (v := ?_) (a' := ?_) ?_ ?_ ?_; rotate_left 2; (focus (intro w' hS'; go_simp; with_reducible rfl)); (focus (simp only [Act.put, List.setIfInBounds_toArray, List.set_cons_zero, List.set_cons_succ]; rfl))) | (refine dr_off (by kernel_rfl) (by rfl) (fun _ _ _ h => h) (a' := ?_) ?_ ?_; rotate_left; (focus (simp only [Act.put, List.setIfInBounds_toArray, List.set_cons_zero, List.set_cons_succ]; rfl))))
                  refine dr_call Try.func50 (by kernel_rfl) rfl rfl (by kernel_rfl) (by kernel_rfl) (by rfl) (args := #[.pointer (some ⟨g, 0, none⟩)]) (by first | rfl | kernel_rfl | (simp [Act.eval]; done)) ?_
                  have HDd := Aside0.mk HD.out.drew
                  refine (record6_calls HDd.out.c.st HS.out HP.out.1 HP.out.2).mono ?_
                  rintro r w2 ⟨ho, rc, v, a1, e1, rfl, hp, hs1, hm⟩
                  obtain ⟨v4', v5', v6', rfl, h4, h5, h6⟩ := hp
                  have HM := Aside0.mk (rec_step HE.out hm)
                  have HD1 := Aside0.mk (HDd.out.go ho hs1)
                  have hsz := HDd.out.s4
                  have H4 := Aside0.mk (Kd.R_apartR (Kd.R_lower h4 hsz) HD1.out.r4 (by decide))
                  have H5 := Aside0.mk (Kd.R_apartR (Kd.R_lower h5 hsz) HD1.out.r4 (by intro q hq; rw [show q = 41 by simpa [Kd.int, Kd.scalar] using hq]; decide))
                  have H6 := Aside0.mk (Kd.R_apartR (Kd.R_lower h6 hsz) HD1.out.r4 (by decide))
                  have HL1 := Lib.hid (show (l.length + 1) * 96 ≤ 140737488355328 by have := HL.out; omega)
                  obtain ⟨A4, n4, c4, rfl⟩ := R_anyslice h4
                  obtain ⟨A5, n5, c5, rfl⟩ := R_anyslice h5
                  obtain ⟨A6, n6, c6, rfl⟩ := R_anyslice h6
                  clear l0 l1 l2 l3 l4 l5 fz0 fz1 fz2 fz3 fz4 fz5 z0 z1 z2 k2
                  clear hsz ho hs1 hm h4 h5 h6 hS HE HDd HD
                  refine .inl ⟨_, rfl, HD1.out.at4, fun hS => ?_⟩
                  refine dr_norm (a' := ?_) ?_ ?_
                  rotate_left
                  · simp only [Act.put, List.setIfInBounds_toArray, List.set_cons_zero, List.set_cons_succ]; rfl
                  refine dr_val (.slice (some ⟨w2.heap.size, 0, none⟩) 1 1) (w2.alloc (.cells #[.string rc.f0, .int .u16 rc.f1, .int .u16 rc.f2, .int .u32 rc.f3, .slice A4 n4 c4, .slice A5 n5 c5, .slice A6 n6 c6] 44)) (by kernel_rfl) (by kernel_rfl) (by rfl) (by go_simp; done) (HD1.out.below (below_alloc (Below.refl _ _) _)).at4 (by simp only [Act.put, List.setIfInBounds_toArray, List.set_cons_zero, List.set_cons_succ]; rfl) (fun hS => ?_)
                  refine dr_one (by kernel_rfl) (by kernel_rfl) (fun K hK => ?_)
                  refine Kd.R_append_step kRec (w0 := w2) B4 (by kernel_rfl) (.tmp 118) (.tmp 121) 24 44 (.agg #[(.string ⟨#[]⟩), (.int .u16 0), (.int .u16 0), (.int .u32 0), (.slice none 0 0), (.slice none 0 0), (.slice none 0 0)]) 96 (by rfl) Try.underlying24 infoRec rfl (by decide) (by decide) (.slice A3 n3 c3) l rc [.string rc.f0, .int .u16 rc.f1, .int .u16 rc.f2, .int .u32 rc.f3, .slice A4 n4 c4, .slice A5 n5 c5, .slice A6 n6 c6] (fun _ => True) (fun k => True ∧ some k ≠ (Value.slice A3 n3 c3).ownBlock) (by rfl) (by rfl) (kRec_mkM w2 B4 _ rc H4.out H5.out H6.out) (fun k hk => ⟨trivial, hk.2⟩) (fun _ _ => trivial) HD1.out.r4 (Below.refl _ _) HD1.out.s4 HL1.out ?_
                  intro v7 w7 ho3 hb3 hg3 _
                  obtain ⟨A7, n7, c7, rfl⟩ := R_anyslice ho3
                  have HD2 := Aside0.mk (HD1.out.app4 ho3 hg3)
                  have hx : SAt w7 m _ _ := blk_grown HD1.out.c.x hg3 (Kd.R_ne HD1.out.r4 HD1.out.c.x (by decide))
                  have m6 : w7.cell? ⟨m, 4, none⟩ = some (.slice A3 n3 c3) := hx.is 4 rfl
                  have f6' := hx.frozen 4
                  refine hK.out _ _ m6 (fun hS => ?_)
                  clear hK K
                  refine dr_norm (a' := ?_) ?_ ?_
                  rotate_left
                  · simp only [Act.put, List.setIfInBounds_toArray, List.set_cons_zero, List.set_cons_succ]; rfl
                  repeat (first | (refine dr_pure (by kernel_rfl) (by rfl) (fun _ _ _ h => h) (v := ?_) (a' := ?_) ?_ ?_ ?_; rotate_left 2; (focus (intro w'; go_simp; with_reducible rfl)); (focus (simp only [Act.put, List.setIfInBounds_toArray, List.set_cons_zero, List.set_cons_succ]; rfl))) | (refine dr_take (by kernel_rfl) (by rfl) (fun _ _ _ h => h) hS (v := ?_) (a' := ?_) ?_ ?_ ?_; rotate_left 2; (focus (intro w' hS'; go_simp; with_reducible rfl)); (focus (simp only [Act.put, List.setIfInBounds_toArray, List.set_cons_zero, List.set_cons_succ]; rfl))) | (refine dr_off (by kernel_rfl) (by rfl) (fun _ _ _ h => h) (a' := ?_) ?_ ?_; rotate_left; (focus (simp only [Act.put, List.setIfInBounds_toArray, List.set_cons_zero, List.set_cons_succ]; rfl))))
                  refine dr_store (w7.setCell ⟨m, 4, none⟩ (.slice A7 n7 c7)) (by kernel_rfl) (by kernel_rfl) (by rfl) rfl ⟨by go_simp; done⟩ ?_
                  refine dr_done (by kernel_rfl) ?_
                  generalize hW : w7.setCell ⟨m, 4, none⟩ (.slice A7 n7 c7) = w8 at *
                  clear m6 f6' hx hS ho3 hb3 hg3 hW HD1
                  go_wp2_with fail
                  go_roundg k
                  case measure => omega
                  case rel => exact ⟨i + 1, _, a1, e1, _, by go_num, HM, ⟨by have := HK.out; omega⟩, ⟨by have := HL.out; rw [List.length_append, List.length_singleton]; omega⟩, HD2⟩
          case rest =>
            clear HD
            obtain ⟨auth, b3, f3, v4, G2', HD⟩ := hcut
            have hd := HD.out.next5
            obtain ⟨B5, hB5⟩ : ∃ B5, wc.heap.size = B5 := ⟨_, rfl⟩
            rw [hB5] at hd
            have HD := Aside0.mk hd
            have G3 := G2'
            clear hB5 hd G2'
            go_upto_block 6 with fail
            go_cut [14] (fun vs wc => ∃ (add : List Rec) (b4 f4 : Int) (v5 : Value), Aside0 (Met6 (after6 f3 (recsR s nd [] b3)) add b4 f4 ∧ (f4 = 0 → 0 ≤ b4 ∧ b4 ≤ s.size)) ∧ Aside0 (M6 w wc g m q B4 B5 (fun _ => True) (fun k => k < B5) (fun k => k < B5) s b4 f4 id fl v2 v3 v4 v5 qs ans auth add))
            case first =>
              obtain ⟨RQ, hRQ⟩ : ∃ RQ, after6 f3 (recsR s nd [] b3) = RQ := ⟨_, rfl⟩
              have hW := Way6.start (R := recsR s nd [] b3) G3.out.2
              rw [hRQ] at hW
              have HRQ := Lib.hid hRQ
              have HW := Aside0.mk hW
              clear hRQ hW G3
              go_wp2_with fail
              go_loopg [14] nd (fun kq vs w' => ∃ (i : Nat) (l : List Rec) (p e : Int) (v : Value), vs = .int .i64 i ∧ Aside0 (Way6 s RQ (recsR s kq l p) p e) ∧ Aside0 (kq + i = nd) ∧ Aside0 (l.length = i) ∧ Aside0 (M6 w w' g m q B4 B5 (fun _ => True) (fun k => k < B5) (fun k => k < B5) s p e id fl v2 v3 v4 v qs ans auth l))
              case atStart => exact ⟨0, [], b3, f3, _, rfl, HW, ⟨rfl⟩, ⟨rfl⟩, HD⟩
              case round =>
                clear HW HD
                obtain ⟨i, l, p, e, v, rfl, HW, HK, HL, HD⟩ := hrel
                obtain ⟨A3, n3, c3, rfl⟩ := R_anyslice HD.out.r5
                have q0 : (i : Int) ≤ 65535 := by have := HK.out; omega
                have l0 := HD.out.at0
                have fz0 := HD.out.c.x.frozen 0
                have l1 := HD.out.at1
                have fz1 := HD.out.c.x.frozen 1
                have l2 := HD.out.at2
                have fz2 := HD.out.c.x.frozen 2
                have l3 := HD.out.at3
                have fz3 := HD.out.c.x.frozen 3
                have l4 := HD.out.at4
                have fz4 := HD.out.c.x.frozen 4
                have l5 := HD.out.at5
                have fz5 := HD.out.c.x.frozen 5
                have z0 := HD.out.c.st.c0
                have z1 := HD.out.c.st.c1
                have z2 := HD.out.c.st.c2
                have k2 : wr.frozen? ⟨g, 2, none⟩ = false := blk_frozen HD.out.c.st 2
                cases gk with
                | zero =>
                  obtain rfl : i = nd := by have := HK.out; omega
                  go_wp2_with fail
                  go_meet
                  exact ⟨l, p, e, _, ⟨by rw [HRQ.out]; exact Way6.exit HW.out⟩, HD⟩
                | succ k =>
                  have q1 : (i : Int) < (nd : Int) := by have := HK.out; omega
                  by_cases c0 : e = 0
                  case neg =>
                    have d3 : (e == 0) = false := beq_eq_false_iff_ne.mpr c0
                    have HM := Aside0.mk (Way6.err (x := l) HW.out c0)
                    clear c0
                    go_wp2_with fail
                    go_meet
                    exact ⟨l, p, e, _, ⟨by rw [HRQ.out]; exact HM.out⟩, HD⟩
                  case pos =>
                    subst c0
                    have d3 : ((0 : Int) == 0) = true := rfl
                    obtain ⟨-, hE, hp0, hp1⟩ := HW.out.resolve_right (fun h => h.1 rfl)
                    have HE := Aside0.mk hE
                    have HP := Lib.hid (And.intro hp0 hp1)
                    clear hE hp0 hp1 HW
                    go_wp2_with fail
                    refine dr_start (fun w' => w'.cell? ⟨m, 5, none⟩ = some (.slice A3 n3 c3)) [7] (by kernel_rfl) l5 (fun hS => ?_)
                    repeat (first | (refine dr_pure (by kernel_rfl) (by rfl) (fun _ _ _ h => h) (v := ?_) (a' := ?_) ?_ ?_ ?_; rotate_left 2; (focus (intro w'; go_simp; with_reducible rfl)); (focus (simp only [Act.put, List.setIfInBounds_toArray, List.set_cons_zero, List.set_cons_succ]; rfl))) | (refine dr_take (by kernel_rfl) (by rfl) (fun _ _ _ h => h) hS (v := ?_) (a' := ?_) ?_ ?_ ?_; rotate_left 2; (focus (intro w' hS'; go_simp; with_reducible rfl)); (focus (simp only [Act.put, List.setIfInBounds_toArray, List.set_cons_zero, List.set_cons_succ]; rfl))) | (refine dr_off (by kernel_rfl) (by rfl) (fun _ _ _ h => h) (a' := ?_) ?_ ?_; rotate_left; (focus (simp only [Act.put, List.setIfInBounds_toArray, List.set_cons_zero, List.set_cons_succ]; rfl))))
                    refine dr_call Try.func50 (by kernel_rfl) rfl rfl (by kernel_rfl) (by kernel_rfl) (by rfl) (args := #[.pointer (some ⟨g, 0, none⟩)]) (by first | rfl | kernel_rfl | (simp [Act.eval]; done)) ?_
                    have HDd := Aside0.mk HD.out.drew
                    refine (record6_calls HDd.out.c.st HS.out HP.out.1 HP.out.2).mono ?_
                    rintro r w2 ⟨ho, rc, v, a1, e1, rfl, hp, hs1, hm⟩
                    obtain ⟨v4', v5', v6', rfl, h4, h5, h6⟩ := hp
                    have HM := Aside0.mk (rec_step HE.out hm)
                    have HD1 := Aside0.mk (HDd.out.go ho hs1)
                    have hsz := HDd.out.s5
                    have H4 := Aside0.mk (Kd.R_apartR (Kd.R_lower h4 hsz) HD1.out.r5 (by decide))
                    have H5 := Aside0.mk (Kd.R_apartR (Kd.R_lower h5 hsz) HD1.out.r5 (by intro q hq; rw [show q = 41 by simpa [Kd.int, Kd.scalar] using hq]; decide))
                    have H6 := Aside0.mk (Kd.R_apartR (Kd.R_lower h6 hsz) HD1.out.r5 (by decide))
                    have HL1 := Lib.hid (show (l.length + 1) * 96 ≤ 140737488355328 by have := HL.out; omega)
                    obtain ⟨A4, n4, c4, rfl⟩ := R_anyslice h4
                    obtain ⟨A5, n5, c5, rfl⟩ := R_anyslice h5
                    obtain ⟨A6, n6, c6, rfl⟩ := R_anyslice h6
                    clear l0 l1 l2 l3 l4 l5 fz0 fz1 fz2 fz3 fz4 fz5 z0 z1 z2 k2
                    clear hsz ho hs1 hm h4 h5 h6 hS HE HDd HD
                    refine .inl ⟨_, rfl, HD1.out.at5, fun hS => ?_⟩
                    refine dr_norm (a' := ?_) ?_ ?_
                    rotate_left
                    · simp only [Act.put, List.setIfInBounds_toArray, List.set_cons_zero, List.set_cons_succ]; rfl
                    refine dr_val (.slice (some ⟨w2.heap.size, 0, none⟩) 1 1) (w2.alloc (.cells #[.string rc.f0, .int .u16 rc.f1, .int .u16 rc.f2, .int .u32 rc.f3, .slice A4 n4 c4, .slice A5 n5 c5, .slice A6 n6 c6] 44)) (by kernel_rfl) (by kernel_rfl) (by rfl) (by go_simp; done) (HD1.out.below (below_alloc (Below.refl _ _) _)).at5 (by simp only [Act.put, List.setIfInBounds_toArray, List.set_cons_zero, List.set_cons_succ]; rfl) (fun hS => ?_)
                    refine dr_one (by kernel_rfl) (by kernel_rfl) (fun K hK => ?_)
                    refine Kd.R_append_step kRec (w0 := w2) B5 (by kernel_rfl) (.tmp 137) (.tmp 140) 24 44 (.agg #[(.string ⟨#[]⟩), (.int .u16 0), (.int .u16 0), (.int .u32 0), (.slice none 0 0), (.slice none 0 0), (.slice none 0 0)]) 96 (by rfl) Try.underlying24 infoRec rfl (by decide) (by decide) (.slice A3 n3 c3) l rc [.string rc.f0, .int .u16 rc.f1, .int .u16 rc.f2, .int .u32 rc.f3, .slice A4 n4 c4, .slice A5 n5 c5, .slice A6 n6 c6] (fun _ => True) (fun k => True ∧ some k ≠ (Value.slice A3 n3 c3).ownBlock) (by rfl) (by rfl) (kRec_mkM w2 B5 _ rc H4.out H5.out H6.out) (fun k hk => ⟨trivial, hk.2⟩) (fun _ _ => trivial) HD1.out.r5 (Below.refl _ _) HD1.out.s5 HL1.out ?_
                    intro v7 w7 ho3 hb3 hg3 _
                    obtain ⟨A7, n7, c7, rfl⟩ := R_anyslice ho3
                    have HD2 := Aside0.mk (HD1.out.app5 ho3 hg3)
                    have hx : SAt w7 m _ _ := blk_grown HD1.out.c.x hg3 (Kd.R_ne HD1.out.r5 HD1.out.c.x (by decide))
                    have m6 : w7.cell? ⟨m, 5, none⟩ = some (.slice A3 n3 c3) := hx.is 5 rfl
                    have f6' := hx.frozen 5
                    refine hK.out _ _ m6 (fun hS => ?_)
                    clear hK K
                    refine dr_norm (a' := ?_) ?_ ?_
                    rotate_left
                    · simp only [Act.put, List.setIfInBounds_toArray, List.set_cons_zero, List.set_cons_succ]; rfl
                    repeat (first | (refine dr_pure (by kernel_rfl) (by rfl) (fun _ _ _ h => h) (v := ?_) (a' := ?_) ?_ ?_ ?_; rotate_left 2; (focus (intro w'; go_simp; with_reducible rfl)); (focus (simp only [Act.put, List.setIfInBounds_toArray, List.set_cons_zero, List.set_cons_succ]; rfl))) | (refine dr_take (by kernel_rfl) (by rfl) (fun _ _ _ h => h) hS (v := ?_) (a' := ?_) ?_ ?_ ?_; rotate_left 2; (focus (intro w' hS'; go_simp; with_reducible rfl)); (focus (simp only [Act.put, List.setIfInBounds_toArray, List.set_cons_zero, List.set_cons_succ]; rfl))) | (refine dr_off (by kernel_rfl) (by rfl) (fun _ _ _ h => h) (a' := ?_) ?_ ?_; rotate_left; (focus (simp only [Act.put, List.setIfInBounds_toArray, List.set_cons_zero, List.set_cons_succ]; rfl))))
                    refine dr_store (w7.setCell ⟨m, 5, none⟩ (.slice A7 n7 c7)) (by kernel_rfl) (by kernel_rfl) (by rfl) rfl ⟨by go_simp; done⟩ ?_
                    refine dr_done (by kernel_rfl) ?_
                    generalize hW : w7.setCell ⟨m, 5, none⟩ (.slice A7 n7 c7) = w8 at *
                    clear m6 f6' hx hS ho3 hb3 hg3 hW HD1
                    go_wp2_with fail
                    go_roundg k
                    case measure => omega
                    case rel => exact ⟨i + 1, _, a1, e1, _, by go_num, HM, ⟨by have := HK.out; omega⟩, ⟨by have := HL.out; rw [List.length_append, List.length_singleton]; omega⟩, HD2⟩
            case rest =>
              clear HD
              obtain ⟨add, b4, f4, v5, G3', HD⟩ := hcut
              have HC := Aside0.mk (fun f5 (hlast : Met6 (after6 f4 (lastE s b4)) () b4 f5) => msg6_met F1.out F2.out F3.out F4.out F5.out F6.out F7.out G1.out.1 G2.out.1 G3.out.1 G3'.out.1 hlast)
              clear F1 F2 F3 F4 F5 F6 F7 G1 G2 G3
              obtain ⟨A2, n2, c2, rfl⟩ := R_anyslice HD.out.r2
              obtain ⟨A3, n3, c3, rfl⟩ := R_anyslice HD.out.r3
              obtain ⟨A4, n4, c4, rfl⟩ := R_anyslice HD.out.r4
              obtain ⟨A5, n5, c5, rfl⟩ := R_anyslice HD.out.r5
              have l0 := HD.out.at0
              have fz0 := HD.out.c.x.frozen 0
              have l1 := HD.out.at1
              have fz1 := HD.out.c.x.frozen 1
              have l2 := HD.out.at2
              have fz2 := HD.out.c.x.frozen 2
              have l3 := HD.out.at3
              have fz3 := HD.out.c.x.frozen 3
              have l4 := HD.out.at4
              have fz4 := HD.out.c.x.frozen 4
              have l5 := HD.out.at5
              have fz5 := HD.out.c.x.frozen 5
              have z0 := HD.out.c.st.c0
              have z1 := HD.out.c.st.c1
              have z2 := HD.out.c.st.c2
              have k2 : wc.frozen? ⟨g, 2, none⟩ = false := blk_frozen HD.out.c.st 2
              by_cases c0 : f4 = 0
              case neg =>
                have d3 : (f4 == 0) = false := beq_eq_false_iff_ne.mpr c0
                have d4 : (f4 != 0) = true := by rw [bne_iff_ne]; exact c0
                have HM := Aside0.mk (HC.out f4 (.inr ⟨after6_err c0 _, c0⟩))
                have HN := Lib.hid c0
                clear c0 HC
                go_wp2_with fail
                refine dr_start (fun w' => w'.cell? ⟨g, 2, none⟩ = some (.int .i64 (f4))) [] (by kernel_rfl) z2 (fun hS => ?_)
                have HZ := Aside0.mk HD.out.drew
                generalize hW : World.drew wc = wd at *
                clear l0 l1 l2 l3 l4 l5 fz0 fz1 fz2 fz3 fz4 fz5 z0 z1 z2 k2
                clear hW HD
                have y0 := SAt.is (w := wd) HZ.out.c.z 0 rfl
                have y1 := SAt.is (w := wd) HZ.out.c.z 1 rfl
                have y2 := SAt.is (w := wd) HZ.out.c.z 2 rfl
                have y3 := SAt.is (w := wd) HZ.out.c.z 3 rfl
                have y4 := SAt.is (w := wd) HZ.out.c.z 4 rfl
                have y5 := SAt.is (w := wd) HZ.out.c.z 5 rfl
                have gz0 := SAt.frozen (w := wd) HZ.out.c.z 0
                have gz1 := SAt.frozen (w := wd) HZ.out.c.z 1
                have gz2 := SAt.frozen (w := wd) HZ.out.c.z 2
                have gz3 := SAt.frozen (w := wd) HZ.out.c.z 3
                have gz4 := SAt.frozen (w := wd) HZ.out.c.z 4
                have gz5 := SAt.frozen (w := wd) HZ.out.c.z 5
                repeat (first | (refine dr_pure (by kernel_rfl) (by rfl) (fun _ _ _ h => h) (v := ?_) (a' := ?_) ?_ ?_ ?_; rotate_left 2; (focus (intro w'; go_simp; with_reducible rfl)); (focus (simp only [Act.put, List.setIfInBounds_toArray, List.set_cons_zero, List.set_cons_succ]; rfl))) | (refine dr_take (by kernel_rfl) (by rfl) (fun _ _ _ h => h) hS (v := ?_) (a' := ?_) ?_ ?_ ?_; rotate_left 2; (focus (intro w' hS'; go_simp; with_reducible rfl)); (focus (simp only [Act.put, List.setIfInBounds_toArray, List.set_cons_zero, List.set_cons_succ]; rfl))) | (refine dr_off (by kernel_rfl) (by rfl) (fun _ _ _ h => h) (a' := ?_) ?_ ?_; rotate_left; (focus (simp only [Act.put, List.setIfInBounds_toArray, List.set_cons_zero, List.set_cons_succ]; rfl))))
                obtain ⟨w9, hw9, hl⟩ := laid0 HZ.out
                refine dr_skip (((((((wd.setCell ⟨q, 0, none⟩ (.int .u16 0)).setCell ⟨q, 1, none⟩ (.int .u16 0)).setCell ⟨q, 2, none⟩ (.slice none 0 0)).setCell ⟨q, 3, none⟩ (.slice none 0 0)).setCell ⟨q, 4, none⟩ (.slice none 0 0)).setCell ⟨q, 5, none⟩ (.slice none 0 0))) (by kernel_rfl) (by kernel_rfl) (by rfl) rfl ⟨by go_simp; done⟩ ?_ (fun hS => ?_)
                · rw [← hw9]
                  exact hl.2.2.2.c2
                rw [← hw9] at hS ⊢
                repeat (first | (refine dr_pure (by kernel_rfl) (by rfl) (fun _ _ _ h => h) (v := ?_) (a' := ?_) ?_ ?_ ?_; rotate_left 2; (focus (intro w'; go_simp; with_reducible rfl)); (focus (simp only [Act.put, List.setIfInBounds_toArray, List.set_cons_zero, List.set_cons_succ]; rfl))) | (refine dr_take (by kernel_rfl) (by rfl) (fun _ _ _ h => h) hS (v := ?_) (a' := ?_) ?_ ?_ ?_; rotate_left 2; (focus (intro w' hS'; go_simp; with_reducible rfl)); (focus (simp only [Act.put, List.setIfInBounds_toArray, List.set_cons_zero, List.set_cons_succ]; rfl))) | (refine dr_off (by kernel_rfl) (by rfl) (fun _ _ _ h => h) (a' := ?_) ?_ ?_; rotate_left; (focus (simp only [Act.put, List.setIfInBounds_toArray, List.set_cons_zero, List.set_cons_succ]; rfl))))
                refine dr_done (by kernel_rfl) ?_
                clear y0 y1 y2 y3 y4 y5 gz0 gz1 gz2 gz3 gz4 gz5 hw9
                have r0 := SAt.is (w := w9) hl.2.1 0 rfl
                have r1 := SAt.is (w := w9) hl.2.1 1 rfl
                have r2 := SAt.is (w := w9) hl.2.1 2 rfl
                have r3 := SAt.is (w := w9) hl.2.1 3 rfl
                have r4 := SAt.is (w := w9) hl.2.1 4 rfl
                have r5 := SAt.is (w := w9) hl.2.1 5 rfl
                have HB := Aside0.mk hl.1
                clear hl hS HZ
                go_wp2_with fail
                refine bodyPost_ret (v := .tuple #[.agg zMsg, .int .i64 (f4)]) (by simp [results, Try.results25, go_sem, r0, r1, r2, r3, r4, r5, zMsg]) rfl ?_
                exact post_err HLs.out HM.out HN.out HB.out
              case pos =>
                subst c0
                have d3 : ((0 : Int) == 0) = true := rfl
                by_cases c1 : b4 < s.size
                · have d4 : decide (b4 < (s.size : Int)) = true := decide_eq_true c1
                  have HM := Aside0.mk (HC.out 7 (.inr ⟨by rw [after6_ok]; exact if_pos c1, by decide⟩))
                  have HN := Lib.hid (show (7 : Int) ≠ 0 by decide)
                  have HD2 := Aside0.mk (HD.out.sete 7)
                  clear c1 HC
                  go_upto_region 34 with fail
                  generalize hW : wc.setCell ⟨g, 2, none⟩ (.int .i64 7) = wx at *
                  clear l0 l1 l2 l3 l4 l5 fz0 fz1 fz2 fz3 fz4 fz5 z0 z1 z2 k2
                  clear HD hW
                  have HD := HD2
                  clear HD2
                  have l0 := HD.out.at0
                  have fz0 := HD.out.c.x.frozen 0
                  have l1 := HD.out.at1
                  have fz1 := HD.out.c.x.frozen 1
                  have l2 := HD.out.at2
                  have fz2 := HD.out.c.x.frozen 2
                  have l3 := HD.out.at3
                  have fz3 := HD.out.c.x.frozen 3
                  have l4 := HD.out.at4
                  have fz4 := HD.out.c.x.frozen 4
                  have l5 := HD.out.at5
                  have fz5 := HD.out.c.x.frozen 5
                  have z0 := HD.out.c.st.c0
                  have z1 := HD.out.c.st.c1
                  have z2 := HD.out.c.st.c2
                  have k2 : wx.frozen? ⟨g, 2, none⟩ = false := blk_frozen HD.out.c.st 2
                  go_wp2_with fail
                  refine dr_start (fun w' => w'.cell? ⟨g, 2, none⟩ = some (.int .i64 (7))) [] (by kernel_rfl) z2 (fun hS => ?_)
                  have HZ := Aside0.mk HD.out.drew
                  generalize hW : World.drew wx = wd at *
                  clear l0 l1 l2 l3 l4 l5 fz0 fz1 fz2 fz3 fz4 fz5 z0 z1 z2 k2
                  clear hW HD
                  have y0 := SAt.is (w := wd) HZ.out.c.z 0 rfl
                  have y1 := SAt.is (w := wd) HZ.out.c.z 1 rfl
                  have y2 := SAt.is (w := wd) HZ.out.c.z 2 rfl
                  have y3 := SAt.is (w := wd) HZ.out.c.z 3 rfl
                  have y4 := SAt.is (w := wd) HZ.out.c.z 4 rfl
                  have y5 := SAt.is (w := wd) HZ.out.c.z 5 rfl
                  have gz0 := SAt.frozen (w := wd) HZ.out.c.z 0
                  have gz1 := SAt.frozen (w := wd) HZ.out.c.z 1
                  have gz2 := SAt.frozen (w := wd) HZ.out.c.z 2
                  have gz3 := SAt.frozen (w := wd) HZ.out.c.z 3
                  have gz4 := SAt.frozen (w := wd) HZ.out.c.z 4
                  have gz5 := SAt.frozen (w := wd) HZ.out.c.z 5
                  repeat (first | (refine dr_pure (by kernel_rfl) (by rfl) (fun _ _ _ h => h) (v := ?_) (a' := ?_) ?_ ?_ ?_; rotate_left 2; (focus (intro w'; go_simp; with_reducible rfl)); (focus (simp only [Act.put, List.setIfInBounds_toArray, List.set_cons_zero, List.set_cons_succ]; rfl))) | (refine dr_take (by kernel_rfl) (by rfl) (fun _ _ _ h => h) hS (v := ?_) (a' := ?_) ?_ ?_ ?_; rotate_left 2; (focus (intro w' hS'; go_simp; with_reducible rfl)); (focus (simp only [Act.put, List.setIfInBounds_toArray, List.set_cons_zero, List.set_cons_succ]; rfl))) | (refine dr_off (by kernel_rfl) (by rfl) (fun _ _ _ h => h) (a' := ?_) ?_ ?_; rotate_left; (focus (simp only [Act.put, List.setIfInBounds_toArray, List.set_cons_zero, List.set_cons_succ]; rfl))))
                  obtain ⟨w9, hw9, hl⟩ := laid0 HZ.out
                  refine dr_skip (((((((wd.setCell ⟨q, 0, none⟩ (.int .u16 0)).setCell ⟨q, 1, none⟩ (.int .u16 0)).setCell ⟨q, 2, none⟩ (.slice none 0 0)).setCell ⟨q, 3, none⟩ (.slice none 0 0)).setCell ⟨q, 4, none⟩ (.slice none 0 0)).setCell ⟨q, 5, none⟩ (.slice none 0 0))) (by kernel_rfl) (by kernel_rfl) (by rfl) rfl ⟨by go_simp; done⟩ ?_ (fun hS => ?_)
                  · rw [← hw9]
                    exact hl.2.2.2.c2
                  rw [← hw9] at hS ⊢
                  repeat (first | (refine dr_pure (by kernel_rfl) (by rfl) (fun _ _ _ h => h) (v := ?_) (a' := ?_) ?_ ?_ ?_; rotate_left 2; (focus (intro w'; go_simp; with_reducible rfl)); (focus (simp only [Act.put, List.setIfInBounds_toArray, List.set_cons_zero, List.set_cons_succ]; rfl))) | (refine dr_take (by kernel_rfl) (by rfl) (fun _ _ _ h => h) hS (v := ?_) (a' := ?_) ?_ ?_ ?_; rotate_left 2; (focus (intro w' hS'; go_simp; with_reducible rfl)); (focus (simp only [Act.put, List.setIfInBounds_toArray, List.set_cons_zero, List.set_cons_succ]; rfl))) | (refine dr_off (by kernel_rfl) (by rfl) (fun _ _ _ h => h) (a' := ?_) ?_ ?_; rotate_left; (focus (simp only [Act.put, List.setIfInBounds_toArray, List.set_cons_zero, List.set_cons_succ]; rfl))))
                  refine dr_done (by kernel_rfl) ?_
                  clear y0 y1 y2 y3 y4 y5 gz0 gz1 gz2 gz3 gz4 gz5 hw9
                  have r0 := SAt.is (w := w9) hl.2.1 0 rfl
                  have r1 := SAt.is (w := w9) hl.2.1 1 rfl
                  have r2 := SAt.is (w := w9) hl.2.1 2 rfl
                  have r3 := SAt.is (w := w9) hl.2.1 3 rfl
                  have r4 := SAt.is (w := w9) hl.2.1 4 rfl
                  have r5 := SAt.is (w := w9) hl.2.1 5 rfl
                  have HB := Aside0.mk hl.1
                  clear hl hS HZ
                  go_wp2_with fail
                  refine bodyPost_ret (v := .tuple #[.agg zMsg, .int .i64 (7)]) (by simp [results, Try.results25, go_sem, r0, r1, r2, r3, r4, r5, zMsg]) rfl ?_
                  exact post_err HLs.out HM.out HN.out HB.out
                · have d4 : decide (b4 < (s.size : Int)) = false := decide_eq_false c1
                  have HM := Aside0.mk (HC.out 0 (.inl ⟨by rw [after6_ok]; exact if_neg c1, rfl⟩))
                  clear c1 HC
                  have y0 := SAt.is (w := wc) HD.out.c.z 0 rfl
                  have y1 := SAt.is (w := wc) HD.out.c.z 1 rfl
                  have y2 := SAt.is (w := wc) HD.out.c.z 2 rfl
                  have y3 := SAt.is (w := wc) HD.out.c.z 3 rfl
                  have y4 := SAt.is (w := wc) HD.out.c.z 4 rfl
                  have y5 := SAt.is (w := wc) HD.out.c.z 5 rfl
                  have gz0 := SAt.frozen (w := wc) HD.out.c.z 0
                  have gz1 := SAt.frozen (w := wc) HD.out.c.z 1
                  have gz2 := SAt.frozen (w := wc) HD.out.c.z 2
                  have gz3 := SAt.frozen (w := wc) HD.out.c.z 3
                  have gz4 := SAt.frozen (w := wc) HD.out.c.z 4
                  have gz5 := SAt.frozen (w := wc) HD.out.c.z 5
                  have nmq := HD.out.c.ne
                  have nqm := Ne.symm nmq
                  go_wp2_with fail
                  obtain ⟨w9, hw9, hl⟩ := HD.out.laid
                  rw [← hw9]
                  have r0 := hl.z.is 0 rfl
                  have r1 := hl.z.is 1 rfl
                  have r2 := hl.z.is 2 rfl
                  have r3 := hl.z.is 3 rfl
                  have r4 := hl.z.is 4 rfl
                  have r5 := hl.z.is 5 rfl
                  refine bodyPost_ret (v := .tuple #[.agg #[.int .u16 id, .int .u16 fl, .slice A2 n2 c2, .slice A3 n3 c3, .slice A4 n4 c4, .slice A5 n5 c5], .int .i64 0]) (by simp [results, Try.results25, go_sem, r0, r1, r2, r3, r4, r5]) rfl ?_
                  exact post_ok HLs.out HM.out hl.p hl.b
end Go.Proofs.Ytbbeikdbioelgaa.M
