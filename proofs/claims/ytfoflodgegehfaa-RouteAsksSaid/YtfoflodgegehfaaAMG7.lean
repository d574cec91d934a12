/- Joined texts: walks and plain laws. -/
import Derived.Test.YtfoflodgegehfaaAMG6
import Derived.Test.YtfoflodgegehfaaAMG4
import Derived.Deep.DeepCutAuto
import Derived.Deep.CutBlock
import Derived.Test.YtfoflodgegehfaaAMG5
set_option linter.unusedVariables false
set_option linter.unusedSimpArgs false
namespace Go.Proofs.Ytfoflodgegehfaa.M
open Go.RowKit Go.Maps Go.Proofs.YtfoflodgegehfaaW.PrintWords Go.Proofs.YtfoflodgegehfaaW.PrintLast Go.Proofs.YtfoflodgegehfaaW.PrintMore
attribute [local go_sem] max2_int min2_int max_two min_two max_three min_three max_four min_four
attribute [local go_sem ↓] Go.wp_at_zero Go.wp_at_succ
def NumB (b : Int) (x : Int) (v : Value) (w : World) : Prop := v = .int .i64 x ∧ 0 ≤ x ∧ x ≤ b
theorem num6_b {w : World} {g : Nat} {s : ByteArray} {a e n b : Int} (h : St w g s a e) (hs : s.size ≤ 1000000) (hn : n = 2 ∧ b = 65535 ∨ n = 4 ∧ b = 4294967295) :
    Calls Try.prog 38 #[.pointer (some ⟨g, 0, none⟩), .int .i64 n] w fun r w' => Ends6 (NumB b) (after6 e (numR s a n)) w g s r w' := by
  have b0 : 0 ≤ b := by rcases hn with h | h <;> omega
  by_cases c : e = 0
  · subst c
    rw [after6_ok]
    unfold numR
    cases h1 : getF s a n with
    | none => exact (num6_no h hs h1).mono fun r w' ⟨k1, k2, k3⟩ => by rw [k1]; exact Ends6.err (x := 0) k3 ⟨rfl, by omega, by omega⟩ k2 rfl (by decide)
    | some t =>
      have hb : 0 ≤ t ∧ t ≤ b ∧ b ≤ 4294967295 := by
        rcases hn with ⟨rfl, rfl⟩ | ⟨rfl, rfl⟩
        · have := get2 h1; omega
        · have := get4 h1; omega
      exact (num6_yes h hs h1 (by omega) hb.1).mono fun r w' ⟨k1, k2, k3⟩ => by rw [k1]; exact Ends6.ok (x := t) k3 ⟨rfl, hb.1, hb.2.1⟩ k2 rfl
  · rw [after6_err c]
    exact (num6_off h c).mono fun r w' ⟨h1, h2, h3⟩ => by rw [h1]; exact Ends6.err (x := 0) h3 ⟨rfl, by omega, by omega⟩ h2 rfl c
theorem met_step {α : Type} {e e' a : Int} {R : Except Int (α × Int)} {x : α} (h : Met6 (after6 e R) x a e') : (e' = 0 ∧ e = 0 ∧ R = .ok (x, a)) ∨ (e' ≠ 0 ∧ ((e ≠ 0 ∧ e' = e) ∨ (e = 0 ∧ R = .error e'))) := by
  by_cases c : e = 0
  · subst c
    rw [after6_ok] at h
    rcases h with ⟨h1, h2⟩ | ⟨h1, h2⟩
    · exact .inl ⟨h2, rfl, h1⟩
    · exact .inr ⟨h2, .inr ⟨rfl, h1⟩⟩
  · rw [after6_err c] at h
    rcases h with ⟨h1, h2⟩ | ⟨h1, h2⟩
    · exact absurd h1 (by simp)
    · exact .inr ⟨h2, .inl ⟨c, (Except.error.inj h1).symm⟩⟩
theorem numR_ok {s : ByteArray} {a n x a' : Int} (h : numR s a n = .ok (x, a')) : getF s a n = some x ∧ a' = a + n := by
  unfold numR at h
  cases h1 : getF s a n with
  | none => rw [h1] at h; exact absurd h (by simp)
  | some t =>
    rw [h1] at h
    have := Prod.mk.inj (Except.ok.inj h)
    exact ⟨by rw [this.1], this.2.symm⟩
theorem numR_err {s : ByteArray} {a n e : Int} (h : numR s a n = .error e) : getF s a n = none ∧ e = 2 := by
  unfold numR at h
  cases h1 : getF s a n with
  | none => rw [h1] at h; exact ⟨rfl, (Except.error.inj h).symm⟩
  | some t => rw [h1] at h; exact absurd h (by simp)
def recT (s nm : ByteArray) (t c l n a : Int) : Except Int (Rec × Int) :=
  if s.size - a < n then .error 2 else
    match dataR s t (a + n) a with
    | .error d => .error d
    | .ok ((names, nums, texts), a2) => if checkF ⟨nm, t, c, l, names, nums, texts⟩ = 0 then .ok (⟨nm, t, c, l, names, nums, texts⟩, a2) else .error (checkF ⟨nm, t, c, l, names, nums, texts⟩)
theorem rec6_pure {s nm : ByteArray} {a a1 a2 a3 a4 a5 e1 e2 e3 e4 e5 t c l n : Int} (F1 : Met6 (txtR s a) nm a1 e1) (F2 : Met6 (after6 e1 (numR s a1 2)) t a2 e2) (F3 : Met6 (after6 e2 (numR s a2 2)) c a3 e3) (F4 : Met6 (after6 e3 (numR s a3 4)) l a4 e4) (F5 : Met6 (after6 e4 (numR s a4 2)) n a5 e5) :
    (e5 = 0 ∧ recR s a = recT s nm t c l n a5 ∧ 0 ≤ a5 ∧ a5 ≤ s.size) ∨ (e5 ≠ 0 ∧ recR s a = .error e5) := by
  unfold recR
  rcases F1 with ⟨f1, k1⟩ | ⟨f1, k1⟩
  case inr =>
    unfold txtR at f1
    cases hn : nameAt s a with
    | ok x => rw [hn] at f1; exact absurd f1 (by simp)
    | error d =>
      rw [hn] at f1
      have f1 := Except.error.inj f1
      subst f1
      refine .inr ?_
      rcases met_step F2 with ⟨_, h, _⟩ | ⟨h2, h | h⟩
      · exact absurd h k1
      rotate_left
      · exact absurd h.1 k1
      rcases met_step F3 with ⟨_, h', _⟩ | ⟨h3, h' | h'⟩
      · exact absurd h' h2
      rotate_left
      · exact absurd h'.1 h2
      rcases met_step F4 with ⟨_, h'', _⟩ | ⟨h4, h'' | h''⟩
      · exact absurd h'' h3
      rotate_left
      · exact absurd h''.1 h3
      rcases met_step F5 with ⟨_, h5, _⟩ | ⟨h6, h5 | h5⟩
      · exact absurd h5 h4
      rotate_left
      · exact absurd h5.1 h4
      exact ⟨h6, by rw [h5.2, h''.2, h'.2, h.2]⟩
  unfold txtR at f1
  cases hn : nameAt s a with
  | error d => rw [hn] at f1; exact absurd f1 (by simp)
  | ok x =>
    obtain ⟨b, b1⟩ := x
    rw [hn] at f1
    obtain ⟨rfl, rfl⟩ := Prod.mk.inj (Except.ok.inj f1)
    simp only []
    rcases met_step F2 with ⟨k2, -, f2⟩ | ⟨k2, h | ⟨-, f2⟩⟩
    rotate_left
    · exact absurd k1 h.1
    · obtain ⟨q2, rfl⟩ := numR_err f2
      rw [q2]
      refine .inr ?_
      rcases met_step F3 with ⟨_, h', _⟩ | ⟨h3, h' | h'⟩
      · exact absurd h' k2
      rotate_left
      · exact absurd h'.1 k2
      rcases met_step F4 with ⟨_, h'', _⟩ | ⟨h4, h'' | h''⟩
      · exact absurd h'' h3
      rotate_left
      · exact absurd h''.1 h3
      rcases met_step F5 with ⟨_, h5, _⟩ | ⟨h6, h5 | h5⟩
      · exact absurd h5 h4
      rotate_left
      · exact absurd h5.1 h4
      exact ⟨h6, by rw [h5.2, h''.2, h'.2]⟩
    obtain ⟨q2, rfl⟩ := numR_ok f2
    rw [q2]
    simp only []
    rcases met_step F3 with ⟨k3, -, f3⟩ | ⟨k3, h | ⟨-, f3⟩⟩
    rotate_left
    · exact absurd k2 h.1
    · obtain ⟨q3, rfl⟩ := numR_err f3
      rw [q3]
      refine .inr ?_
      rcases met_step F4 with ⟨_, h'', _⟩ | ⟨h4, h'' | h''⟩
      · exact absurd h'' k3
      rotate_left
      · exact absurd h''.1 k3
      rcases met_step F5 with ⟨_, h5, _⟩ | ⟨h6, h5 | h5⟩
      · exact absurd h5 h4
      rotate_left
      · exact absurd h5.1 h4
      exact ⟨h6, by rw [h5.2, h''.2]⟩
    obtain ⟨q3, rfl⟩ := numR_ok f3
    rw [q3]
    simp only []
    rcases met_step F4 with ⟨k4, -, f4⟩ | ⟨k4, h | ⟨-, f4⟩⟩
    rotate_left
    · exact absurd k3 h.1
    · obtain ⟨q4, rfl⟩ := numR_err f4
      rw [q4]
      refine .inr ?_
      rcases met_step F5 with ⟨_, h5, _⟩ | ⟨h6, h5 | h5⟩
      · exact absurd h5 k4
      rotate_left
      · exact absurd h5.1 k4
      exact ⟨h6, by rw [h5.2]⟩
    obtain ⟨q4, rfl⟩ := numR_ok f4
    rw [q4]
    simp only []
    rcases met_step F5 with ⟨k5, -, f5⟩ | ⟨k5, h | ⟨-, f5⟩⟩
    rotate_left
    · exact absurd k4 h.1
    · obtain ⟨q5, rfl⟩ := numR_err f5
      rw [q5]
      exact .inr ⟨by decide, rfl⟩
    obtain ⟨q5, rfl⟩ := numR_ok f5
    rw [q5]
    have := get2 q5
    exact .inl ⟨k5, rfl, by omega, by omega⟩
structure E6 (w0 w : World) (g h q : Nat) (s : ByteArray) (a e : Int) (r : Rec) (v4 v5 v6 : Value) : Prop where
  o : Only g w0 w
  st : St w g s a e
  x : SAt w h #[.string r.f0, .int .u16 r.f1, .int .u16 r.f2, .int .u32 r.f3, v4, v5, v6] 85
  z : SAt w q #[.string ⟨#[]⟩, .int .u16 0, .int .u16 0, .int .u32 0, .slice none 0 0, .slice none 0 0, .slice none 0 0] 85
  hb : w0.heap.size ≤ h
  qb : w0.heap.size ≤ q
  ne : h ≠ q
  rp : RecP w0.heap.size r (.agg #[.string r.f0, .int .u16 r.f1, .int .u16 r.f2, .int .u32 r.f3, v4, v5, v6]) w
section
variable {w0 w w1 : World} {g h q B : Nat} {s f0 : ByteArray} {k c t a e a' e' k' c' t' : Int} {v4 v5 v6 u4 u5 u6 : Value} {r r' : Rec} {names texts : List ByteArray} {nums : List Int}
theorem RecP.only6 {v : Value} (hp : RecP B r v w) (hs : St w g s a e) (ho : Only g w w1) : RecP B r v w1 := by
  obtain ⟨v4, v5, v6, h1, h4, h5, h6⟩ := hp
  exact ⟨v4, v5, v6, h1, R_only6 h4 hs (by decide) ho, R_only6 h5 hs (by intro q hq; rw [show q = 81 by simpa [Kd.int, Kd.scalar] using hq]; decide) ho, R_only6 h6 hs (by decide) ho⟩
theorem E6.go (d : E6 w0 w g h q s a e r v4 v5 v6) (ho : Only g w w1) (hs : St w1 g s a' e') : E6 w0 w1 g h q s a' e' r v4 v5 v6 :=
  ⟨d.o.trans ho, hs, ho.at_ d.x (d.x.ne6 d.st (by decide)), ho.at_ d.z (d.z.ne6 d.st (by decide)), d.hb, d.qb, d.ne, d.rp.only6 d.st ho⟩
theorem E6.drew (d : E6 w0 w g h q s a e r v4 v5 v6) : E6 w0 w.drew g h q s a e r v4 v5 v6 := d.go (Only.drew (Only.refl g w)) d.st
theorem E6.sete (d : E6 w0 w g h q s a e r v4 v5 v6) (b : Int) : E6 w0 (w.setCell ⟨g, 2, none⟩ (.int .i64 b)) g h q s a b r v4 v5 v6 := d.go (Only.set (Only.refl g w) 2 _) (d.st.set2 b)
theorem E6.start (hs : St w g s a e) (ho : Only g w0 w) (hz : SAt w q #[.string ⟨#[]⟩, .int .u16 0, .int .u16 0, .int .u32 0, .slice none 0 0, .slice none 0 0, .slice none 0 0] 85) (hq : w0.heap.size ≤ q) : E6 w0 (w.alloc (.cells #[.string f0, .int .u16 0, .int .u16 0, .int .u32 0, (.slice none 0 0), (.slice none 0 0), (.slice none 0 0)] 85 (0, 0))) g w.heap.size q s a e ⟨f0, 0, 0, 0, [], [], []⟩ (.slice none 0 0) (.slice none 0 0) (.slice none 0 0) := by
  have hb := below_alloc (Below.refl w.heap.size w) (.cells #[.string f0, .int .u16 0, .int .u16 0, .int .u32 0, (.slice none 0 0), (.slice none 0 0), (.slice none 0 0)] 85 (0, 0))
  exact ⟨ho.alloc _, hs.below hb, SAt.new w _ _, hz.below hb, ho.size, hq, by have := hz.lt; omega, ⟨_, _, _, rfl, Kd.R_nil _ _ _ _ _, Kd.R_nil _ _ _ _ _, Kd.R_nil _ _ _ _ _⟩⟩
theorem E6.set (d : E6 w0 w g h q s a e r v4 v5 v6) (j : Nat) (u : Value) (hc : (#[.string r.f0, .int .u16 r.f1, .int .u16 r.f2, .int .u32 r.f3, v4, v5, v6] : Array Value).setIfInBounds j u = #[.string r'.f0, .int .u16 r'.f1, .int .u16 r'.f2, .int .u32 r'.f3, u4, u5, u6]) (hp : RecP w0.heap.size r' (.agg #[.string r'.f0, .int .u16 r'.f1, .int .u16 r'.f2, .int .u32 r'.f3, u4, u5, u6]) w) : E6 w0 (w.setCell ⟨h, j, none⟩ u) g h q s a e r' u4 u5 u6 :=
  ⟨d.o.setNew d.hb j u, d.st.far (Ne.symm (d.x.ne6 d.st (by decide))) j u, by have := d.x.set j u; rw [hc] at this; exact this, d.z.far (Ne.symm d.ne) j u, d.hb, d.qb, d.ne, hp.set d.x j u⟩
theorem RecP.flat (hp : RecP B ⟨f0, k, c, t, names, nums, texts⟩ (.agg #[.string f0, .int .u16 k, .int .u16 c, .int .u32 t, v4, v5, v6]) w) : RecP B ⟨f0, k', c', t', names, nums, texts⟩ (.agg #[.string f0, .int .u16 k', .int .u16 c', .int .u32 t', v4, v5, v6]) w := by
  obtain ⟨u4, u5, u6, h1, h4, h5, h6⟩ := hp
  have := Value.agg.inj h1
  simp at this
  obtain ⟨rfl, rfl, rfl⟩ := this
  exact ⟨_, _, _, rfl, h4, h5, h6⟩
theorem E6.laid (d : E6 w0 w g h q s a e r v4 v5 v6) :
    ∃ w9, w9 = ((((((w.setCell ⟨q, 0, none⟩ (.string r.f0)).setCell ⟨q, 1, none⟩ (.int .u16 r.f1)).setCell ⟨q, 2, none⟩ (.int .u16 r.f2)).setCell ⟨q, 3, none⟩ (.int .u32 r.f3)).setCell ⟨q, 4, none⟩ v4).setCell ⟨q, 5, none⟩ v5).setCell ⟨q, 6, none⟩ v6 ∧
      Laid6 w0 w9 g q s a e #[.string r.f0, .int .u16 r.f1, .int .u16 r.f2, .int .u32 r.f3, v4, v5, v6] ∧ RecP w0.heap.size r (.agg #[.string r.f0, .int .u16 r.f1, .int .u16 r.f2, .int .u32 r.f3, v4, v5, v6]) w9 := by
  have L0 : Laid6 w0 w g q s a e #[.string ⟨#[]⟩, .int .u16 0, .int .u16 0, .int .u32 0, .slice none 0 0, .slice none 0 0, .slice none 0 0] := ⟨d.o, d.st, d.z, d.qb⟩
  have L1 := L0.set 0 (.string r.f0)
  have L2 := L1.set 1 (.int .u16 r.f1)
  have L3 := L2.set 2 (.int .u16 r.f2)
  have L4 := L3.set 3 (.int .u32 r.f3)
  have L5 := L4.set 4 v4
  have L6 := L5.set 5 v5
  have L7 := L6.set 6 v6
  exact ⟨_, rfl, L7, ((((((d.rp.set L0.z 0 (.string r.f0)).set L1.z 1 (.int .u16 r.f1)).set L2.z 2 (.int .u16 r.f2)).set L3.z 3 (.int .u32 r.f3)).set L4.z 4 v4).set L5.z 5 v5).set L6.z 6 v6⟩
theorem RecP.parts (hp : RecP B r (.agg #[.string r'.f0, .int .u16 r'.f1, .int .u16 r'.f2, .int .u32 r'.f3, v4, v5, v6]) w) (he : r' = r) : Kd.R Kd.string 9 w B (fun _ => True) v4 r.f4 ∧ Kd.R (Kd.int .u32) 81 w B (fun _ => True) v5 r.f5 ∧ Kd.R Kd.string 9 w B (fun _ => True) v6 r.f6 := by
  obtain ⟨u4, u5, u6, h1, h4, h5, h6⟩ := hp
  have := Value.agg.inj h1
  simp at this
  obtain ⟨-, -, -, -, rfl, rfl, rfl⟩ := this
  exact ⟨h4, h5, h6⟩
structure B6 (w0 w : World) (g h q : Nat) (s : ByteArray) (a e : Int) (r : Rec) (v : Value) (cs : Array Value) : Prop where
  x : SAt w h cs 85
  o : Only g w0 w
  st : St w g s a e
  z : SAt w q #[.string ⟨#[]⟩, .int .u16 0, .int .u16 0, .int .u32 0, .slice none 0 0, .slice none 0 0, .slice none 0 0] 85
  rp : RecP w0.heap.size r v w
theorem B6.set {v : Value} {cs : Array Value} (d : B6 w0 w g h q s a e r v cs) (hb : w0.heap.size ≤ h) (ne : h ≠ q) (j : Nat) (u : Value) : B6 w0 (w.setCell ⟨h, j, none⟩ u) g h q s a e r v (cs.setIfInBounds j u) :=
  ⟨d.x.set j u, d.o.setNew hb j u, d.st.far (Ne.symm (d.x.ne6 d.st (by decide))) j u, d.z.far (Ne.symm ne) j u, d.rp.set d.x j u⟩
theorem E6.all (d : E6 w0 w g h q s a e r v4 v5 v6) (hp : RecP w0.heap.size r' (.agg #[.string r'.f0, .int .u16 r'.f1, .int .u16 r'.f2, .int .u32 r'.f3, u4, u5, u6]) w) :
    E6 w0 (((((((w.setCell ⟨h, 0, none⟩ (.string r'.f0)).setCell ⟨h, 1, none⟩ (.int .u16 r'.f1)).setCell ⟨h, 2, none⟩ (.int .u16 r'.f2)).setCell ⟨h, 3, none⟩ (.int .u32 r'.f3)).setCell ⟨h, 4, none⟩ u4).setCell ⟨h, 5, none⟩ u5).setCell ⟨h, 6, none⟩ u6) g h q s a e r' u4 u5 u6 := by
  have L0 : B6 w0 w g h q s a e r' (.agg #[.string r'.f0, .int .u16 r'.f1, .int .u16 r'.f2, .int .u32 r'.f3, u4, u5, u6]) #[.string r.f0, .int .u16 r.f1, .int .u16 r.f2, .int .u32 r.f3, v4, v5, v6] := ⟨d.x, d.o, d.st, d.z, hp⟩
  have L7 := ((((((L0.set d.hb d.ne 0 (.string r'.f0)).set d.hb d.ne 1 (.int .u16 r'.f1)).set d.hb d.ne 2 (.int .u16 r'.f2)).set d.hb d.ne 3 (.int .u32 r'.f3)).set d.hb d.ne 4 u4).set d.hb d.ne 5 u5).set d.hb d.ne 6 u6
  have hx := L7.x
  simp only [List.setIfInBounds_toArray, List.set_cons_zero, List.set_cons_succ] at hx
  exact ⟨L7.o, L7.st, hx, L7.z, d.hb, d.qb, d.ne, L7.rp⟩
end
section
variable {w0 w : World} {g h q : Nat} {s : ByteArray} {a e : Int} {r : Rec} {v4 v5 v6 : Value}
theorem E6.l0 (d : E6 w0 w g h q s a e r v4 v5 v6) : w.cell? ⟨h, 0, none⟩ = some (.string r.f0) := d.x.is 0 rfl
theorem E6.l1 (d : E6 w0 w g h q s a e r v4 v5 v6) : w.cell? ⟨h, 1, none⟩ = some (.int .u16 r.f1) := d.x.is 1 rfl
theorem E6.l2 (d : E6 w0 w g h q s a e r v4 v5 v6) : w.cell? ⟨h, 2, none⟩ = some (.int .u16 r.f2) := d.x.is 2 rfl
theorem E6.l3 (d : E6 w0 w g h q s a e r v4 v5 v6) : w.cell? ⟨h, 3, none⟩ = some (.int .u32 r.f3) := d.x.is 3 rfl
theorem E6.l4 (d : E6 w0 w g h q s a e r v4 v5 v6) : w.cell? ⟨h, 4, none⟩ = some (v4) := d.x.is 4 rfl
theorem E6.l5 (d : E6 w0 w g h q s a e r v4 v5 v6) : w.cell? ⟨h, 5, none⟩ = some (v5) := d.x.is 5 rfl
theorem E6.l6 (d : E6 w0 w g h q s a e r v4 v5 v6) : w.cell? ⟨h, 6, none⟩ = some (v6) := d.x.is 6 rfl
theorem E6.y0 (d : E6 w0 w g h q s a e r v4 v5 v6) : w.cell? ⟨q, 0, none⟩ = some (.string ⟨#[]⟩) := d.z.is 0 rfl
theorem E6.y1 (d : E6 w0 w g h q s a e r v4 v5 v6) : w.cell? ⟨q, 1, none⟩ = some (.int .u16 0) := d.z.is 1 rfl
theorem E6.y2 (d : E6 w0 w g h q s a e r v4 v5 v6) : w.cell? ⟨q, 2, none⟩ = some (.int .u16 0) := d.z.is 2 rfl
theorem E6.y3 (d : E6 w0 w g h q s a e r v4 v5 v6) : w.cell? ⟨q, 3, none⟩ = some (.int .u32 0) := d.z.is 3 rfl
theorem E6.y4 (d : E6 w0 w g h q s a e r v4 v5 v6) : w.cell? ⟨q, 4, none⟩ = some (.slice none 0 0) := d.z.is 4 rfl
theorem E6.y5 (d : E6 w0 w g h q s a e r v4 v5 v6) : w.cell? ⟨q, 5, none⟩ = some (.slice none 0 0) := d.z.is 5 rfl
theorem E6.y6 (d : E6 w0 w g h q s a e r v4 v5 v6) : w.cell? ⟨q, 6, none⟩ = some (.slice none 0 0) := d.z.is 6 rfl
end
set_option maxHeartbeats 8000000 in
set_option maxRecDepth 100000 in
theorem record6_calls {w : World} {g : Nat} {s : ByteArray} {a : Int} (hr : St w g s a 0) (hs : s.size ≤ 1000000) (h0 : 0 ≤ a) (ha : a ≤ s.size) :
    Calls Try.prog 40 #[.pointer (some ⟨g, 0, none⟩)] w fun r w' => Ends6 (RecP w.heap.size) (recR s a) w g s r w' := by
  obtain ⟨R, hR⟩ : ∃ R, recR s a = R := ⟨_, rfl⟩
  rw [hR]
  have HRR := Lib.hid hR
  have HR := Aside0.mk hr
  have HS := Lib.hid hs
  have HA := Lib.hid (show 0 ≤ a ∧ a ≤ s.size from ⟨h0, ha⟩)
  have HZ := Aside0.mk (SAt.new w #[.string ⟨#[]⟩, .int .u16 0, .int .u16 0, .int .u32 0, .slice none 0 0, .slice none 0 0, .slice none 0 0] 85)
  have HR1 := Aside0.mk (hr.below (below_alloc (Below.refl _ _) (.cells #[.string ⟨#[]⟩, .int .u16 0, .int .u16 0, .int .u32 0, .slice none 0 0, .slice none 0 0, .slice none 0 0] 85 (0, 0))))
  clear hr hs h0 ha hR
  go_enter Try.func40, Try.ntmps40
  go_wp2_with fail
  refine (name6_any HR1.out HS.out (fun _ => HA.out)).mono ?_
  rintro r w2 ⟨ho, nm, v, a1, e1, rfl, ⟨rfl, hnm⟩, hs1, hm⟩
  rw [after6_ok] at hm
  have F1 := Aside0.mk hm
  have HNm := Lib.hid hnm
  have HD := Aside0.mk (E6.start (f0 := nm) hs1 (((Only.refl g w).alloc _).trans ho) (ho.at_ HZ.out (HZ.out.ne6 HR1.out (by decide))) (Nat.le_refl _))
  clear ho hs1 hm HZ HR1 HR hnm
  go_wp2_with fail
  generalize hW : w2.alloc (.cells #[.string nm, .int .u16 0, .int .u16 0, .int .u32 0, (.slice none 0 0), (.slice none 0 0), (.slice none 0 0)] 85 (0, 0)) = w3 at *
  obtain ⟨h, hh⟩ : ∃ h, w2.heap.size = h := ⟨_, rfl⟩
  have hd := HD.out
  rw [hh] at hd
  simp only [hh]
  clear hh hW HD
  obtain ⟨q, hq⟩ : ∃ q, w.heap.size = q := ⟨_, rfl⟩
  have HQ := Lib.hid hq
  rw [hq] at hd
  simp only [hq]
  have HD := Aside0.mk hd
  clear hq hd
  have l0 := HD.out.l0
  have f0 := HD.out.x.frozen 0
  have l1 := HD.out.l1
  have f1 := HD.out.x.frozen 1
  have l2 := HD.out.l2
  have f2 := HD.out.x.frozen 2
  have l3 := HD.out.l3
  have f3 := HD.out.x.frozen 3
  have l4 := HD.out.l4
  have f4 := HD.out.x.frozen 4
  have l5 := HD.out.l5
  have f5 := HD.out.x.frozen 5
  have l6 := HD.out.l6
  have f6 := HD.out.x.frozen 6
  have z0 := HD.out.st.c0
  have z1 := HD.out.st.c1
  have z2 := HD.out.st.c2
  have k2 : w3.frozen? ⟨g, 2, none⟩ = false := blk_frozen HD.out.st 2
  refine (num6_b HD.out.st HS.out (.inl ⟨rfl, rfl⟩)).mono ?_
  rintro r w4 ⟨ho, t, v, a2, e2, rfl, ⟨rfl, t0, t1⟩, hs2, hm⟩
  have F2 := Aside0.mk hm
  have HX := Aside0.mk (HD.out.go ho hs2)
  have hw : IntKind.u16.wrap t = t := by rw [IntKind.wrap_u16]; omega
  have HY := Aside0.mk (HX.out.set 1 (.int .u16 t) (r' := ⟨nm, t, 0, 0, [], [], []⟩) rfl (RecP.flat HX.out.rp))
  clear l0 l1 l2 l3 l4 l5 l6 f0 f1 f2 f3 f4 f5 f6 z0 z1 z2 k2
  clear ho hs2 hm HD t0 t1
  have l0 := HX.out.l0
  have f0 := HX.out.x.frozen 0
  have l1 := HX.out.l1
  have f1 := HX.out.x.frozen 1
  have l2 := HX.out.l2
  have f2 := HX.out.x.frozen 2
  have l3 := HX.out.l3
  have f3 := HX.out.x.frozen 3
  have l4 := HX.out.l4
  have f4 := HX.out.x.frozen 4
  have l5 := HX.out.l5
  have f5 := HX.out.x.frozen 5
  have l6 := HX.out.l6
  have f6 := HX.out.x.frozen 6
  have z0 := HX.out.st.c0
  have z1 := HX.out.st.c1
  have z2 := HX.out.st.c2
  have k2 : w4.frozen? ⟨g, 2, none⟩ = false := blk_frozen HX.out.st 2
  go_wp2_with fail
  generalize hW : w4.setCell ⟨h, 1, none⟩ (.int .u16 t) = w5 at *
  clear l0 l1 l2 l3 l4 l5 l6 f0 f1 f2 f3 f4 f5 f6 z0 z1 z2 k2
  clear HX hW hw
  have HD := HY
  clear HY
  have l0 := HD.out.l0
  have f0 := HD.out.x.frozen 0
  have l1 := HD.out.l1
  have f1 := HD.out.x.frozen 1
  have l2 := HD.out.l2
  have f2 := HD.out.x.frozen 2
  have l3 := HD.out.l3
  have f3 := HD.out.x.frozen 3
  have l4 := HD.out.l4
  have f4 := HD.out.x.frozen 4
  have l5 := HD.out.l5
  have f5 := HD.out.x.frozen 5
  have l6 := HD.out.l6
  have f6 := HD.out.x.frozen 6
  have z0 := HD.out.st.c0
  have z1 := HD.out.st.c1
  have z2 := HD.out.st.c2
  have k2 : w5.frozen? ⟨g, 2, none⟩ = false := blk_frozen HD.out.st 2
  refine (num6_b HD.out.st HS.out (.inl ⟨rfl, rfl⟩)).mono ?_
  rintro r w6 ⟨ho, c, v, a3, e3, rfl, ⟨rfl, t0, t1⟩, hs2, hm⟩
  have F3 := Aside0.mk hm
  have HX := Aside0.mk (HD.out.go ho hs2)
  have hw : IntKind.u16.wrap c = c := by rw [IntKind.wrap_u16]; omega
  have HY := Aside0.mk (HX.out.set 2 (.int .u16 c) (r' := ⟨nm, t, c, 0, [], [], []⟩) rfl (RecP.flat HX.out.rp))
  clear l0 l1 l2 l3 l4 l5 l6 f0 f1 f2 f3 f4 f5 f6 z0 z1 z2 k2
  clear ho hs2 hm HD t0 t1
  have l0 := HX.out.l0
  have f0 := HX.out.x.frozen 0
  have l1 := HX.out.l1
  have f1 := HX.out.x.frozen 1
  have l2 := HX.out.l2
  have f2 := HX.out.x.frozen 2
  have l3 := HX.out.l3
  have f3 := HX.out.x.frozen 3
  have l4 := HX.out.l4
  have f4 := HX.out.x.frozen 4
  have l5 := HX.out.l5
  have f5 := HX.out.x.frozen 5
  have l6 := HX.out.l6
  have f6 := HX.out.x.frozen 6
  have z0 := HX.out.st.c0
  have z1 := HX.out.st.c1
  have z2 := HX.out.st.c2
  have k2 : w6.frozen? ⟨g, 2, none⟩ = false := blk_frozen HX.out.st 2
  go_wp2_with fail
  generalize hW : w6.setCell ⟨h, 2, none⟩ (.int .u16 c) = w7 at *
  clear l0 l1 l2 l3 l4 l5 l6 f0 f1 f2 f3 f4 f5 f6 z0 z1 z2 k2
  clear HX hW hw
  have HD := HY
  clear HY
  have l0 := HD.out.l0
  have f0 := HD.out.x.frozen 0
  have l1 := HD.out.l1
  have f1 := HD.out.x.frozen 1
  have l2 := HD.out.l2
  have f2 := HD.out.x.frozen 2
  have l3 := HD.out.l3
  have f3 := HD.out.x.frozen 3
  have l4 := HD.out.l4
  have f4 := HD.out.x.frozen 4
  have l5 := HD.out.l5
  have f5 := HD.out.x.frozen 5
  have l6 := HD.out.l6
  have f6 := HD.out.x.frozen 6
  have z0 := HD.out.st.c0
  have z1 := HD.out.st.c1
  have z2 := HD.out.st.c2
  have k2 : w7.frozen? ⟨g, 2, none⟩ = false := blk_frozen HD.out.st 2
  refine (num6_b HD.out.st HS.out (.inr ⟨rfl, rfl⟩)).mono ?_
  rintro r w8 ⟨ho, l, v, a4, e4, rfl, ⟨rfl, t0, t1⟩, hs2, hm⟩
  have F4 := Aside0.mk hm
  have HX := Aside0.mk (HD.out.go ho hs2)
  have hw : IntKind.u32.wrap l = l := by rw [IntKind.wrap_u32]; omega
  have HY := Aside0.mk (HX.out.set 3 (.int .u32 l) (r' := ⟨nm, t, c, l, [], [], []⟩) rfl (RecP.flat HX.out.rp))
  clear l0 l1 l2 l3 l4 l5 l6 f0 f1 f2 f3 f4 f5 f6 z0 z1 z2 k2
  clear ho hs2 hm HD t0 t1
  have l0 := HX.out.l0
  have f0 := HX.out.x.frozen 0
  have l1 := HX.out.l1
  have f1 := HX.out.x.frozen 1
  have l2 := HX.out.l2
  have f2 := HX.out.x.frozen 2
  have l3 := HX.out.l3
  have f3 := HX.out.x.frozen 3
  have l4 := HX.out.l4
  have f4 := HX.out.x.frozen 4
  have l5 := HX.out.l5
  have f5 := HX.out.x.frozen 5
  have l6 := HX.out.l6
  have f6 := HX.out.x.frozen 6
  have z0 := HX.out.st.c0
  have z1 := HX.out.st.c1
  have z2 := HX.out.st.c2
  have k2 : w8.frozen? ⟨g, 2, none⟩ = false := blk_frozen HX.out.st 2
  go_wp2_with fail
  generalize hW : w8.setCell ⟨h, 3, none⟩ (.int .u32 l) = w9 at *
  clear l0 l1 l2 l3 l4 l5 l6 f0 f1 f2 f3 f4 f5 f6 z0 z1 z2 k2
  clear HX hW hw
  have HD := HY
  clear HY
  have l0 := HD.out.l0
  have f0 := HD.out.x.frozen 0
  have l1 := HD.out.l1
  have f1 := HD.out.x.frozen 1
  have l2 := HD.out.l2
  have f2 := HD.out.x.frozen 2
  have l3 := HD.out.l3
  have f3 := HD.out.x.frozen 3
  have l4 := HD.out.l4
  have f4 := HD.out.x.frozen 4
  have l5 := HD.out.l5
  have f5 := HD.out.x.frozen 5
  have l6 := HD.out.l6
  have f6 := HD.out.x.frozen 6
  have z0 := HD.out.st.c0
  have z1 := HD.out.st.c1
  have z2 := HD.out.st.c2
  have k2 : w9.frozen? ⟨g, 2, none⟩ = false := blk_frozen HD.out.st 2
  refine (num6_b HD.out.st HS.out (.inl ⟨rfl, rfl⟩)).mono ?_
  rintro r w10 ⟨ho, n, v, a5, e5, rfl, ⟨rfl, t0, t1⟩, hs2, hm⟩
  have hE := rec6_pure F1.out F2.out F3.out F4.out hm
  rw [HRR.out] at hE
  have HD2 := Aside0.mk (HD.out.go ho hs2)
  clear l0 l1 l2 l3 l4 l5 l6 f0 f1 f2 f3 f4 f5 f6 z0 z1 z2 k2
  clear ho hs2 hm HD F1 F2 F3 F4
  have HD := HD2
  clear HD2
  have l0 := HD.out.l0
  have f0 := HD.out.x.frozen 0
  have l1 := HD.out.l1
  have f1 := HD.out.x.frozen 1
  have l2 := HD.out.l2
  have f2 := HD.out.x.frozen 2
  have l3 := HD.out.l3
  have f3 := HD.out.x.frozen 3
  have l4 := HD.out.l4
  have f4 := HD.out.x.frozen 4
  have l5 := HD.out.l5
  have f5 := HD.out.x.frozen 5
  have l6 := HD.out.l6
  have f6 := HD.out.x.frozen 6
  have z0 := HD.out.st.c0
  have z1 := HD.out.st.c1
  have z2 := HD.out.st.c2
  have k2 : w10.frozen? ⟨g, 2, none⟩ = false := blk_frozen HD.out.st 2
  have q3 : (s.size : Int) ≤ 1000000 := by have := HS.out; omega
  by_cases c5 : e5 = 0
  case neg =>
    have hE := (hE.resolve_left (fun h => c5 h.1)).2
    have d1 : (e5 == 0) = false := beq_eq_false_iff_ne.mpr c5
    have d2 : (e5 != 0) = true := by rw [bne_iff_ne]; exact c5
    have HE := Lib.hid (And.intro hE c5)
    clear hE c5
    go_wp2_with fail
    refine dr_start (fun w' => w'.cell? ⟨g, 2, none⟩ = some (.int .i64 e5)) [] (by kernel_rfl) z2 (fun hS => ?_)
    repeat (first | (refine dr_pure (by kernel_rfl) (by rfl) (fun _ _ _ h => h) (v := ?_) (a' := ?_) ?_ ?_ ?_; rotate_left 2; (focus (intro w'; go_simp; with_reducible rfl)); (focus (simp only [Act.put, List.setIfInBounds_toArray, List.set_cons_zero, List.set_cons_succ]; rfl))) | (refine dr_take (by kernel_rfl) (by rfl) (fun _ _ _ h => h) hS (v := ?_) (a' := ?_) ?_ ?_ ?_; rotate_left 2; (focus (intro w' hS'; go_simp; with_reducible rfl)); (focus (simp only [Act.put, List.setIfInBounds_toArray, List.set_cons_zero, List.set_cons_succ]; rfl))) | (refine dr_off (by kernel_rfl) (by rfl) (fun _ _ _ h => h) (a' := ?_) ?_ ?_; rotate_left; (focus (simp only [Act.put, List.setIfInBounds_toArray, List.set_cons_zero, List.set_cons_succ]; rfl))))
    refine dr_done (by kernel_rfl) ?_
    have HX := Aside0.mk HD.out.drew
    generalize hW : World.drew _ = wd at *
    clear l0 l1 l2 l3 l4 l5 l6 f0 f1 f2 f3 f4 f5 f6 z0 z1 z2 k2
    clear hW HD hS
    have HD := HX
    clear HX
    have l0 := HD.out.l0
    have f0 := HD.out.x.frozen 0
    have l1 := HD.out.l1
    have f1 := HD.out.x.frozen 1
    have l2 := HD.out.l2
    have f2 := HD.out.x.frozen 2
    have l3 := HD.out.l3
    have f3 := HD.out.x.frozen 3
    have l4 := HD.out.l4
    have f4 := HD.out.x.frozen 4
    have l5 := HD.out.l5
    have f5 := HD.out.x.frozen 5
    have l6 := HD.out.l6
    have f6 := HD.out.x.frozen 6
    have z0 := HD.out.st.c0
    have z1 := HD.out.st.c1
    have z2 := HD.out.st.c2
    have k2 : wd.frozen? ⟨g, 2, none⟩ = false := blk_frozen HD.out.st 2
    have y0 := HD.out.y0
    have g0 := HD.out.z.frozen 0
    have y1 := HD.out.y1
    have g1 := HD.out.z.frozen 1
    have y2 := HD.out.y2
    have g2 := HD.out.z.frozen 2
    have y3 := HD.out.y3
    have g3 := HD.out.z.frozen 3
    have y4 := HD.out.y4
    have g4 := HD.out.z.frozen 4
    have y5 := HD.out.y5
    have g5 := HD.out.z.frozen 5
    have y6 := HD.out.y6
    have g6 := HD.out.z.frozen 6
    have nhq := HD.out.ne
    have nqh := Ne.symm nhq
    have ngq := HD.out.z.ne6 HD.out.st (by decide)
    have nqg := Ne.symm ngq
    have nhg := HD.out.x.ne6 HD.out.st (by decide)
    have ngh := Ne.symm nhg
    go_wp2_with fail
    obtain ⟨w9, hw9, hl, hp⟩ := HD.out.laid
    rw [← hw9]
    have r0 := hl.z.is 0 rfl
    have r1 := hl.z.is 1 rfl
    have r2 := hl.z.is 2 rfl
    have r3 := hl.z.is 3 rfl
    have r4 := hl.z.is 4 rfl
    have r5 := hl.z.is 5 rfl
    have r6 := hl.z.is 6 rfl
    refine bodyPost_ret (v := .agg #[.string nm, .int .u16 t, .int .u16 c, .int .u32 l, (.slice none 0 0), (.slice none 0 0), (.slice none 0 0)]) (by simp [results, Try.results40, go_sem, r0, r1, r2, r3, r4, r5, r6]) rfl ?_
    exact Ends6.err (P := RecP w.heap.size) hl.o hp hl.st HE.out.1 HE.out.2
  case pos =>
    obtain ⟨hE2, h5, h6⟩ := (hE.resolve_right (fun h => h.1 c5)).2
    clear hE
    subst c5
    have hE := hE2
    clear hE2
    have d1 : ((0 : Int) == 0) = true := rfl
    have q4 : a5 ≤ (s.size : Int) := h6
    unfold recT at hE
    have hsub : IntKind.i64.wrap ((s.size : Int) - a5) = (s.size : Int) - a5 := by rw [IntKind.wrap_i64]; omega
    by_cases c1 : (s.size : Int) - a5 < n
    · rw [if_pos c1] at hE
      have d3 : decide ((s.size : Int) - a5 < n) = true := decide_eq_true c1
      have HE := Lib.hid hE
      clear hE c1
      go_wp2_with fail
      refine dr_start (fun w' => w'.cell? ⟨g, 2, none⟩ = some (.int .i64 0) ∧ w'.cell? ⟨g, 0, none⟩ = some (.string s) ∧ w'.cell? ⟨g, 1, none⟩ = some (.int .i64 a5)) [] (by kernel_rfl) ⟨z2, z0, z1⟩ (fun hS => ?_)
      repeat (first | (refine dr_pure (by kernel_rfl) (by rfl) (fun _ _ _ h => h) (v := ?_) (a' := ?_) ?_ ?_ ?_; rotate_left 2; (focus (intro w'; go_simp; with_reducible rfl)); (focus (simp only [Act.put, List.setIfInBounds_toArray, List.set_cons_zero, List.set_cons_succ]; rfl))) | (refine dr_take (by kernel_rfl) (by rfl) (fun _ _ _ h => h) hS (v := ?_) (a' := ?_) ?_ ?_ ?_; rotate_left 2; (focus (intro w' hS'; go_simp; with_reducible rfl)); (focus (simp only [Act.put, List.setIfInBounds_toArray, List.set_cons_zero, List.set_cons_succ]; rfl))) | (refine dr_off (by kernel_rfl) (by rfl) (fun _ _ _ h => h) (a' := ?_) ?_ ?_; rotate_left; (focus (simp only [Act.put, List.setIfInBounds_toArray, List.set_cons_zero, List.set_cons_succ]; rfl))))
      refine dr_done (by kernel_rfl) ?_
      have HX := Aside0.mk HD.out.drew
      generalize hW : World.drew _ = wd at *
      clear l0 l1 l2 l3 l4 l5 l6 f0 f1 f2 f3 f4 f5 f6 z0 z1 z2 k2
      clear hW HD hS
      have HD := HX
      clear HX
      have l0 := HD.out.l0
      have f0 := HD.out.x.frozen 0
      have l1 := HD.out.l1
      have f1 := HD.out.x.frozen 1
      have l2 := HD.out.l2
      have f2 := HD.out.x.frozen 2
      have l3 := HD.out.l3
      have f3 := HD.out.x.frozen 3
      have l4 := HD.out.l4
      have f4 := HD.out.x.frozen 4
      have l5 := HD.out.l5
      have f5 := HD.out.x.frozen 5
      have l6 := HD.out.l6
      have f6 := HD.out.x.frozen 6
      have z0 := HD.out.st.c0
      have z1 := HD.out.st.c1
      have z2 := HD.out.st.c2
      have k2 : wd.frozen? ⟨g, 2, none⟩ = false := blk_frozen HD.out.st 2
      have HD2 := Aside0.mk (HD.out.sete 2)
      have y0 := HD.out.y0
      have g0 := HD.out.z.frozen 0
      have y1 := HD.out.y1
      have g1 := HD.out.z.frozen 1
      have y2 := HD.out.y2
      have g2 := HD.out.z.frozen 2
      have y3 := HD.out.y3
      have g3 := HD.out.z.frozen 3
      have y4 := HD.out.y4
      have g4 := HD.out.z.frozen 4
      have y5 := HD.out.y5
      have g5 := HD.out.z.frozen 5
      have y6 := HD.out.y6
      have g6 := HD.out.z.frozen 6
      have nhq := HD.out.ne
      have nqh := Ne.symm nhq
      have ngq := HD.out.z.ne6 HD.out.st (by decide)
      have nqg := Ne.symm ngq
      have nhg := HD.out.x.ne6 HD.out.st (by decide)
      have ngh := Ne.symm nhg
      go_wp2_with fail
      obtain ⟨w9, hw9, hl, hp⟩ := HD2.out.laid
      rw [← hw9]
      have r0 := hl.z.is 0 rfl
      have r1 := hl.z.is 1 rfl
      have r2 := hl.z.is 2 rfl
      have r3 := hl.z.is 3 rfl
      have r4 := hl.z.is 4 rfl
      have r5 := hl.z.is 5 rfl
      have r6 := hl.z.is 6 rfl
      refine bodyPost_ret (v := .agg #[.string nm, .int .u16 t, .int .u16 c, .int .u32 l, (.slice none 0 0), (.slice none 0 0), (.slice none 0 0)]) (by simp [results, Try.results40, go_sem, r0, r1, r2, r3, r4, r5, r6]) rfl ?_
      exact Ends6.err (P := RecP w.heap.size) hl.o hp hl.st HE.out (by decide)
    · rw [if_neg c1] at hE
      have d3 : decide ((s.size : Int) - a5 < n) = false := decide_eq_false c1
      have d4 : ((0 : Int) != 0) = false := rfl
      have HE := Lib.hid hE
      have HB := Lib.hid (show 0 ≤ a5 ∧ a5 ≤ a5 + n ∧ a5 + n ≤ s.size by omega)
      have hw5 : IntKind.i64.wrap (a5 + n) = a5 + n := by rw [IntKind.wrap_i64]; omega
      clear hE c1
      go_wp2_with fail
      refine dr_start (fun w' => w'.cell? ⟨g, 2, none⟩ = some (.int .i64 0) ∧ w'.cell? ⟨g, 0, none⟩ = some (.string s) ∧ w'.cell? ⟨g, 1, none⟩ = some (.int .i64 a5)) [] (by kernel_rfl) ⟨z2, z0, z1⟩ (fun hS => ?_)
      repeat (first | (refine dr_pure (by kernel_rfl) (by rfl) (fun _ _ _ h => h) (v := ?_) (a' := ?_) ?_ ?_ ?_; rotate_left 2; (focus (intro w'; go_simp; with_reducible rfl)); (focus (simp only [Act.put, List.setIfInBounds_toArray, List.set_cons_zero, List.set_cons_succ]; rfl))) | (refine dr_take (by kernel_rfl) (by rfl) (fun _ _ _ h => h) hS (v := ?_) (a' := ?_) ?_ ?_ ?_; rotate_left 2; (focus (intro w' hS'; go_simp; with_reducible rfl)); (focus (simp only [Act.put, List.setIfInBounds_toArray, List.set_cons_zero, List.set_cons_succ]; rfl))) | (refine dr_off (by kernel_rfl) (by rfl) (fun _ _ _ h => h) (a' := ?_) ?_ ?_; rotate_left; (focus (simp only [Act.put, List.setIfInBounds_toArray, List.set_cons_zero, List.set_cons_succ]; rfl))))
      refine dr_done (by kernel_rfl) ?_
      have HX := Aside0.mk HD.out.drew
      generalize hW : World.drew _ = wd at *
      clear l0 l1 l2 l3 l4 l5 l6 f0 f1 f2 f3 f4 f5 f6 z0 z1 z2 k2
      clear hW HD hS
      have HD := HX
      clear HX
      have l0 := HD.out.l0
      have f0 := HD.out.x.frozen 0
      have l1 := HD.out.l1
      have f1 := HD.out.x.frozen 1
      have l2 := HD.out.l2
      have f2 := HD.out.x.frozen 2
      have l3 := HD.out.l3
      have f3 := HD.out.x.frozen 3
      have l4 := HD.out.l4
      have f4 := HD.out.x.frozen 4
      have l5 := HD.out.l5
      have f5 := HD.out.x.frozen 5
      have l6 := HD.out.l6
      have f6 := HD.out.x.frozen 6
      have z0 := HD.out.st.c0
      have z1 := HD.out.st.c1
      have z2 := HD.out.st.c2
      have k2 : wd.frozen? ⟨g, 2, none⟩ = false := blk_frozen HD.out.st 2
      go_wp2_with fail
      refine dr_start (fun w' => w'.cell? ⟨h, 0, none⟩ = some (.string nm) ∧ w'.cell? ⟨h, 1, none⟩ = some (.int .u16 t) ∧ w'.cell? ⟨h, 2, none⟩ = some (.int .u16 c) ∧ w'.cell? ⟨h, 3, none⟩ = some (.int .u32 l) ∧ w'.cell? ⟨h, 4, none⟩ = some (.slice none 0 0) ∧ w'.cell? ⟨h, 5, none⟩ = some (.slice none 0 0) ∧ w'.cell? ⟨h, 6, none⟩ = some (.slice none 0 0) ∧ w'.cell? ⟨g, 1, none⟩ = some (.int .i64 a5)) [8, 9] (by kernel_rfl) ⟨l0, l1, l2, l3, l4, l5, l6, z1⟩ (fun hS => ?_)
      repeat (first | (refine dr_pure (by kernel_rfl) (by rfl) (fun _ _ _ h => h) (v := ?_) (a' := ?_) ?_ ?_ ?_; rotate_left 2; (focus (intro w'; go_simp; with_reducible rfl)); (focus (simp only [Act.put, List.setIfInBounds_toArray, List.set_cons_zero, List.set_cons_succ]; rfl))) | (refine dr_take (by kernel_rfl) (by rfl) (fun _ _ _ h => h) hS (v := ?_) (a' := ?_) ?_ ?_ ?_; rotate_left 2; (focus (intro w' hS'; go_simp; with_reducible rfl)); (focus (simp only [Act.put, List.setIfInBounds_toArray, List.set_cons_zero, List.set_cons_succ]; rfl))) | (refine dr_off (by kernel_rfl) (by rfl) (fun _ _ _ h => h) (a' := ?_) ?_ ?_; rotate_left; (focus (simp only [Act.put, List.setIfInBounds_toArray, List.set_cons_zero, List.set_cons_succ]; rfl))))
      refine dr_callL Try.func55 (by kernel_rfl) rfl rfl (by kernel_rfl) (by kernel_rfl) (by rfl) (args := #[.pointer (some ⟨g, 0, none⟩), .agg #[.string nm, .int .u16 t, .int .u16 c, .int .u32 l, (.slice none 0 0), (.slice none 0 0), (.slice none 0 0)], .int .i64 (a5 + n)]) (by first | rfl | kernel_rfl | (simp [Act.eval]; done)) ?_
      refine (data6_calls (f0 := nm) (k := t) (c := c) (t := l) HD.out.drew.st HS.out HB.out.1 HB.out.2.1 HB.out.2.2).mono ?_
      rintro r w11 ⟨ho, ⟨names, nums, texts⟩, v, a6, e6, rfl, hp, hs6, hm⟩
      obtain ⟨v4, v5, v6, rfl, h4, h5, h6⟩ := hp
      obtain ⟨A4, n4, c4, rfl⟩ := R_anyslice h4
      obtain ⟨A5, n5, c5, rfl⟩ := R_anyslice h5
      obtain ⟨A6, n6, c6, rfl⟩ := R_anyslice h6
      have HX := Aside0.mk (HD.out.drew.go ho hs6)
      have hsz := HD.out.drew.o.size
      have HY := Aside0.mk (HX.out.all (r' := ⟨nm, t, c, l, names, nums, texts⟩) ⟨_, _, _, rfl, Kd.R_lower h4 hsz, Kd.R_lower h5 hsz, Kd.R_lower h6 hsz⟩)
      have HM := Aside0.mk hm
      clear l0 l1 l2 l3 l4 l5 l6 f0 f1 f2 f3 f4 f5 f6 z0 z1 z2 k2
      clear HD hm hs6 ho h4 h5 h6 hS hsz
      refine .inl ⟨_, rfl, ?_⟩
      refine dr_norm (a' := ?_) ?_ ?_
      rotate_left
      · simp only [Act.put, List.setIfInBounds_toArray, List.set_cons_zero, List.set_cons_succ]; rfl
      have l0 := HX.out.l0
      have f0 := HX.out.x.frozen 0
      have l1 := HX.out.l1
      have f1 := HX.out.x.frozen 1
      have l2 := HX.out.l2
      have f2 := HX.out.x.frozen 2
      have l3 := HX.out.l3
      have f3 := HX.out.x.frozen 3
      have l4 := HX.out.l4
      have f4 := HX.out.x.frozen 4
      have l5 := HX.out.l5
      have f5 := HX.out.x.frozen 5
      have l6 := HX.out.l6
      have f6 := HX.out.x.frozen 6
      have z0 := HX.out.st.c0
      have z1 := HX.out.st.c1
      have z2 := HX.out.st.c2
      have k2 : w11.frozen? ⟨g, 2, none⟩ = false := blk_frozen HX.out.st 2
      refine dr_store (((((((w11.setCell ⟨h, 0, none⟩ (.string nm)).setCell ⟨h, 1, none⟩ (.int .u16 t)).setCell ⟨h, 2, none⟩ (.int .u16 c)).setCell ⟨h, 3, none⟩ (.int .u32 l)).setCell ⟨h, 4, none⟩ (.slice A4 n4 c4)).setCell ⟨h, 5, none⟩ (.slice A5 n5 c5)).setCell ⟨h, 6, none⟩ (.slice A6 n6 c6)) (by kernel_rfl) (by kernel_rfl) (by rfl) rfl ⟨by go_simp; done⟩ ?_
      refine dr_done (by kernel_rfl) ?_
      clear l0 l1 l2 l3 l4 l5 l6 f0 f1 f2 f3 f4 f5 f6 z0 z1 z2 k2
      clear HX
      generalize hW : ((((((w11.setCell ⟨h, 0, none⟩ (.string nm)).setCell ⟨h, 1, none⟩ (.int .u16 t)).setCell ⟨h, 2, none⟩ (.int .u16 c)).setCell ⟨h, 3, none⟩ (.int .u32 l)).setCell ⟨h, 4, none⟩ (.slice A4 n4 c4)).setCell ⟨h, 5, none⟩ (.slice A5 n5 c5)).setCell ⟨h, 6, none⟩ (.slice A6 n6 c6) = w12 at *
      clear hW
      have HD := HY
      clear HY
      have l0 := HD.out.l0
      have f0 := HD.out.x.frozen 0
      have l1 := HD.out.l1
      have f1 := HD.out.x.frozen 1
      have l2 := HD.out.l2
      have f2 := HD.out.x.frozen 2
      have l3 := HD.out.l3
      have f3 := HD.out.x.frozen 3
      have l4 := HD.out.l4
      have f4 := HD.out.x.frozen 4
      have l5 := HD.out.l5
      have f5 := HD.out.x.frozen 5
      have l6 := HD.out.l6
      have f6 := HD.out.x.frozen 6
      have z0 := HD.out.st.c0
      have z1 := HD.out.st.c1
      have z2 := HD.out.st.c2
      have k2 : w12.frozen? ⟨g, 2, none⟩ = false := blk_frozen HD.out.st 2
      by_cases c6' : e6 = 0
      case neg =>
        have hm := (HM.out.resolve_left (fun h => c6' h.2)).1
        have hE := HE.out
        rw [hm] at hE
        have d5 : (e6 == 0) = false := beq_eq_false_iff_ne.mpr c6'
        have HG := Lib.hid (And.intro hE c6')
        clear hE c6' hm HM
        have y0 := HD.out.y0
        have g0 := HD.out.z.frozen 0
        have y1 := HD.out.y1
        have g1 := HD.out.z.frozen 1
        have y2 := HD.out.y2
        have g2 := HD.out.z.frozen 2
        have y3 := HD.out.y3
        have g3 := HD.out.z.frozen 3
        have y4 := HD.out.y4
        have g4 := HD.out.z.frozen 4
        have y5 := HD.out.y5
        have g5 := HD.out.z.frozen 5
        have y6 := HD.out.y6
        have g6 := HD.out.z.frozen 6
        have nhq := HD.out.ne
        have nqh := Ne.symm nhq
        have ngq := HD.out.z.ne6 HD.out.st (by decide)
        have nqg := Ne.symm ngq
        have nhg := HD.out.x.ne6 HD.out.st (by decide)
        have ngh := Ne.symm nhg
        go_wp2_with fail
        obtain ⟨w9, hw9, hl, hp⟩ := HD.out.laid
        rw [← hw9]
        have r0 := hl.z.is 0 rfl
        have r1 := hl.z.is 1 rfl
        have r2 := hl.z.is 2 rfl
        have r3 := hl.z.is 3 rfl
        have r4 := hl.z.is 4 rfl
        have r5 := hl.z.is 5 rfl
        have r6 := hl.z.is 6 rfl
        refine bodyPost_ret (v := .agg #[.string nm, .int .u16 t, .int .u16 c, .int .u32 l, .slice A4 n4 c4, .slice A5 n5 c5, .slice A6 n6 c6]) (by simp [results, Try.results40, go_sem, r0, r1, r2, r3, r4, r5, r6]) rfl ?_
        exact Ends6.err (P := RecP w.heap.size) hl.o hp hl.st HG.out.1 HG.out.2
      case pos =>
        have hm := (HM.out.resolve_right (fun h => h.2 c6')).1
        subst c6'
        have hE := HE.out
        rw [hm] at hE
        simp only [] at hE
        have HF := Aside0.mk ((dataR_all hm ⟨HB.out.1, by have := HB.out; omega⟩).1.fine HS.out nm t c l)
        have HRA := Aside0.mk (recAt_of (r := ⟨nm, t, c, l, names, nums, texts⟩) (HD.out.rp.parts rfl).1 (HD.out.rp.parts rfl).2.1 (HD.out.rp.parts rfl).2.2)
        obtain ⟨ck, hck⟩ : ∃ ck, checkF ⟨nm, t, c, l, names, nums, texts⟩ = ck := ⟨_, rfl⟩
        rw [hck] at hE
        have HG := Lib.hid hE
        have HCk := Lib.hid hck
        clear hE hm HM hck
        go_wp2_with fail
        refine (check5_calls ⟨nm, t, c, l, names, nums, texts⟩ _ _ HRA.out HF.out (by have := HNm.out; show nm.size ≤ _; omega)).mono ?_
        rintro r w13 ⟨rfl, hb⟩
        rw [HCk.out]
        have HD2 := Aside0.mk (HD.out.go (Only.of_below hb g) (HD.out.st.below hb))
        clear l0 l1 l2 l3 l4 l5 l6 f0 f1 f2 f3 f4 f5 f6 z0 z1 z2 k2
        clear HD hb HRA HF
        have l0 := HD2.out.l0
        have f0 := HD2.out.x.frozen 0
        have l1 := HD2.out.l1
        have f1 := HD2.out.x.frozen 1
        have l2 := HD2.out.l2
        have f2 := HD2.out.x.frozen 2
        have l3 := HD2.out.l3
        have f3 := HD2.out.x.frozen 3
        have l4 := HD2.out.l4
        have f4 := HD2.out.x.frozen 4
        have l5 := HD2.out.l5
        have f5 := HD2.out.x.frozen 5
        have l6 := HD2.out.l6
        have f6 := HD2.out.x.frozen 6
        have z0 := HD2.out.st.c0
        have z1 := HD2.out.st.c1
        have z2 := HD2.out.st.c2
        have k2 : w13.frozen? ⟨g, 2, none⟩ = false := blk_frozen HD2.out.st 2
        have HD3 := Aside0.mk (HD2.out.sete ck)
        have y0 := HD2.out.y0
        have g0 := HD2.out.z.frozen 0
        have y1 := HD2.out.y1
        have g1 := HD2.out.z.frozen 1
        have y2 := HD2.out.y2
        have g2 := HD2.out.z.frozen 2
        have y3 := HD2.out.y3
        have g3 := HD2.out.z.frozen 3
        have y4 := HD2.out.y4
        have g4 := HD2.out.z.frozen 4
        have y5 := HD2.out.y5
        have g5 := HD2.out.z.frozen 5
        have y6 := HD2.out.y6
        have g6 := HD2.out.z.frozen 6
        have nhq := HD2.out.ne
        have nqh := Ne.symm nhq
        have ngq := HD2.out.z.ne6 HD2.out.st (by decide)
        have nqg := Ne.symm ngq
        have nhg := HD2.out.x.ne6 HD2.out.st (by decide)
        have ngh := Ne.symm nhg
        go_wp2_with fail
        obtain ⟨w9, hw9, hl, hp⟩ := HD3.out.laid
        rw [← hw9]
        have r0 := hl.z.is 0 rfl
        have r1 := hl.z.is 1 rfl
        have r2 := hl.z.is 2 rfl
        have r3 := hl.z.is 3 rfl
        have r4 := hl.z.is 4 rfl
        have r5 := hl.z.is 5 rfl
        have r6 := hl.z.is 6 rfl
        refine bodyPost_ret (v := .agg #[.string nm, .int .u16 t, .int .u16 c, .int .u32 l, .slice A4 n4 c4, .slice A5 n5 c5, .slice A6 n6 c6]) (by simp [results, Try.results40, go_sem, r0, r1, r2, r3, r4, r5, r6]) rfl ?_
        exact (Decidable.em (ck = 0)).elim (fun hc => Ends6.ok (P := RecP w.heap.size) (a := a6) hl.o hp (hc ▸ hl.st) (HG.out.trans (if_pos hc))) (fun hc => Ends6.err (P := RecP w.heap.size) hl.o hp hl.st (HG.out.trans (if_neg hc)) hc)
end Go.Proofs.Ytfoflodgegehfaa.M
set_option linter.unusedVariables false
set_option linter.unusedSimpArgs false
namespace Go.Proofs.Ytfoflodgegehfaa.M
open Go.RowKit Go.Maps Go.Proofs.YtfoflodgegehfaaW.PrintWords Go.Proofs.YtfoflodgegehfaaW.PrintLast Go.Proofs.YtfoflodgegehfaaW.PrintMore
def bindE {α β : Type} (R : Except Int (α × Int)) (F : α → Int → Except Int (β × Int)) : Except Int (β × Int) := match R with
  | .error c => .error c
  | .ok (x, a) => F x a
theorem met_bind {α β : Type} {R : Except Int (α × Int)} {F : α → Int → Except Int (β × Int)} {e0 e a f b : Int} {x : α} {y : β} (h1 : Met6 (after6 e0 R) x a e) (h2 : Met6 (after6 e (F x a)) y b f) : Met6 (after6 e0 (bindE R F)) y b f := by
  by_cases c : e0 = 0
  · subst c
    rw [after6_ok] at h1 ⊢
    rcases h1 with ⟨h1, rfl⟩ | ⟨h1, he⟩
    · rw [h1]
      rw [after6_ok] at h2
      exact h2
    · rw [h1]
      rw [after6_err he] at h2
      rcases h2 with ⟨h2, -⟩ | ⟨h2, hf⟩
      · exact absurd h2 (by simp)
      · exact .inr ⟨h2, hf⟩
  · rw [after6_err c] at h1 ⊢
    rcases h1 with ⟨h1, -⟩ | ⟨h1, he⟩
    · exact absurd h1 (by simp)
    · have := Except.error.inj h1
      subst this
      rw [after6_err c] at h2
      exact h2
theorem quesR_bind (s : ByteArray) (a : Int) : quesR s a = bindE (txtR s a) fun nm a => bindE (numR s a 2) fun t a => bindE (numR s a 2) fun c a => .ok (⟨nm, t, c⟩, a) := by
  unfold quesR txtR
  cases nameAt s a with
  | error d => rfl
  | ok x =>
    obtain ⟨b, a1⟩ := x
    simp only [bindE, numR]
    cases getF s a1 2 with
    | none => rfl
    | some t =>
      simp only []
      cases getF s (a1 + 2) 2 with
      | none => rfl
      | some c => rfl
def sumE (l a : Int) : Except Int (Unit × Int) := if 256 < l then .error 6 else .ok ((), a)
def lastE (s : ByteArray) (a : Int) : Except Int (Unit × Int) := if a < s.size then .error 7 else .ok ((), a)
theorem msgR_bind (s : ByteArray) : msgR s = bindE (numR s 0 2) fun id a => bindE (numR s a 2) fun fl a => bindE (numR s a 2) fun na a => bindE (numR s a 2) fun nb a => bindE (numR s a 2) fun nc a => bindE (numR s a 2) fun nd a => bindE (sumE (na + nb + nc + nd) a) fun _ a =>
    bindE (quessR s na.toNat [] a) fun qs a => bindE (recsR s nb.toNat [] a) fun ans a => bindE (recsR s nc.toNat [] a) fun auth a => bindE (recsR s nd.toNat [] a) fun add a => bindE (lastE s a) fun _ a => .ok (⟨id, fl, qs, ans, auth, add⟩, a) := by
  unfold msgR
  simp only [bindE, numR]
  cases getF s 0 2 with
  | none => rfl
  | some id =>
    simp only []
    rw [show (0 : Int) + 2 = 2 from rfl]
    cases getF s 2 2 with
    | none => rfl
    | some fl =>
      simp only [cntR]
      rw [show (2 : Int) + 2 = 4 from rfl]
      cases getF s 4 2 with
      | none => rfl
      | some na =>
        simp only []
        cases getF s (4 + 2) 2 with
        | none => rfl
        | some nb =>
          simp only []
          cases getF s (4 + 2 + 2) 2 with
          | none => rfl
          | some nc =>
            simp only []
            cases getF s (4 + 2 + 2 + 2) 2 with
            | none => rfl
            | some nd =>
              simp only [List.nil_append, List.cons_append, msgA, List.sum_cons, List.sum_nil, Int.add_zero, List.getD_cons_zero, sumE]
              rw [show na + (nb + (nc + nd)) = na + nb + nc + nd by omega]
              split
              · rfl
              simp only []
              cases quessR s na.toNat [] (4 + 2 + 2 + 2 + 2) with
              | error d => rfl
              | ok x =>
                obtain ⟨qs, a⟩ := x
                simp only [msgB, List.getD_cons_succ, List.getD_cons_zero]
                cases recsR s nb.toNat [] a with
                | error d => rfl
                | ok x =>
                  obtain ⟨ans, a⟩ := x
                  simp only [msgC, List.getD_cons_succ, List.getD_cons_zero]
                  cases recsR s nc.toNat [] a with
                  | error d => rfl
                  | ok x =>
                    obtain ⟨auth, a⟩ := x
                    simp only [msgD, List.getD_cons_succ, List.getD_cons_zero]
                    cases recsR s nd.toNat [] a with
                    | error d => rfl
                    | ok x =>
                      obtain ⟨add, a⟩ := x
                      simp only [msgE, lastE]
                      split <;> rfl
structure C6 (w0 w : World) (g m q : Nat) (s : ByteArray) (a e : Int) (cs : Array Value) : Prop where
  b : Below w0.heap.size w0 w
  st : St w g s a e
  x : SAt w m cs 35
  z : SAt w q zMsg 35
  gb : w0.heap.size ≤ g
  mb : w0.heap.size ≤ m
  qb : w0.heap.size ≤ q
  ne : m ≠ q
section
variable {w0 w w1 : World} {g m q : Nat} {s : ByteArray} {a e a' e' : Int} {cs : Array Value}
theorem C6.mg (d : C6 w0 w g m q s a e cs) : m ≠ g := d.x.ne6 d.st (by decide)
theorem C6.qg (d : C6 w0 w g m q s a e cs) : q ≠ g := d.z.ne6 d.st (by decide)
theorem C6.go (d : C6 w0 w g m q s a e cs) (ho : Only g w w1) (hs : St w1 g s a' e') : C6 w0 w1 g m q s a' e' cs :=
  ⟨ho.below d.b d.b.size d.gb, hs, ho.at_ d.x d.mg, ho.at_ d.z d.qg, d.gb, d.mb, d.qb, d.ne⟩
theorem C6.below (d : C6 w0 w g m q s a e cs) (hb : Below w.heap.size w w1) : C6 w0 w1 g m q s a e cs :=
  ⟨d.b.trans (hb.mono d.b.size), d.st.below hb, d.x.below hb, d.z.below hb, d.gb, d.mb, d.qb, d.ne⟩
theorem C6.set (d : C6 w0 w g m q s a e cs) (j : Nat) (u : Value) : C6 w0 (w.setCell ⟨m, j, none⟩ u) g m q s a e (cs.setIfInBounds j u) :=
  ⟨d.b.setCell d.mb u, d.st.far (Ne.symm d.mg) j u, d.x.set j u, d.z.far (Ne.symm d.ne) j u, d.gb, d.mb, d.qb, d.ne⟩
theorem C6.far (d : C6 w0 w g m q s a e cs) {b : Nat} (hb : w0.heap.size ≤ b) (h1 : g ≠ b) (h2 : m ≠ b) (h3 : q ≠ b) (j : Nat) (u : Value) : C6 w0 (w.setCell ⟨b, j, none⟩ u) g m q s a e cs :=
  ⟨d.b.setCell hb u, d.st.far h1 j u, d.x.far h2 j u, d.z.far h3 j u, d.gb, d.mb, d.qb, d.ne⟩
theorem C6.grown (d : C6 w0 w g m q s a e cs) {row : Option Nat} (hg : w.grownBy w1 row) (h0 : ∀ k, row = some k → w0.heap.size ≤ k) (h1 : some g ≠ row) (h2 : some m ≠ row) (h3 : some q ≠ row) : C6 w0 w1 g m q s a e cs :=
  ⟨⟨hg.os.trans d.b.os, hg.tape.trans d.b.tape, hg.output.trans d.b.output, Nat.le_trans d.b.size hg.size, fun k hk => (hg.block k (Nat.lt_of_lt_of_le hk d.b.size) (fun he => by have := h0 k he.symm; omega)).trans (d.b.block k hk)⟩,
    blk_grown d.st hg h1, blk_grown d.x hg h2, blk_grown d.z hg h3, d.gb, d.mb, d.qb, d.ne⟩
end
structure M6 (w0 w : World) (g m q B4 B5 : Nat) (ok2 ok3 ok4 : Nat → Prop) (s : ByteArray) (a e id fl : Int) (v2 v3 v4 v5 : Value) (qs : List Ques) (ans auth add : List Rec) : Prop where
  c : C6 w0 w g m q s a e #[.int .u16 id, .int .u16 fl, v2, v3, v4, v5]
  r2 : Kd.R kQues 63 w w0.heap.size ok2 v2 qs
  r3 : Kd.R kRec 85 w w0.heap.size ok3 v3 ans
  r4 : Kd.R kRec 85 w B4 ok4 v4 auth
  r5 : Kd.R kRec 85 w B5 (fun _ => True) v5 add
  b4 : w0.heap.size ≤ B4
  s4 : B4 ≤ w.heap.size
  b5 : w0.heap.size ≤ B5
  s5 : B5 ≤ w.heap.size
section
variable {w0 w w1 : World} {g m q B4 B5 : Nat} {ok2 ok3 ok4 : Nat → Prop} {s : ByteArray} {a e a' e' id fl id' fl' : Int} {v2 v3 v4 v5 u : Value} {qs l2 : List Ques} {ans auth add l : List Rec}
theorem M6.go (d : M6 w0 w g m q B4 B5 ok2 ok3 ok4 s a e id fl v2 v3 v4 v5 qs ans auth add) (ho : Only g w w1) (hs : St w1 g s a' e') : M6 w0 w1 g m q B4 B5 ok2 ok3 ok4 s a' e' id fl v2 v3 v4 v5 qs ans auth add :=
  ⟨d.c.go ho hs, R_only6 d.r2 d.c.st (by decide) ho, R_only6 d.r3 d.c.st (by decide) ho, R_only6 d.r4 d.c.st (by decide) ho, R_only6 d.r5 d.c.st (by decide) ho, d.b4, Nat.le_trans d.s4 ho.size, d.b5, Nat.le_trans d.s5 ho.size⟩
theorem M6.below (d : M6 w0 w g m q B4 B5 ok2 ok3 ok4 s a e id fl v2 v3 v4 v5 qs ans auth add) (hb : Below w.heap.size w w1) : M6 w0 w1 g m q B4 B5 ok2 ok3 ok4 s a e id fl v2 v3 v4 v5 qs ans auth add :=
  ⟨d.c.below hb, Kd.R_below d.r2 hb, Kd.R_below d.r3 hb, Kd.R_below d.r4 hb, Kd.R_below d.r5 hb, d.b4, Nat.le_trans d.s4 hb.size, d.b5, Nat.le_trans d.s5 hb.size⟩
theorem M6.drew (d : M6 w0 w g m q B4 B5 ok2 ok3 ok4 s a e id fl v2 v3 v4 v5 qs ans auth add) : M6 w0 w.drew g m q B4 B5 ok2 ok3 ok4 s a e id fl v2 v3 v4 v5 qs ans auth add := d.below (below_drew (Below.refl _ _))
theorem M6.sete (d : M6 w0 w g m q B4 B5 ok2 ok3 ok4 s a e id fl v2 v3 v4 v5 qs ans auth add) (b : Int) : M6 w0 (w.setCell ⟨g, 2, none⟩ (.int .i64 b)) g m q B4 B5 ok2 ok3 ok4 s a b id fl v2 v3 v4 v5 qs ans auth add := d.go (Only.set (Only.refl g w) 2 _) (d.c.st.set2 b)
theorem M6.head (d : M6 w0 w g m q B4 B5 ok2 ok3 ok4 s a e id fl v2 v3 v4 v5 qs ans auth add) (j : Nat) (hc : (#[.int .u16 id, .int .u16 fl, v2, v3, v4, v5] : Array Value).setIfInBounds j u = #[.int .u16 id', .int .u16 fl', v2, v3, v4, v5]) : M6 w0 (w.setCell ⟨m, j, none⟩ u) g m q B4 B5 ok2 ok3 ok4 s a e id' fl' v2 v3 v4 v5 qs ans auth add :=
  ⟨by have := d.c.set j u; rw [hc] at this; exact this, Kd.R_set d.r2 d.c.x (by decide) j u, Kd.R_set d.r3 d.c.x (by decide) j u, Kd.R_set d.r4 d.c.x (by decide) j u, Kd.R_set d.r5 d.c.x (by decide) j u, d.b4, by simpa using d.s4, d.b5, by simpa using d.s5⟩
theorem M6.quesBox (d : M6 w0 w g m q B4 B5 ok2 ok3 ok4 s a e id fl v2 v3 v4 v5 qs ans auth add) (o : Obj) : M6 w0 (w.alloc o) g m q B4 B5 (fun k => ok2 k ∧ k ≠ w.heap.size) ok3 ok4 s a e id fl v2 v3 v4 v5 qs ans auth add := by
  have h := d.below (below_alloc (Below.refl _ _) o)
  exact ⟨h.c, Kd.R_alloc (Kd.R_elderB d.r2 w.heap.size (Nat.le_refl _)) o, h.r3, h.r4, h.r5, h.b4, h.s4, h.b5, h.s5⟩
theorem M6.quesSet (d : M6 w0 w g m q B4 B5 ok2 ok3 ok4 s a e id fl v2 v3 v4 v5 qs ans auth add) {b : Nat} {cs : Array Value} (hx : SAt w b cs 63) (hb : w0.heap.size ≤ b) (h2 : ∀ k, ok2 k → k ≠ b) (j : Nat) (u : Value) : M6 w0 (w.setCell ⟨b, j, none⟩ u) g m q B4 B5 ok2 ok3 ok4 s a e id fl v2 v3 v4 v5 qs ans auth add :=
  ⟨d.c.far hb (Ne.symm (hx.ne6 d.c.st (by decide))) (blk_ne d.c.x hx (by decide)) (blk_ne d.c.z hx (by decide)) j u, Kd.R_far (p := ⟨b, j, none⟩) d.r2 h2 u, Kd.R_set d.r3 hx (by decide) j u, Kd.R_set d.r4 hx (by decide) j u, Kd.R_set d.r5 hx (by decide) j u, d.b4, by simpa using d.s4, d.b5, by simpa using d.s5⟩
theorem M6.app2 (d : M6 w0 w g m q B4 B5 ok2 ok3 ok4 s a e id fl v2 v3 v4 v5 qs ans auth add) (hr : Kd.R kQues 63 w1 w0.heap.size (fun _ => True) u l2) (hg : w.grownBy w1 v2.ownBlock) : M6 w0 (w1.setCell ⟨m, 2, none⟩ u) g m q B4 B5 (fun _ => True) ok3 ok4 s a e id fl u v3 v4 v5 l2 ans auth add := by
  have hc := d.c.grown hg (Kd.R_base d.r2) (Kd.R_ne d.r2 d.c.st (by decide)) (Kd.R_ne d.r2 d.c.x (by decide)) (Kd.R_ne d.r2 d.c.z (by decide))
  have h3 := Kd.R_over d.r3 d.r2 (by decide) hg
  have h4 := Kd.R_over d.r4 d.r2 (by decide) hg
  have h5 := Kd.R_over d.r5 d.r2 (by decide) hg
  exact ⟨hc.set 2 u, Kd.R_set hr hc.x (by decide) 2 u, Kd.R_set h3 hc.x (by decide) 2 u, Kd.R_set h4 hc.x (by decide) 2 u, Kd.R_set h5 hc.x (by decide) 2 u, d.b4, by have := hg.size; have := d.s4; simp; omega, d.b5, by have := hg.size; have := d.s5; simp; omega⟩
theorem M6.app3 (d : M6 w0 w g m q B4 B5 ok2 ok3 ok4 s a e id fl v2 v3 (.slice none 0 0) (.slice none 0 0) qs ans [] []) (hr : Kd.R kRec 85 w1 w0.heap.size (fun _ => True) u l) (hg : w.grownBy w1 v3.ownBlock) : M6 w0 (w1.setCell ⟨m, 3, none⟩ u) g m q B4 B5 ok2 (fun _ => True) ok4 s a e id fl v2 u (.slice none 0 0) (.slice none 0 0) qs l [] [] := by
  have hc := d.c.grown hg (Kd.R_base d.r3) (Kd.R_ne d.r3 d.c.st (by decide)) (Kd.R_ne d.r3 d.c.x (by decide)) (Kd.R_ne d.r3 d.c.z (by decide))
  have h2 := Kd.R_over d.r2 d.r3 (by decide) hg
  exact ⟨hc.set 3 u, Kd.R_set h2 hc.x (by decide) 3 u, Kd.R_set hr hc.x (by decide) 3 u, Kd.R_nil _ _ _ _ _, Kd.R_nil _ _ _ _ _, d.b4, by have := hg.size; have := d.s4; simp; omega, d.b5, by have := hg.size; have := d.s5; simp; omega⟩
theorem M6.next4 (d : M6 w0 w g m q B4 B5 ok2 ok3 ok4 s a e id fl v2 v3 (.slice none 0 0) (.slice none 0 0) qs ans [] []) : M6 w0 w g m q w.heap.size B5 ok2 (fun k => k < w.heap.size) (fun _ => True) s a e id fl v2 v3 (.slice none 0 0) (.slice none 0 0) qs ans [] [] :=
  ⟨d.c, d.r2, Kd.R_mono (Kd.R_bound d.r3) (fun _ hk => hk.2.2.1), Kd.R_nil _ _ _ _ _, d.r5, d.c.b.size, Nat.le_refl _, d.b5, d.s5⟩
theorem M6.app4 (d : M6 w0 w g m q B4 B5 ok2 (fun k => k < B4) ok4 s a e id fl v2 v3 v4 (.slice none 0 0) qs ans auth []) (hr : Kd.R kRec 85 w1 B4 (fun _ => True) u l) (hg : w.grownBy w1 v4.ownBlock) : M6 w0 (w1.setCell ⟨m, 4, none⟩ u) g m q B4 B5 ok2 (fun k => k < B4) (fun _ => True) s a e id fl v2 v3 u (.slice none 0 0) qs ans l [] := by
  have hc := d.c.grown hg (fun k hk => Nat.le_trans d.b4 (Kd.R_base d.r4 k hk)) (Kd.R_ne d.r4 d.c.st (by decide)) (Kd.R_ne d.r4 d.c.x (by decide)) (Kd.R_ne d.r4 d.c.z (by decide))
  have h2 := Kd.R_over d.r2 d.r4 (by decide) hg
  have h3 := Kd.R_grown d.r3 hg (fun k hk he => by have := Kd.R_base d.r4 k he.symm; omega)
  exact ⟨hc.set 4 u, Kd.R_set h2 hc.x (by decide) 4 u, Kd.R_set h3 hc.x (by decide) 4 u, Kd.R_set hr hc.x (by decide) 4 u, Kd.R_nil _ _ _ _ _, d.b4, by have := hg.size; have := d.s4; simp; omega, d.b5, by have := hg.size; have := d.s5; simp; omega⟩
theorem M6.next5 (d : M6 w0 w g m q B4 B5 ok2 (fun k => k < B4) (fun _ => True) s a e id fl v2 v3 v4 (.slice none 0 0) qs ans auth []) : M6 w0 w g m q B4 w.heap.size ok2 (fun k => k < w.heap.size) (fun k => k < w.heap.size) s a e id fl v2 v3 v4 (.slice none 0 0) qs ans auth [] :=
  ⟨d.c, d.r2, Kd.R_mono (Kd.R_bound d.r3) (fun _ hk => hk.2.2.1), Kd.R_mono (Kd.R_bound d.r4) (fun _ hk => hk.2.2.1), Kd.R_nil _ _ _ _ _, d.b4, d.s4, d.c.b.size, Nat.le_refl _⟩
theorem M6.app5 (d : M6 w0 w g m q B4 B5 ok2 (fun k => k < B5) (fun k => k < B5) s a e id fl v2 v3 v4 v5 qs ans auth add) (hr : Kd.R kRec 85 w1 B5 (fun _ => True) u l) (hg : w.grownBy w1 v5.ownBlock) : M6 w0 (w1.setCell ⟨m, 5, none⟩ u) g m q B4 B5 ok2 (fun k => k < B5) (fun k => k < B5) s a e id fl v2 v3 v4 u qs ans auth l := by
  have hc := d.c.grown hg (fun k hk => Nat.le_trans d.b5 (Kd.R_base d.r5 k hk)) (Kd.R_ne d.r5 d.c.st (by decide)) (Kd.R_ne d.r5 d.c.x (by decide)) (Kd.R_ne d.r5 d.c.z (by decide))
  have h2 := Kd.R_over d.r2 d.r5 (by decide) hg
  have h3 := Kd.R_grown d.r3 hg (fun k hk he => by have := Kd.R_base d.r5 k he.symm; omega)
  have h4 := Kd.R_grown d.r4 hg (fun k hk he => by have := Kd.R_base d.r5 k he.symm; omega)
  exact ⟨hc.set 5 u, Kd.R_set h2 hc.x (by decide) 5 u, Kd.R_set h3 hc.x (by decide) 5 u, Kd.R_set h4 hc.x (by decide) 5 u, Kd.R_set hr hc.x (by decide) 5 u, d.b4, by have := hg.size; have := d.s4; simp; omega, d.b5, by have := hg.size; have := d.s5; simp; omega⟩
theorem M6.msg (d : M6 w0 w g m q B4 B5 ok2 ok3 ok4 s a e id fl v2 v3 v4 v5 qs ans auth add) : MsgP w0.heap.size ⟨id, fl, qs, ans, auth, add⟩ (.agg #[.int .u16 id, .int .u16 fl, v2, v3, v4, v5]) w :=
  ⟨v2, v3, v4, v5, rfl, Kd.R_mono d.r2 (fun _ _ => trivial), Kd.R_mono d.r3 (fun _ _ => trivial), Kd.R_mono (Kd.R_lower d.r4 d.b4) (fun _ _ => trivial), Kd.R_lower d.r5 d.b5⟩
structure L6 (w0 w : World) (q : Nat) (mm : Msg) (v : Value) (cs : Array Value) : Prop where
  b : Below w0.heap.size w0 w
  z : SAt w q cs 35
  p : MsgP w0.heap.size mm v w
theorem L6.set {mm : Msg} {v : Value} {cs : Array Value} (d : L6 w0 w q mm v cs) (hq : w0.heap.size ≤ q) (j : Nat) (u : Value) : L6 w0 (w.setCell ⟨q, j, none⟩ u) q mm v (cs.setIfInBounds j u) :=
  ⟨d.b.setCell hq u, d.z.set j u, d.p.set d.z j u⟩
theorem M6.laid (d : M6 w0 w g m q B4 B5 ok2 ok3 ok4 s a e id fl v2 v3 v4 v5 qs ans auth add) :
    ∃ w9, w9 = (((((w.setCell ⟨q, 0, none⟩ (.int .u16 id)).setCell ⟨q, 1, none⟩ (.int .u16 fl)).setCell ⟨q, 2, none⟩ v2).setCell ⟨q, 3, none⟩ v3).setCell ⟨q, 4, none⟩ v4).setCell ⟨q, 5, none⟩ v5 ∧
      L6 w0 w9 q ⟨id, fl, qs, ans, auth, add⟩ (.agg #[.int .u16 id, .int .u16 fl, v2, v3, v4, v5]) #[.int .u16 id, .int .u16 fl, v2, v3, v4, v5] := by
  have L0 : L6 w0 w q ⟨id, fl, qs, ans, auth, add⟩ (.agg #[.int .u16 id, .int .u16 fl, v2, v3, v4, v5]) zMsg := ⟨d.c.b, d.c.z, d.msg⟩
  exact ⟨_, rfl, (((((L0.set d.c.qb 0 (.int .u16 id)).set d.c.qb 1 (.int .u16 fl)).set d.c.qb 2 v2).set d.c.qb 3 v3).set d.c.qb 4 v4).set d.c.qb 5 v5⟩
theorem M6.at0 (d : M6 w0 w g m q B4 B5 ok2 ok3 ok4 s a e id fl v2 v3 v4 v5 qs ans auth add) : w.cell? ⟨m, 0, none⟩ = some (.int .u16 id) := d.c.x.is 0 rfl
theorem M6.at1 (d : M6 w0 w g m q B4 B5 ok2 ok3 ok4 s a e id fl v2 v3 v4 v5 qs ans auth add) : w.cell? ⟨m, 1, none⟩ = some (.int .u16 fl) := d.c.x.is 1 rfl
theorem M6.at2 (d : M6 w0 w g m q B4 B5 ok2 ok3 ok4 s a e id fl v2 v3 v4 v5 qs ans auth add) : w.cell? ⟨m, 2, none⟩ = some v2 := d.c.x.is 2 rfl
theorem M6.at3 (d : M6 w0 w g m q B4 B5 ok2 ok3 ok4 s a e id fl v2 v3 v4 v5 qs ans auth add) : w.cell? ⟨m, 3, none⟩ = some v3 := d.c.x.is 3 rfl
theorem M6.at4 (d : M6 w0 w g m q B4 B5 ok2 ok3 ok4 s a e id fl v2 v3 v4 v5 qs ans auth add) : w.cell? ⟨m, 4, none⟩ = some v4 := d.c.x.is 4 rfl
theorem M6.at5 (d : M6 w0 w g m q B4 B5 ok2 ok3 ok4 s a e id fl v2 v3 v4 v5 qs ans auth add) : w.cell? ⟨m, 5, none⟩ = some v5 := d.c.x.is 5 rfl
end
end Go.Proofs.Ytfoflodgegehfaa.M
set_option linter.unusedVariables false
set_option linter.unusedSimpArgs false
namespace Go.Proofs.Ytfoflodgegehfaa.M
open Go.RowKit Go.Maps Go.Proofs.YtfoflodgegehfaaW.PrintWords Go.Proofs.YtfoflodgegehfaaW.PrintLast Go.Proofs.YtfoflodgegehfaaW.PrintMore
attribute [local go_sem] max2_int min2_int max_two min_two max_three min_three max_four min_four
attribute [local go_sem ↓] Go.wp_at_zero Go.wp_at_succ
theorem met_ret {α : Type} (e : Int) (x : α) (a : Int) : Met6 (after6 e (.ok (x, a))) x a e := by
  by_cases c : e = 0
  · subst c
    exact .inl ⟨rfl, rfl⟩
  · exact .inr ⟨after6_err c _, c⟩
def stC (s : ByteArray) : Array Value := #[.string s, .int .i64 0, .int .i64 0]
theorem M6.start (w : World) (s : ByteArray) : M6 w (((w.alloc (.cells zMsg 35 (0, 0))).alloc (.cells (stC s) 78 (0, 0))).alloc (.cells zMsg 35 (0, 0))) (w.heap.size + 1) (w.heap.size + 1 + 1) w.heap.size w.heap.size w.heap.size (fun _ => True) (fun _ => True) (fun _ => True) s 0 0 0 0 (.slice none 0 0) (.slice none 0 0) (.slice none 0 0) (.slice none 0 0) [] [] [] [] := by
  have h1 : SAt (((w.alloc (.cells zMsg 35 (0, 0))).alloc (.cells (stC s) 78 (0, 0))).alloc (.cells zMsg 35 (0, 0))) w.heap.size zMsg 35 := by
    have := (SAt.new w zMsg 35).below (below_alloc (Below.refl _ _) (.cells (stC s) 78 (0, 0)))
    exact this.below (below_alloc (Below.refl _ _) _)
  have h2 : SAt (((w.alloc (.cells zMsg 35 (0, 0))).alloc (.cells (stC s) 78 (0, 0))).alloc (.cells zMsg 35 (0, 0))) (w.heap.size + 1) (stC s) 78 := by
    have := SAt.new (w.alloc (.cells zMsg 35 (0, 0))) (stC s) 78
    rw [show (w.alloc (.cells zMsg 35 (0, 0))).heap.size = w.heap.size + 1 by simp] at this
    exact this.below (below_alloc (Below.refl _ _) _)
  have h3 : SAt (((w.alloc (.cells zMsg 35 (0, 0))).alloc (.cells (stC s) 78 (0, 0))).alloc (.cells zMsg 35 (0, 0))) (w.heap.size + 1 + 1) zMsg 35 := by
    have := SAt.new ((w.alloc (.cells zMsg 35 (0, 0))).alloc (.cells (stC s) 78 (0, 0))) zMsg 35
    rw [show ((w.alloc (.cells zMsg 35 (0, 0))).alloc (.cells (stC s) 78 (0, 0))).heap.size = w.heap.size + 1 + 1 by simp] at this
    exact this
  exact ⟨⟨below_alloc (below_alloc (below_alloc (Below.refl _ _) _) _) _, h2, h3, h1, by omega, by omega, Nat.le_refl _, by omega⟩, Kd.R_nil _ _ _ _ _, Kd.R_nil _ _ _ _ _, Kd.R_nil _ _ _ _ _, Kd.R_nil _ _ _ _ _, Nat.le_refl _, by simp; omega, Nat.le_refl _, by simp; omega⟩
def Way6 (s : ByteArray) {α : Type} (RQ R : Except Int (α × Int)) (p e : Int) : Prop := (e = 0 ∧ R = RQ ∧ 0 ≤ p ∧ p ≤ s.size) ∨ (e ≠ 0 ∧ RQ = .error e)
theorem Way6.start {s : ByteArray} {α : Type} {R : Except Int (α × Int)} {p e : Int} (h : e = 0 → 0 ≤ p ∧ p ≤ s.size) : Way6 s (after6 e R) R p e := by
  by_cases c : e = 0
  · subst c
    exact .inl ⟨rfl, (after6_ok R).symm, h rfl⟩
  · exact .inr ⟨c, after6_err c R⟩
theorem Way6.exit {s : ByteArray} {α : Type} {RQ : Except Int (α × Int)} {x : α} {p e : Int} (h : Way6 s RQ (.ok (x, p)) p e) : Met6 RQ x p e ∧ (e = 0 → 0 ≤ p ∧ p ≤ s.size) := by
  rcases h with ⟨h1, h2, h3⟩ | ⟨h1, h2⟩
  · exact ⟨.inl ⟨h2.symm, h1⟩, fun _ => h3⟩
  · exact ⟨.inr ⟨h2, h1⟩, fun h => absurd h h1⟩
theorem Way6.err {s : ByteArray} {α : Type} {RQ R : Except Int (α × Int)} {x : α} {p e : Int} (h : Way6 s RQ R p e) (he : e ≠ 0) : Met6 RQ x p e ∧ (e = 0 → 0 ≤ p ∧ p ≤ s.size) := by
  rcases h with ⟨h1, -⟩ | ⟨h1, h2⟩
  · exact absurd h1 he
  · exact ⟨.inr ⟨h2, h1⟩, fun h => absurd h h1⟩
theorem num_at {s : ByteArray} {x a a' e e' n : Int} (h : Met6 (after6 e (numR s a n)) x a' e') : e' = 0 → 0 ≤ a' ∧ a' ≤ s.size := by
  intro he
  rcases met_step h with ⟨-, -, h⟩ | ⟨h, -⟩
  · obtain ⟨h1, rfl⟩ := numR_ok h
    have := get_at h1
    omega
  · exact absurd he h
theorem sum_at {s : ByteArray} {l a e e' : Int} (h : Met6 (after6 e (sumE l a)) () a e') (h0 : e = 0 → 0 ≤ a ∧ a ≤ s.size) : e' = 0 → 0 ≤ a ∧ a ≤ s.size := by
  intro he
  rcases met_step h with ⟨-, h, -⟩ | ⟨h, -⟩
  · exact h0 h
  · exact absurd he h
theorem ques_met {s nm : ByteArray} {p a1 e1 a2 e2 a3 e3 t c : Int} (G1 : Met6 (after6 0 (txtR s p)) nm a1 e1) (G2 : Met6 (after6 e1 (numR s a1 2)) t a2 e2) (G3 : Met6 (after6 e2 (numR s a2 2)) c a3 e3) : Met6 (quesR s p) ⟨nm, t, c⟩ a3 e3 := by
  have h : Met6 (after6 0 (quesR s p)) ⟨nm, t, c⟩ a3 e3 := by
    rw [quesR_bind]
    exact met_bind G1 (met_bind G2 (met_bind G3 (met_ret _ _ _)))
  rw [after6_ok] at h
  exact h
theorem ques_step {s : ByteArray} {RQ : Except Int (List Ques × Int)} {k : Nat} {qs : List Ques} {p a e : Int} {q : Ques} (h : quessR s (k + 1) qs p = RQ) (hm : Met6 (quesR s p) q a e) : Way6 s RQ (quessR s k (qs ++ [q]) a) a e := by
  subst h
  rw [show quessR s (k + 1) qs p = (match quesR s p with | .error c => .error c | .ok (q, a') => quessR s k (qs ++ [q]) a') from rfl]
  rcases hm with ⟨hm, he⟩ | ⟨hm, he⟩
  · rw [hm]
    exact .inl ⟨he, rfl, quesR_at hm⟩
  · rw [hm]
    exact .inr ⟨he, rfl⟩
theorem rec_step {s : ByteArray} {RQ : Except Int (List Rec × Int)} {k : Nat} {l : List Rec} {p a e : Int} {r : Rec} (h : recsR s (k + 1) l p = RQ) (hm : Met6 (recR s p) r a e) : Way6 s RQ (recsR s k (l ++ [r]) a) a e := by
  subst h
  rw [show recsR s (k + 1) l p = (match recR s p with | .error c => .error c | .ok (q, a') => recsR s k (l ++ [q]) a') from rfl]
  rcases hm with ⟨hm, he⟩ | ⟨hm, he⟩
  · rw [hm]
    exact .inl ⟨he, rfl, recR_at hm⟩
  · rw [hm]
    exact .inr ⟨he, rfl⟩
theorem msg6_met {s : ByteArray} {id fl a1 a2 a3 a4 a5 a6 e1 e2 e3 e4 e5 e6 e7 b1 b2 b3 b4 f1 f2 f3 f4 f5 : Int} {na nb nc nd : Nat} {qs : List Ques} {ans auth add : List Rec} (F1 : Met6 (after6 0 (numR s 0 2)) id a1 e1) (F2 : Met6 (after6 e1 (numR s a1 2)) fl a2 e2) (F3 : Met6 (after6 e2 (numR s a2 2)) (na : Int) a3 e3) (F4 : Met6 (after6 e3 (numR s a3 2)) (nb : Int) a4 e4) (F5 : Met6 (after6 e4 (numR s a4 2)) (nc : Int) a5 e5) (F6 : Met6 (after6 e5 (numR s a5 2)) (nd : Int) a6 e6)
    (F7 : Met6 (after6 e6 (sumE ((na : Int) + nb + nc + nd) a6)) () a6 e7) (G1 : Met6 (after6 e7 (quessR s na [] a6)) qs b1 f1) (G2 : Met6 (after6 f1 (recsR s nb [] b1)) ans b2 f2) (G3 : Met6 (after6 f2 (recsR s nc [] b2)) auth b3 f3) (G4 : Met6 (after6 f3 (recsR s nd [] b3)) add b4 f4) (G5 : Met6 (after6 f4 (lastE s b4)) () b4 f5) : Met6 (msgR s) ⟨id, fl, qs, ans, auth, add⟩ b4 f5 := by
  have h : Met6 (after6 0 (msgR s)) ⟨id, fl, qs, ans, auth, add⟩ b4 f5 := by
    rw [msgR_bind]
    exact met_bind F1 (met_bind F2 (met_bind F3 (met_bind F4 (met_bind F5 (met_bind F6 (met_bind F7 (met_bind G1 (met_bind G2 (met_bind G3 (met_bind G4 (met_bind G5 (met_ret _ _ _))))))))))))
  rw [after6_ok] at h
  exact h
theorem laid0 {w0 w : World} {g m q B4 B5 : Nat} {ok2 ok3 ok4 : Nat → Prop} {s : ByteArray} {a e id fl : Int} {v2 v3 v4 v5 : Value} {qs : List Ques} {ans auth add : List Rec} (d : M6 w0 w g m q B4 B5 ok2 ok3 ok4 s a e id fl v2 v3 v4 v5 qs ans auth add) :
    ∃ w9, w9 = (((((w.setCell ⟨q, 0, none⟩ (.int .u16 0)).setCell ⟨q, 1, none⟩ (.int .u16 0)).setCell ⟨q, 2, none⟩ (.slice none 0 0)).setCell ⟨q, 3, none⟩ (.slice none 0 0)).setCell ⟨q, 4, none⟩ (.slice none 0 0)).setCell ⟨q, 5, none⟩ (.slice none 0 0) ∧ Below w0.heap.size w0 w9 ∧ SAt w9 q zMsg 35 ∧ q = q ∧ St w9 g s a e := by
  have hq := d.c.qb
  have hg := Ne.symm d.c.qg
  exact ⟨_, rfl, (((((d.c.b.setCell hq _).setCell hq _).setCell hq _).setCell hq _).setCell hq _).setCell hq _, (((((d.c.z.set 0 (.int .u16 0)).set 1 (.int .u16 0)).set 2 (.slice none 0 0)).set 3 (.slice none 0 0)).set 4 (.slice none 0 0)).set 5 (.slice none 0 0), rfl, (((((d.c.st.far hg 0 _).far hg 1 _).far hg 2 _).far hg 3 _).far hg 4 _).far hg 5 _⟩
theorem post_err {s : ByteArray} {w w' : World} {M : Msg} {b c : Int} (hl : ¬ 65535 < s.size) (hm : Met6 (msgR s) M b c) (hc : c ≠ 0) (hb : Below w.heap.size w w') : ReadOwn (readF s) w (.returned (.tuple #[.agg zMsg, .int .i64 c])) w' := by
  rw [show readF s = (match msgR s with | .error c => (zM, c) | .ok (m, _) => (m, 0)) from if_neg hl]
  rcases hm with ⟨-, h⟩ | ⟨h, -⟩
  · exact absurd h hc
  · rw [h]
    exact ⟨⟨_, rfl, zM_own _ _⟩, hb⟩
theorem post_ok {s : ByteArray} {w w' : World} {M : Msg} {b : Int} {v : Value} (hl : ¬ 65535 < s.size) (hm : Met6 (msgR s) M b 0) (hp : MsgP w.heap.size M v w') (hb : Below w.heap.size w w') : ReadOwn (readF s) w (.returned (.tuple #[v, .int .i64 0])) w' := by
  rw [show readF s = (match msgR s with | .error c => (zM, c) | .ok (m, _) => (m, 0)) from if_neg hl]
  rcases hm with ⟨h, -⟩ | ⟨-, h⟩
  · rw [h]
    exact ⟨⟨_, rfl, hp⟩, hb⟩
  · exact absurd rfl h
set_option maxHeartbeats 8000000 in
set_option maxRecDepth 100000 in
theorem read6_reads (s : ByteArray) (w : World) (hs : s.size ≤ 1000000) :
    Calls Try.prog 26 #[.string s] w fun e w' => ReadOwn (readF s) w e w' := by
  by_cases hl : 65535 < s.size
  · have d1 : decide ((65535 : Int) < (s.size : Int)) = true := decide_eq_true (by omega)
    have d2 : decide (65535 < s.size) = true := decide_eq_true hl
    have hR : readF s = (zM, 3) := if_pos hl
    have HR := Lib.hid hR
    have hz := SAt.new w zMsg 35
    have hb := below_alloc (Below.refl w.heap.size w) (.cells zMsg 35 (0, 0))
    unfold zMsg at hz hb
    clear hl hR hs
    go_enter Try.func26, Try.ntmps26
    go_wp2_with fail
    generalize hW : w.alloc _ = w2 at *
    have r0 := hz.is 0 rfl
    have r1 := hz.is 1 rfl
    have r2 := hz.is 2 rfl
    have r3 := hz.is 3 rfl
    have r4 := hz.is 4 rfl
    have r5 := hz.is 5 rfl
    refine bodyPost_ret (v := .tuple #[.agg zMsg, .int .i64 3]) (by simp [results, Try.results26, go_sem, r0, r1, r2, r3, r4, r5, zMsg]) rfl ?_
    rw [HR.out]
    exact ⟨⟨_, rfl, zM_own _ _⟩, hb⟩
  have d1 : decide ((65535 : Int) < (s.size : Int)) = false := decide_eq_false (by omega)
  have d2 : decide (65535 < s.size) = false := decide_eq_false hl
  have HLs := Lib.hid hl
  have HS := Lib.hid hs
  have HD := Aside0.mk (M6.start w s)
  unfold zMsg stC at HD
  clear hs hl
  go_enter Try.func26, Try.ntmps26
  go_wp2_with fail
  generalize hW : ((w.alloc _).alloc _).alloc _ = w1 at *
  obtain ⟨m, hm⟩ : ∃ m, w.heap.size + 1 + 1 = m := ⟨_, rfl⟩
  obtain ⟨g, hg⟩ : ∃ g, w.heap.size + 1 = g := ⟨_, rfl⟩
  obtain ⟨q, hq⟩ : ∃ q, w.heap.size = q := ⟨_, rfl⟩
  have hd := HD.out
  rw [hm, hg] at hd
  simp only [hm]
  simp only [hg]
  clear HD hm hg hW
  have HQ := Lib.hid hq
  rw [hq] at hd
  simp only [hq]
  have HD := Aside0.mk hd
  clear hq hd
  have l0 := HD.out.at0
  have fz0 := HD.out.c.x.frozen 0
  have l1 := HD.out.at1
  have fz1 := HD.out.c.x.frozen 1
  have l2 := HD.out.at2
  have fz2 := HD.out.c.x.frozen 2
  have l3 := HD.out.at3
  have fz3 := HD.out.c.x.frozen 3
  have l4 := HD.out.at4
  have fz4 := HD.out.c.x.frozen 4
  have l5 := HD.out.at5
  have fz5 := HD.out.c.x.frozen 5
  have z0 := HD.out.c.st.c0
  have z1 := HD.out.c.st.c1
  have z2 := HD.out.c.st.c2
  have k2 : w1.frozen? ⟨g, 2, none⟩ = false := blk_frozen HD.out.c.st 2
  refine (num6_b HD.out.c.st HS.out (.inl ⟨rfl, rfl⟩)).mono ?_
  rintro r w2 ⟨ho, id, v, a1, e1, rfl, ⟨rfl, t0, t1⟩, hs2, hm⟩
  have F1 := Aside0.mk hm
  have HX := Aside0.mk (HD.out.go ho hs2)
  clear l0 l1 l2 l3 l4 l5 fz0 fz1 fz2 fz3 fz4 fz5 z0 z1 z2 k2
  clear ho hs2 hm HD
  have HD := HX
  clear HX
  have l0 := HD.out.at0
  have fz0 := HD.out.c.x.frozen 0
  have l1 := HD.out.at1
  have fz1 := HD.out.c.x.frozen 1
  have l2 := HD.out.at2
  have fz2 := HD.out.c.x.frozen 2
  have l3 := HD.out.at3
  have fz3 := HD.out.c.x.frozen 3
  have l4 := HD.out.at4
  have fz4 := HD.out.c.x.frozen 4
  have l5 := HD.out.at5
  have fz5 := HD.out.c.x.frozen 5
  have z0 := HD.out.c.st.c0
  have z1 := HD.out.c.st.c1
  have z2 := HD.out.c.st.c2
  have k2 : w2.frozen? ⟨g, 2, none⟩ = false := blk_frozen HD.out.c.st 2
  have hw : IntKind.u16.wrap id = id := by rw [IntKind.wrap_u16]; omega
  have HY := Aside0.mk (HD.out.head 0 (u := .int .u16 id) rfl)
  clear t0 t1
  go_wp2_with fail
  generalize hW : w2.setCell ⟨m, 0, none⟩ (.int .u16 id) = w3 at *
  clear l0 l1 l2 l3 l4 l5 fz0 fz1 fz2 fz3 fz4 fz5 z0 z1 z2 k2
  clear HD hW hw
  have HD := HY
  clear HY
  have l0 := HD.out.at0
  have fz0 := HD.out.c.x.frozen 0
  have l1 := HD.out.at1
  have fz1 := HD.out.c.x.frozen 1
  have l2 := HD.out.at2
  have fz2 := HD.out.c.x.frozen 2
  have l3 := HD.out.at3
  have fz3 := HD.out.c.x.frozen 3
  have l4 := HD.out.at4
  have fz4 := HD.out.c.x.frozen 4
  have l5 := HD.out.at5
  have fz5 := HD.out.c.x.frozen 5
  have z0 := HD.out.c.st.c0
  have z1 := HD.out.c.st.c1
  have z2 := HD.out.c.st.c2
  have k2 : w3.frozen? ⟨g, 2, none⟩ = false := blk_frozen HD.out.c.st 2
  refine (num6_b HD.out.c.st HS.out (.inl ⟨rfl, rfl⟩)).mono ?_
  rintro r w4 ⟨ho, fl, v, a2, e2, rfl, ⟨rfl, t0, t1⟩, hs2, hm⟩
  have F2 := Aside0.mk hm
  have HX := Aside0.mk (HD.out.go ho hs2)
  clear l0 l1 l2 l3 l4 l5 fz0 fz1 fz2 fz3 fz4 fz5 z0 z1 z2 k2
  clear ho hs2 hm HD
  have HD := HX
  clear HX
  have l0 := HD.out.at0
  have fz0 := HD.out.c.x.frozen 0
  have l1 := HD.out.at1
  have fz1 := HD.out.c.x.frozen 1
  have l2 := HD.out.at2
  have fz2 := HD.out.c.x.frozen 2
  have l3 := HD.out.at3
  have fz3 := HD.out.c.x.frozen 3
  have l4 := HD.out.at4
  have fz4 := HD.out.c.x.frozen 4
  have l5 := HD.out.at5
  have fz5 := HD.out.c.x.frozen 5
  have z0 := HD.out.c.st.c0
  have z1 := HD.out.c.st.c1
  have z2 := HD.out.c.st.c2
  have k2 : w4.frozen? ⟨g, 2, none⟩ = false := blk_frozen HD.out.c.st 2
  have hw : IntKind.u16.wrap fl = fl := by rw [IntKind.wrap_u16]; omega
  have HY := Aside0.mk (HD.out.head 1 (u := .int .u16 fl) rfl)
  clear t0 t1
  go_wp2_with fail
  generalize hW : w4.setCell ⟨m, 1, none⟩ (.int .u16 fl) = w5 at *
  clear l0 l1 l2 l3 l4 l5 fz0 fz1 fz2 fz3 fz4 fz5 z0 z1 z2 k2
  clear HD hW hw
  have HD := HY
  clear HY
  have l0 := HD.out.at0
  have fz0 := HD.out.c.x.frozen 0
  have l1 := HD.out.at1
  have fz1 := HD.out.c.x.frozen 1
  have l2 := HD.out.at2
  have fz2 := HD.out.c.x.frozen 2
  have l3 := HD.out.at3
  have fz3 := HD.out.c.x.frozen 3
  have l4 := HD.out.at4
  have fz4 := HD.out.c.x.frozen 4
  have l5 := HD.out.at5
  have fz5 := HD.out.c.x.frozen 5
  have z0 := HD.out.c.st.c0
  have z1 := HD.out.c.st.c1
  have z2 := HD.out.c.st.c2
  have k2 : w5.frozen? ⟨g, 2, none⟩ = false := blk_frozen HD.out.c.st 2
  refine (num6_b HD.out.c.st HS.out (.inl ⟨rfl, rfl⟩)).mono ?_
  rintro r w6 ⟨ho, na, v, a3, e3, rfl, ⟨rfl, t0, t1⟩, hs2, hm⟩
  have F3 := Aside0.mk hm
  have HX := Aside0.mk (HD.out.go ho hs2)
  clear l0 l1 l2 l3 l4 l5 fz0 fz1 fz2 fz3 fz4 fz5 z0 z1 z2 k2
  clear ho hs2 hm HD
  have HD := HX
  clear HX
  have l0 := HD.out.at0
  have fz0 := HD.out.c.x.frozen 0
  have l1 := HD.out.at1
  have fz1 := HD.out.c.x.frozen 1
  have l2 := HD.out.at2
  have fz2 := HD.out.c.x.frozen 2
  have l3 := HD.out.at3
  have fz3 := HD.out.c.x.frozen 3
  have l4 := HD.out.at4
  have fz4 := HD.out.c.x.frozen 4
  have l5 := HD.out.at5
  have fz5 := HD.out.c.x.frozen 5
  have z0 := HD.out.c.st.c0
  have z1 := HD.out.c.st.c1
  have z2 := HD.out.c.st.c2
  have k2 : w6.frozen? ⟨g, 2, none⟩ = false := blk_frozen HD.out.c.st 2
  obtain ⟨na, rfl⟩ : ∃ n : Nat, na = n := ⟨na.toNat, by omega⟩
  have na1 : (na : Int) ≤ 65535 := t1
  clear t0 t1
  go_wp2_with fail
  refine (num6_b HD.out.c.st HS.out (.inl ⟨rfl, rfl⟩)).mono ?_
  rintro r w7 ⟨ho, nb, v, a4, e4, rfl, ⟨rfl, t0, t1⟩, hs2, hm⟩
  have F4 := Aside0.mk hm
  have HX := Aside0.mk (HD.out.go ho hs2)
  clear l0 l1 l2 l3 l4 l5 fz0 fz1 fz2 fz3 fz4 fz5 z0 z1 z2 k2
  clear ho hs2 hm HD
  have HD := HX
  clear HX
  have l0 := HD.out.at0
  have fz0 := HD.out.c.x.frozen 0
  have l1 := HD.out.at1
  have fz1 := HD.out.c.x.frozen 1
  have l2 := HD.out.at2
  have fz2 := HD.out.c.x.frozen 2
  have l3 := HD.out.at3
  have fz3 := HD.out.c.x.frozen 3
  have l4 := HD.out.at4
  have fz4 := HD.out.c.x.frozen 4
  have l5 := HD.out.at5
  have fz5 := HD.out.c.x.frozen 5
  have z0 := HD.out.c.st.c0
  have z1 := HD.out.c.st.c1
  have z2 := HD.out.c.st.c2
  have k2 : w7.frozen? ⟨g, 2, none⟩ = false := blk_frozen HD.out.c.st 2
  obtain ⟨nb, rfl⟩ : ∃ n : Nat, nb = n := ⟨nb.toNat, by omega⟩
  have nb1 : (nb : Int) ≤ 65535 := t1
  clear t0 t1
  go_wp2_with fail
  refine (num6_b HD.out.c.st HS.out (.inl ⟨rfl, rfl⟩)).mono ?_
  rintro r w8 ⟨ho, nc, v, a5, e5, rfl, ⟨rfl, t0, t1⟩, hs2, hm⟩
  have F5 := Aside0.mk hm
  have HX := Aside0.mk (HD.out.go ho hs2)
  clear l0 l1 l2 l3 l4 l5 fz0 fz1 fz2 fz3 fz4 fz5 z0 z1 z2 k2
  clear ho hs2 hm HD
  have HD := HX
  clear HX
  have l0 := HD.out.at0
  have fz0 := HD.out.c.x.frozen 0
  have l1 := HD.out.at1
  have fz1 := HD.out.c.x.frozen 1
  have l2 := HD.out.at2
  have fz2 := HD.out.c.x.frozen 2
  have l3 := HD.out.at3
  have fz3 := HD.out.c.x.frozen 3
  have l4 := HD.out.at4
  have fz4 := HD.out.c.x.frozen 4
  have l5 := HD.out.at5
  have fz5 := HD.out.c.x.frozen 5
  have z0 := HD.out.c.st.c0
  have z1 := HD.out.c.st.c1
  have z2 := HD.out.c.st.c2
  have k2 : w8.frozen? ⟨g, 2, none⟩ = false := blk_frozen HD.out.c.st 2
  obtain ⟨nc, rfl⟩ : ∃ n : Nat, nc = n := ⟨nc.toNat, by omega⟩
  have nc1 : (nc : Int) ≤ 65535 := t1
  clear t0 t1
  go_wp2_with fail
  refine (num6_b HD.out.c.st HS.out (.inl ⟨rfl, rfl⟩)).mono ?_
  rintro r w9 ⟨ho, nd, v, a6, e6, rfl, ⟨rfl, t0, t1⟩, hs2, hm⟩
  have F6 := Aside0.mk hm
  have HX := Aside0.mk (HD.out.go ho hs2)
  clear l0 l1 l2 l3 l4 l5 fz0 fz1 fz2 fz3 fz4 fz5 z0 z1 z2 k2
  clear ho hs2 hm HD
  have HD := HX
  clear HX
  have l0 := HD.out.at0
  have fz0 := HD.out.c.x.frozen 0
  have l1 := HD.out.at1
  have fz1 := HD.out.c.x.frozen 1
  have l2 := HD.out.at2
  have fz2 := HD.out.c.x.frozen 2
  have l3 := HD.out.at3
  have fz3 := HD.out.c.x.frozen 3
  have l4 := HD.out.at4
  have fz4 := HD.out.c.x.frozen 4
  have l5 := HD.out.at5
  have fz5 := HD.out.c.x.frozen 5
  have z0 := HD.out.c.st.c0
  have z1 := HD.out.c.st.c1
  have z2 := HD.out.c.st.c2
  have k2 : w9.frozen? ⟨g, 2, none⟩ = false := blk_frozen HD.out.c.st 2
  obtain ⟨nd, rfl⟩ : ∃ n : Nat, nd = n := ⟨nd.toNat, by omega⟩
  have nd1 : (nd : Int) ≤ 65535 := t1
  clear t0 t1
  go_upto_region 11 with fail
  obtain ⟨bs, hbs⟩ : ∃ b, decide (e6 = 0 ∧ 256 < (na : Int) + nb + nc + nd) = b := ⟨_, rfl⟩
  have HBs := Lib.hid hbs
  go_cut [53] (fun s53 wc => s53 = .bool bs ∧ Aside0 (wc = w9))
  case first =>
    by_cases c6 : e6 = 0
    case neg =>
      have d3 : (e6 == 0) = false := beq_eq_false_iff_ne.mpr c6
      obtain rfl : bs = false := by rw [← hbs]; exact decide_eq_false (fun h => c6 h.1)
      clear c6 hbs
      go_wp2_with fail
      go_meet
      exact ⟨rfl, ⟨rfl⟩⟩
    case pos =>
      have d3 : (e6 == 0) = true := beq_iff_eq.mpr c6
      by_cases c7 : 256 < (na : Int) + nb + nc + nd
      · have d4 : decide (256 < (na : Int) + nb + nc + nd) = true := decide_eq_true c7
        obtain rfl : bs = true := by rw [← hbs]; exact decide_eq_true ⟨c6, c7⟩
        clear c6 c7 hbs
        go_wp2_with fail
        go_meet
        exact ⟨rfl, ⟨rfl⟩⟩
      · have d4 : decide (256 < (na : Int) + nb + nc + nd) = false := decide_eq_false c7
        obtain rfl : bs = false := by rw [← hbs]; exact decide_eq_false (fun h => c7 h.2)
        clear c6 c7 hbs
        go_wp2_with fail
        go_meet
        exact ⟨rfl, ⟨rfl⟩⟩
  case rest =>
    obtain ⟨rfl, hwc⟩ := hcut
    obtain rfl := hwc.out
    clear hwc hbs
    go_upto_if 53 with fail
    go_cut [] (fun wc => ∃ e7 : Int, Aside0 (Met6 (after6 e6 (sumE ((na : Int) + nb + nc + nd) a6)) () a6 e7) ∧ Aside0 (M6 w wc g m q q q (fun _ => True) (fun _ => True) (fun _ => True) s a6 e7 id fl (.slice none 0 0) (.slice none 0 0) (.slice none 0 0) (.slice none 0 0) [] [] [] []))
    case first =>
      have hbs := HBs.out
      cases bs with
      | true =>
        have hb := of_decide_eq_true hbs
        have HM : Aside0 (Met6 (after6 e6 (sumE ((na : Int) + nb + nc + nd) a6)) () a6 6) := ⟨.inr ⟨by rw [hb.1, after6_ok]; exact if_pos hb.2, by decide⟩⟩
        have HD2 := Aside0.mk (HD.out.sete 6)
        clear hbs hb
        go_wp2_with fail
        go_meet
        exact ⟨6, HM, HD2⟩
      | false =>
        have hb := of_decide_eq_false hbs
        have HM : Aside0 (Met6 (after6 e6 (sumE ((na : Int) + nb + nc + nd) a6)) () a6 e6) := ⟨by
          by_cases c6 : e6 = 0
          · subst c6
            exact .inl ⟨by rw [after6_ok]; exact if_neg (fun h => hb ⟨rfl, h⟩), rfl⟩
          · exact .inr ⟨after6_err c6 _, c6⟩⟩
        clear hbs hb
        go_wp2_with fail
        go_meet
        exact ⟨e6, HM, HD⟩
    case rest =>
      clear l0 l1 l2 l3 l4 l5 fz0 fz1 fz2 fz3 fz4 fz5 z0 z1 z2 k2
      clear HD HBs
      obtain ⟨e7, F7, HD⟩ := hcut
      go_upto_block 0 with fail
      go_cut [10] (fun v10 wc => ∃ (qs : List Ques) (b1 f1 : Int) (v2 : Value), Aside0 (Met6 (after6 e7 (quessR s na [] a6)) qs b1 f1 ∧ (f1 = 0 → 0 ≤ b1 ∧ b1 ≤ s.size)) ∧ Aside0 (M6 w wc g m q q q (fun _ => True) (fun _ => True) (fun _ => True) s b1 f1 id fl v2 (.slice none 0 0) (.slice none 0 0) (.slice none 0 0) qs [] [] []))
      case first =>
        obtain ⟨RQ, hRQ⟩ : ∃ RQ, after6 e7 (quessR s na [] a6) = RQ := ⟨_, rfl⟩
        have hW := Way6.start (R := quessR s na [] a6) (sum_at F7.out (num_at F6.out))
        rw [hRQ] at hW
        have HRQ := Lib.hid hRQ
        have HW := Aside0.mk hW
        clear hRQ hW F7 F6 F5 F4 F3 F2 F1
        go_wp2_with fail
        go_loopg [10] na (fun kq v10 w' => ∃ (i : Nat) (qs : List Ques) (p e : Int) (v2 : Value), v10 = .int .i64 i ∧ Aside0 (Way6 s RQ (quessR s kq qs p) p e) ∧ Aside0 (kq + i = na) ∧ Aside0 (qs.length = i) ∧ Aside0 (M6 w w' g m q q q (fun _ => True) (fun _ => True) (fun _ => True) s p e id fl v2 (.slice none 0 0) (.slice none 0 0) (.slice none 0 0) qs [] [] []))
        case atStart => exact ⟨0, [], a6, e7, _, rfl, HW, ⟨rfl⟩, ⟨rfl⟩, HD⟩
        case round =>
          clear HW HD
          obtain ⟨i, qs, p, e, v2, rfl, HW, HK, HL, HD⟩ := hrel
          obtain ⟨A2, n2, c2, rfl⟩ := R_anyslice HD.out.r2
          have q0 : (i : Int) ≤ 65535 := by have := HK.out; omega
          have l0 := HD.out.at0
          have fz0 := HD.out.c.x.frozen 0
          have l1 := HD.out.at1
          have fz1 := HD.out.c.x.frozen 1
          have l2 := HD.out.at2
          have fz2 := HD.out.c.x.frozen 2
          have l3 := HD.out.at3
          have fz3 := HD.out.c.x.frozen 3
          have l4 := HD.out.at4
          have fz4 := HD.out.c.x.frozen 4
          have l5 := HD.out.at5
          have fz5 := HD.out.c.x.frozen 5
          have z0 := HD.out.c.st.c0
          have z1 := HD.out.c.st.c1
          have z2 := HD.out.c.st.c2
          have k2 : wr.frozen? ⟨g, 2, none⟩ = false := blk_frozen HD.out.c.st 2
          cases gk with
          | zero =>
            obtain rfl : i = na := by have := HK.out; omega
            go_wp2_with fail
            go_meet
            exact ⟨qs, p, e, _, ⟨by rw [HRQ.out]; exact Way6.exit HW.out⟩, HD⟩
          | succ k =>
            have q1 : (i : Int) < (na : Int) := by have := HK.out; omega
            by_cases c0 : e = 0
            case neg =>
              have d3 : (e == 0) = false := beq_eq_false_iff_ne.mpr c0
              have HM := Aside0.mk (Way6.err (x := qs) HW.out c0)
              clear c0
              go_wp2_with fail
              go_meet
              exact ⟨qs, p, e, _, ⟨by rw [HRQ.out]; exact HM.out⟩, HD⟩
            case pos =>
              subst c0
              have d3 : ((0 : Int) == 0) = true := rfl
              obtain ⟨-, hE, hp0, hp1⟩ := HW.out.resolve_right (fun h => h.1 rfl)
              have HE := Aside0.mk hE
              have HP := Lib.hid (And.intro hp0 hp1)
              clear hE hp0 hp1 HW
              go_wp2_with fail
              refine (name6_any HD.out.c.st HS.out (fun _ => HP.out)).mono ?_
              rintro r w2 ⟨ho, nm, v, a1, e1, rfl, ⟨rfl, hnm⟩, hs1, hm⟩
              have G1 := Aside0.mk hm
              have HD1 := Aside0.mk ((HD.out.go ho hs1).quesBox (.cells #[.string nm, .int .u16 0, .int .u16 0] 63 (0, 0)))
              have HX := Aside0.mk (SAt.new w2 #[.string nm, .int .u16 0, .int .u16 0] 63)
              have HB := Lib.hid (show q ≤ w2.heap.size by have := (HD.out.go ho hs1).c.b.size; rw [HQ.out] at this; exact this)
              clear l0 l1 l2 l3 l4 l5 fz0 fz1 fz2 fz3 fz4 fz5 z0 z1 z2 k2
              clear ho hs1 hm hnm HD
              go_wp2_with fail
              generalize hW : w2.alloc (.cells #[.string nm, .int .u16 0, .int .u16 0] 63 (0, 0)) = w3 at *
              obtain ⟨b, hb⟩ : ∃ b, w2.heap.size = b := ⟨_, rfl⟩
              rw [hb] at HD1 HX HB
              simp only [hb]
              clear hb hW
              refine (num6_b HD1.out.c.st HS.out (.inl ⟨rfl, rfl⟩)).mono ?_
              rintro r w4 ⟨ho, tt, v, a2, e2, rfl, ⟨rfl, t0, t1⟩, hs2, hm⟩
              have G2 := Aside0.mk hm
              have HD2 := Aside0.mk (HD1.out.go ho hs2)
              have HX2 := Aside0.mk (ho.at_ HX.out (HX.out.ne6 HD1.out.c.st (by decide)))
              have hw : IntKind.u16.wrap tt = tt := by rw [IntKind.wrap_u16]; omega
              have y := SAt.is (w := w4) HX2.out 1 rfl
              have fy := SAt.frozen (w := w4) HX2.out 1
              have HD3 := Aside0.mk (HD2.out.quesSet HX2.out (by rw [HQ.out]; exact HB.out) (fun _ hk => hk.2) 1 (.int .u16 tt))
              have HX3 := Aside0.mk (show SAt (w4.setCell ⟨b, 1, none⟩ (.int .u16 tt)) b #[.string nm, .int .u16 tt, .int .u16 0] 63 from SAt.set (w := w4) HX2.out 1 (.int .u16 tt))
              clear ho hs2 hm HD1 HX HX2 HD2 t0 t1
              go_wp2_with fail
              generalize hW : w4.setCell ⟨b, 1, none⟩ (.int .u16 tt) = w5 at *
              clear hW hw y fy
              have HD1 := HD3
              have HX := HX3
              clear HD3 HX3
              refine (num6_b HD1.out.c.st HS.out (.inl ⟨rfl, rfl⟩)).mono ?_
              rintro r w6 ⟨ho, cc, v, a3, e3, rfl, ⟨rfl, t0, t1⟩, hs2, hm⟩
              have G3 := Aside0.mk hm
              have HD2 := Aside0.mk (HD1.out.go ho hs2)
              have HX2 := Aside0.mk (ho.at_ HX.out (HX.out.ne6 HD1.out.c.st (by decide)))
              have hw : IntKind.u16.wrap cc = cc := by rw [IntKind.wrap_u16]; omega
              have y := SAt.is (w := w6) HX2.out 2 rfl
              have fy := SAt.frozen (w := w6) HX2.out 2
              have HD3 := Aside0.mk (HD2.out.quesSet HX2.out (by rw [HQ.out]; exact HB.out) (fun _ hk => hk.2) 2 (.int .u16 cc))
              have HX3 := Aside0.mk (show SAt (w6.setCell ⟨b, 2, none⟩ (.int .u16 cc)) b #[.string nm, .int .u16 tt, .int .u16 cc] 63 from SAt.set (w := w6) HX2.out 2 (.int .u16 cc))
              clear ho hs2 hm HD1 HX HX2 HD2 t0 t1
              go_upto_region 19 with fail
              generalize hW : w6.setCell ⟨b, 2, none⟩ (.int .u16 cc) = w7 at *
              clear hW hw y fy
              have HD1 := HD3
              have HX := HX3
              clear HD3 HX3
              have HM := Aside0.mk (ques_step HE.out (ques_met G1.out G2.out G3.out))
              have HL1 := Aside0.mk (show (qs.length + 1) * 24 ≤ 140737488355328 by have := HL.out; omega)
              clear G1 G2 G3 HE
              have l0 := HD1.out.at0
              have fz0 := HD1.out.c.x.frozen 0
              have l1 := HD1.out.at1
              have fz1 := HD1.out.c.x.frozen 1
              have l2 := HD1.out.at2
              have fz2 := HD1.out.c.x.frozen 2
              have l3 := HD1.out.at3
              have fz3 := HD1.out.c.x.frozen 3
              have l4 := HD1.out.at4
              have fz4 := HD1.out.c.x.frozen 4
              have l5 := HD1.out.at5
              have fz5 := HD1.out.c.x.frozen 5
              have z0 := HD1.out.c.st.c0
              have z1 := HD1.out.c.st.c1
              have z2 := HD1.out.c.st.c2
              have k2 : w7.frozen? ⟨g, 2, none⟩ = false := blk_frozen HD1.out.c.st 2
              have x0 := HX.out.is 0 rfl
              have x1 := HX.out.is 1 rfl
              have x2 := HX.out.is 2 rfl
              go_wp2_with ((with_reducible refine gate_builtin (b := .append) (xs := #[.tmp 81, .tmp 83]) rfl ?_); at_builtin; go_must (refine Kd.R_append kQues (w0 := w7) w.heap.size rfl (.tmp 81) (.tmp 83) 32 63 (.agg #[(.string ⟨#[]⟩), (.int .u16 0), (.int .u16 0)]) 24 rfl Try.underlying32 infoQues rfl (by decide) (by decide) (.slice A2 n2 c2) qs ⟨nm, tt, cc⟩ [.string nm, .int .u16 tt, .int .u16 cc] (fun k => True ∧ k ≠ b) (fun _ => False) rfl rfl (kQues_mkM w7 _ _ _) (fun _ hk => hk.elim) (fun k hk => ⟨trivial, by have := HX.out.lt; omega⟩) HD1.out.r2 (Below.refl _ _) HD1.out.c.b.size HL1.out ?_; intro va wa hoa hba hga hata; obtain ⟨A3, n3, c3, rfl⟩ := R_anyslice hoa; have HD4 := Aside0.mk (HD1.out.app2 (Kd.R_mono hoa (fun _ _ => trivial)) hga); have m2 := SAt.is (w := wa) (blk_grown HD1.out.c.x hga (Kd.R_ne HD1.out.r2 HD1.out.c.x (by decide))) 2 rfl; have g2 := SAt.frozen (w := wa) (blk_grown HD1.out.c.x hga (Kd.R_ne HD1.out.r2 HD1.out.c.x (by decide))) 2; clear hoa hba hga hata))
              go_roundg k
              case measure => omega
              case rel => exact ⟨i + 1, _, a3, e3, _, by go_num, HM, ⟨by have := HK.out; omega⟩, ⟨by have := HL.out; rw [List.length_append, List.length_singleton]; omega⟩, HD4⟩
      case rest =>
        clear HD
        obtain ⟨qs, b1, f1, v2, G1, HD⟩ := hcut
        go_upto_block 2 with fail
        go_cut [12] (fun vs wc => ∃ (ans : List Rec) (b2 f2 : Int) (v3 : Value), Aside0 (Met6 (after6 f1 (recsR s nb [] b1)) ans b2 f2 ∧ (f2 = 0 → 0 ≤ b2 ∧ b2 ≤ s.size)) ∧ Aside0 (M6 w wc g m q q q (fun _ => True) (fun _ => True) (fun _ => True) s b2 f2 id fl v2 v3 (.slice none 0 0) (.slice none 0 0) qs ans [] []))
        case first =>
          obtain ⟨RQ, hRQ⟩ : ∃ RQ, after6 f1 (recsR s nb [] b1) = RQ := ⟨_, rfl⟩
          have hW := Way6.start (R := recsR s nb [] b1) G1.out.2
          rw [hRQ] at hW
          have HRQ := Lib.hid hRQ
          have HW := Aside0.mk hW
          clear hRQ hW G1
          go_wp2_with fail
          go_loopg [12] nb (fun kq vs w' => ∃ (i : Nat) (l : List Rec) (p e : Int) (v : Value), vs = .int .i64 i ∧ Aside0 (Way6 s RQ (recsR s kq l p) p e) ∧ Aside0 (kq + i = nb) ∧ Aside0 (l.length = i) ∧ Aside0 (M6 w w' g m q q q (fun _ => True) (fun _ => True) (fun _ => True) s p e id fl v2 v (.slice none 0 0) (.slice none 0 0) qs l [] []))
          case atStart => exact ⟨0, [], b1, f1, _, rfl, HW, ⟨rfl⟩, ⟨rfl⟩, HD⟩
          case round =>
            clear HW HD
            obtain ⟨i, l, p, e, v, rfl, HW, HK, HL, HD⟩ := hrel
            obtain ⟨A3, n3, c3, rfl⟩ := R_anyslice HD.out.r3
            have q0 : (i : Int) ≤ 65535 := by have := HK.out; omega
            have l0 := HD.out.at0
            have fz0 := HD.out.c.x.frozen 0
            have l1 := HD.out.at1
            have fz1 := HD.out.c.x.frozen 1
            have l2 := HD.out.at2
            have fz2 := HD.out.c.x.frozen 2
            have l3 := HD.out.at3
            have fz3 := HD.out.c.x.frozen 3
            have l4 := HD.out.at4
            have fz4 := HD.out.c.x.frozen 4
            have l5 := HD.out.at5
            have fz5 := HD.out.c.x.frozen 5
            have z0 := HD.out.c.st.c0
            have z1 := HD.out.c.st.c1
            have z2 := HD.out.c.st.c2
            have k2 : wr.frozen? ⟨g, 2, none⟩ = false := blk_frozen HD.out.c.st 2
            cases gk with
            | zero =>
              obtain rfl : i = nb := by have := HK.out; omega
              go_wp2_with fail
              go_meet
              exact ⟨l, p, e, _, ⟨by rw [HRQ.out]; exact Way6.exit HW.out⟩, HD⟩
            | succ k =>
              have q1 : (i : Int) < (nb : Int) := by have := HK.out; omega
              by_cases c0 : e = 0
              case neg =>
                have d3 : (e == 0) = false := beq_eq_false_iff_ne.mpr c0
                have HM := Aside0.mk (Way6.err (x := l) HW.out c0)
                clear c0
                go_wp2_with fail
                go_meet
                exact ⟨l, p, e, _, ⟨by rw [HRQ.out]; exact HM.out⟩, HD⟩
              case pos =>
                subst c0
                have d3 : ((0 : Int) == 0) = true := rfl
                obtain ⟨-, hE, hp0, hp1⟩ := HW.out.resolve_right (fun h => h.1 rfl)
                have HE := Aside0.mk hE
                have HP := Lib.hid (And.intro hp0 hp1)
                clear hE hp0 hp1 HW
                go_wp2_with fail
                refine dr_start (fun w' => w'.cell? ⟨m, 3, none⟩ = some (.slice A3 n3 c3)) [7] (by kernel_rfl) l3 (fun hS => ?_)
                repeat (first | (refine dr_pure (by kernel_rfl) (by rfl) (fun _ _ _ h => h) (v := ?_) (a' := ?_) ?_ ?_ ?_; rotate_left 2; (focus (intro w'; go_simp; with_reducible rfl)); (focus (simp only [Act.put, List.setIfInBounds_toArray, List.set_cons_zero, List.set_cons_succ]; rfl))) | (refine dr_take (by kernel_rfl) (by rfl) (fun _ _ _ h => h) hS (v := ?_) (a' := ?_) ?_ ?_ ?_; rotate_left 2; (focus (intro w' hS'; go_simp; with_reducible rfl)); (focus (simp only [Act.put, List.setIfInBounds_toArray, List.set_cons_zero, List.set_cons_succ]; rfl))) | (refine dr_off (by kernel_rfl) (by rfl) (fun _ _ _ h => h) (a' := ?_) ?_ ?_; rotate_left; (focus (simp only [Act.put, List.setIfInBounds_toArray, List.set_cons_zero, List.set_cons_succ]; rfl))))
                refine dr_call Try.func40 (by kernel_rfl) rfl rfl (by kernel_rfl) (by kernel_rfl) (by rfl) (args := #[.pointer (some ⟨g, 0, none⟩)]) (by first | rfl | kernel_rfl | (simp [Act.eval]; done)) ?_
                have HDd := Aside0.mk HD.out.drew
                refine (record6_calls HDd.out.c.st HS.out HP.out.1 HP.out.2).mono ?_
                rintro r w2 ⟨ho, rc, v, a1, e1, rfl, hp, hs1, hm⟩
                obtain ⟨v4', v5', v6', rfl, h4, h5, h6⟩ := hp
                have HM := Aside0.mk (rec_step HE.out hm)
                have HD1 := Aside0.mk (HDd.out.go ho hs1)
                have hsz := HDd.out.c.b.size
                have H4 := Aside0.mk (Kd.R_apartR (Kd.R_lower h4 hsz) HD1.out.r3 (by decide))
                have H5 := Aside0.mk (Kd.R_apartR (Kd.R_lower h5 hsz) HD1.out.r3 (by intro q hq; rw [show q = 81 by simpa [Kd.int, Kd.scalar] using hq]; decide))
                have H6 := Aside0.mk (Kd.R_apartR (Kd.R_lower h6 hsz) HD1.out.r3 (by decide))
                have HL1 := Lib.hid (show (l.length + 1) * 96 ≤ 140737488355328 by have := HL.out; omega)
                obtain ⟨A4, n4, c4, rfl⟩ := R_anyslice h4
                obtain ⟨A5, n5, c5, rfl⟩ := R_anyslice h5
                obtain ⟨A6, n6, c6, rfl⟩ := R_anyslice h6
                clear l0 l1 l2 l3 l4 l5 fz0 fz1 fz2 fz3 fz4 fz5 z0 z1 z2 k2
                clear hsz ho hs1 hm h4 h5 h6 hS HE HDd HD
                refine .inl ⟨_, rfl, HD1.out.at3, fun hS => ?_⟩
                refine dr_norm (a' := ?_) ?_ ?_
                rotate_left
                · simp only [Act.put, List.setIfInBounds_toArray, List.set_cons_zero, List.set_cons_succ]; rfl
                refine dr_val (.slice (some ⟨w2.heap.size, 0, none⟩) 1 1) (w2.alloc (.cells #[.string rc.f0, .int .u16 rc.f1, .int .u16 rc.f2, .int .u32 rc.f3, .slice A4 n4 c4, .slice A5 n5 c5, .slice A6 n6 c6] 85)) (by kernel_rfl) (by kernel_rfl) (by rfl) (by go_simp; done) (HD1.out.below (below_alloc (Below.refl _ _) _)).at3 (by simp only [Act.put, List.setIfInBounds_toArray, List.set_cons_zero, List.set_cons_succ]; rfl) (fun hS => ?_)
                refine dr_one (by kernel_rfl) (by kernel_rfl) (fun K hK => ?_)
                refine Kd.R_append_step kRec (w0 := w2) w.heap.size (by kernel_rfl) (.tmp 99) (.tmp 102) 33 85 (.agg #[(.string ⟨#[]⟩), (.int .u16 0), (.int .u16 0), (.int .u32 0), (.slice none 0 0), (.slice none 0 0), (.slice none 0 0)]) 96 (by rfl) Try.underlying33 infoRec rfl (by decide) (by decide) (.slice A3 n3 c3) l rc [.string rc.f0, .int .u16 rc.f1, .int .u16 rc.f2, .int .u32 rc.f3, .slice A4 n4 c4, .slice A5 n5 c5, .slice A6 n6 c6] (fun _ => True) (fun k => True ∧ some k ≠ (Value.slice A3 n3 c3).ownBlock) (by rfl) (by rfl) (kRec_mkM w2 w.heap.size _ rc H4.out H5.out H6.out) (fun k hk => ⟨trivial, hk.2⟩) (fun _ _ => trivial) HD1.out.r3 (Below.refl _ _) HD1.out.c.b.size HL1.out ?_
                intro v7 w7 ho3 hb3 hg3 _
                obtain ⟨A7, n7, c7, rfl⟩ := R_anyslice ho3
                have HD2 := Aside0.mk (HD1.out.app3 ho3 hg3)
                have hx : SAt w7 m _ _ := blk_grown HD1.out.c.x hg3 (Kd.R_ne HD1.out.r3 HD1.out.c.x (by decide))
                have m6 : w7.cell? ⟨m, 3, none⟩ = some (.slice A3 n3 c3) := hx.is 3 rfl
                have f6' := hx.frozen 3
                refine hK.out _ _ m6 (fun hS => ?_)
                clear hK K
                refine dr_norm (a' := ?_) ?_ ?_
                rotate_left
                · simp only [Act.put, List.setIfInBounds_toArray, List.set_cons_zero, List.set_cons_succ]; rfl
                repeat (first | (refine dr_pure (by kernel_rfl) (by rfl) (fun _ _ _ h => h) (v := ?_) (a' := ?_) ?_ ?_ ?_; rotate_left 2; (focus (intro w'; go_simp; with_reducible rfl)); (focus (simp only [Act.put, List.setIfInBounds_toArray, List.set_cons_zero, List.set_cons_succ]; rfl))) | (refine dr_take (by kernel_rfl) (by rfl) (fun _ _ _ h => h) hS (v := ?_) (a' := ?_) ?_ ?_ ?_; rotate_left 2; (focus (intro w' hS'; go_simp; with_reducible rfl)); (focus (simp only [Act.put, List.setIfInBounds_toArray, List.set_cons_zero, List.set_cons_succ]; rfl))) | (refine dr_off (by kernel_rfl) (by rfl) (fun _ _ _ h => h) (a' := ?_) ?_ ?_; rotate_left; (focus (simp only [Act.put, List.setIfInBounds_toArray, List.set_cons_zero, List.set_cons_succ]; rfl))))
                refine dr_store (w7.setCell ⟨m, 3, none⟩ (.slice A7 n7 c7)) (by kernel_rfl) (by kernel_rfl) (by rfl) rfl ⟨by go_simp; done⟩ ?_
                refine dr_done (by kernel_rfl) ?_
                generalize hW : w7.setCell ⟨m, 3, none⟩ (.slice A7 n7 c7) = w8 at *
                clear m6 f6' hx hS ho3 hb3 hg3 hW HD1
                go_wp2_with fail
                go_roundg k
                case measure => omega
                case rel => exact ⟨i + 1, _, a1, e1, _, by go_num, HM, ⟨by have := HK.out; omega⟩, ⟨by have := HL.out; rw [List.length_append, List.length_singleton]; omega⟩, HD2⟩
        case rest =>
          clear HD
          obtain ⟨ans, b2, f2, v3, G1', HD⟩ := hcut
          have hd := HD.out.next4
          obtain ⟨B4, hB4⟩ : ∃ B4, wc.heap.size = B4 := ⟨_, rfl⟩
          rw [hB4] at hd
          have HD := Aside0.mk hd
          have G2 := G1'
          clear hB4 hd G1'
          go_upto_block 4 with fail
          go_cut [13] (fun vs wc => ∃ (auth : List Rec) (b3 f3 : Int) (v4 : Value), Aside0 (Met6 (after6 f2 (recsR s nc [] b2)) auth b3 f3 ∧ (f3 = 0 → 0 ≤ b3 ∧ b3 ≤ s.size)) ∧ Aside0 (M6 w wc g m q B4 q (fun _ => True) (fun k => k < B4) (fun _ => True) s b3 f3 id fl v2 v3 v4 (.slice none 0 0) qs ans auth []))
          case first =>
            obtain ⟨RQ, hRQ⟩ : ∃ RQ, after6 f2 (recsR s nc [] b2) = RQ := ⟨_, rfl⟩
            have hW := Way6.start (R := recsR s nc [] b2) G2.out.2
            rw [hRQ] at hW
            have HRQ := Lib.hid hRQ
            have HW := Aside0.mk hW
            clear hRQ hW G2
            go_wp2_with fail
            go_loopg [13] nc (fun kq vs w' => ∃ (i : Nat) (l : List Rec) (p e : Int) (v : Value), vs = .int .i64 i ∧ Aside0 (Way6 s RQ (recsR s kq l p) p e) ∧ Aside0 (kq + i = nc) ∧ Aside0 (l.length = i) ∧ Aside0 (M6 w w' g m q B4 q (fun _ => True) (fun k => k < B4) (fun _ => True) s p e id fl v2 v3 v (.slice none 0 0) qs ans l []))
            case atStart => exact ⟨0, [], b2, f2, _, rfl, HW, ⟨rfl⟩, ⟨rfl⟩, HD⟩
            case round =>
              clear HW HD
              obtain ⟨i, l, p, e, v, rfl, HW, HK, HL, HD⟩ := hrel
              obtain ⟨A3, n3, c3, rfl⟩ := R_anyslice HD.out.r4
              have q0 : (i : Int) ≤ 65535 := by have := HK.out; omega
              have l0 := HD.out.at0
              have fz0 := HD.out.c.x.frozen 0
              have l1 := HD.out.at1
              have fz1 := HD.out.c.x.frozen 1
              have l2 := HD.out.at2
              have fz2 := HD.out.c.x.frozen 2
              have l3 := HD.out.at3
              have fz3 := HD.out.c.x.frozen 3
              have l4 := HD.out.at4
              have fz4 := HD.out.c.x.frozen 4
              have l5 := HD.out.at5
              have fz5 := HD.out.c.x.frozen 5
              have z0 := HD.out.c.st.c0
              have z1 := HD.out.c.st.c1
              have z2 := HD.out.c.st.c2
              have k2 : wr.frozen? ⟨g, 2, none⟩ = false := blk_frozen HD.out.c.st 2
              cases gk with
              | zero =>
                obtain rfl : i = nc := by have := HK.out; omega
                go_wp2_with fail
                go_meet
                exact ⟨l, p, e, _, ⟨by rw [HRQ.out]; exact Way6.exit HW.out⟩, HD⟩
              | succ k =>
                have q1 : (i : Int) < (nc : Int) := by have := HK.out; omega
                by_cases c0 : e = 0
                case neg =>
                  have d3 : (e == 0) = false := beq_eq_false_iff_ne.mpr c0
                  have HM := Aside0.mk (Way6.err (x := l) HW.out c0)
                  clear c0
                  go_wp2_with fail
                  go_meet
                  exact ⟨l, p, e, _, ⟨by rw [HRQ.out]; exact HM.out⟩, HD⟩
                case pos =>
                  subst c0
                  have d3 : ((0 : Int) == 0) = true := rfl
                  obtain ⟨-, hE, hp0, hp1⟩ := HW.out.resolve_right (fun h => h.1 rfl)
                  have HE := Aside0.mk hE
                  have HP := Lib.hid (And.intro hp0 hp1)
                  clear hE hp0 hp1 HW
                  go_wp2_with fail
                  refine dr_start (fun w' => w'.cell? ⟨m, 4, none⟩ = some (.slice A3 n3 c3)) [7] (by kernel_rfl) l4 (fun hS => ?_)
                  repeat (first | (refine dr_pure (by kernel_rfl) (by rfl) (fun _ _ _ h => h) (v := ?_) (a' := ?_) ?_ ?_ ?_; rotate_left 2; (focus (intro w'; go_simp; with_reducible rfl)); (focus (simp only [Act.put, List.setIfInBounds_toArray, List.set_cons_zero, List.set_cons_succ]; rfl))) | (refine dr_take (by kernel_rfl) (by rfl) (fun _ _ _ h => h) hS (v := ?_) (a' := ?_) ?_ ?_ ?_; rotate_left 2; (focus (intro w' hS'; go_simp; with_reducible rfl)); (focus (simp only [Act.put, List.setIfInBounds_toArray, List.set_cons_zero, List.set_cons_succ]; rfl))) | (refine dr_off (by kernel_rfl) (by rfl) (fun _ _ _ h => h) (a' := ?_) ?_ ?_; rotate_left; (focus (simp only [Act.put, List.setIfInBounds_toArray, List.set_cons_zero, List.set_cons_succ]; rfl))))
                  refine dr_call Try.func40 (by kernel_rfl) rfl rfl (by kernel_rfl) (by kernel_rfl) (by rfl) (args := #[.pointer (some ⟨g, 0, none⟩)]) (by first | rfl | kernel_rfl | (simp [Act.eval]; done)) ?_
                  have HDd := Aside0.mk HD.out.drew
                  refine (record6_calls HDd.out.c.st HS.out HP.out.1 HP.out.2).mono ?_
                  rintro r w2 ⟨ho, rc, v, a1, e1, rfl, hp, hs1, hm⟩
                  obtain ⟨v4', v5', v6', rfl, h4, h5, h6⟩ := hp
                  have HM := Aside0.mk (rec_step HE.out hm)
                  have HD1 := Aside0.mk (HDd.out.go ho hs1)
                  have hsz := HDd.out.s4
                  have H4 := Aside0.mk (Kd.R_apartR (Kd.R_lower h4 hsz) HD1.out.r4 (by decide))
                  have H5 := Aside0.mk (Kd.R_apartR (Kd.R_lower h5 hsz) HD1.out.r4 (by intro q hq; rw [show q = 81 by simpa [Kd.int, Kd.scalar] using hq]; decide))
                  have H6 := Aside0.mk (Kd.R_apartR (Kd.R_lower h6 hsz) HD1.out.r4 (by decide))
                  have HL1 := Lib.hid (show (l.length + 1) * 96 ≤ 140737488355328 by have := HL.out; omega)
                  obtain ⟨A4, n4, c4, rfl⟩ := R_anyslice h4
                  obtain ⟨A5, n5, c5, rfl⟩ := R_anyslice h5
                  obtain ⟨A6, n6, c6, rfl⟩ := R_anyslice h6
                  clear l0 l1 l2 l3 l4 l5 fz0 fz1 fz2 fz3 fz4 fz5 z0 z1 z2 k2
                  clear hsz ho hs1 hm h4 h5 h6 hS HE HDd HD
                  refine .inl ⟨_, rfl, HD1.out.at4, fun hS => ?_⟩
                  refine dr_norm (a' := ?_) ?_ ?_
                  rotate_left
                  · simp only [Act.put, List.setIfInBounds_toArray, List.set_cons_zero, List.set_cons_succ]; rfl
                  refine dr_val (.slice (some ⟨w2.heap.size, 0, none⟩) 1 1) (w2.alloc (.cells #[.string rc.f0, .int .u16 rc.f1, .int .u16 rc.f2, .int .u32 rc.f3, .slice A4 n4 c4, .slice A5 n5 c5, .slice A6 n6 c6] 85)) (by kernel_rfl) (by kernel_rfl) (by rfl) (by go_simp; done) (HD1.out.below (below_alloc (Below.refl _ _) _)).at4 (by simp only [Act.put, List.setIfInBounds_toArray, List.set_cons_zero, List.set_cons_succ]; rfl) (fun hS => ?_)
                  refine dr_one (by kernel_rfl) (by kernel_rfl) (fun K hK => ?_)
                  refine Kd.R_append_step kRec (w0 := w2) B4 (by kernel_rfl) (.tmp 118) (.tmp 121) 33 85 (.agg #[(.string ⟨#[]⟩), (.int .u16 0), (.int .u16 0), (.int .u32 0), (.slice none 0 0), (.slice none 0 0), (.slice none 0 0)]) 96 (by rfl) Try.underlying33 infoRec rfl (by decide) (by decide) (.slice A3 n3 c3) l rc [.string rc.f0, .int .u16 rc.f1, .int .u16 rc.f2, .int .u32 rc.f3, .slice A4 n4 c4, .slice A5 n5 c5, .slice A6 n6 c6] (fun _ => True) (fun k => True ∧ some k ≠ (Value.slice A3 n3 c3).ownBlock) (by rfl) (by rfl) (kRec_mkM w2 B4 _ rc H4.out H5.out H6.out) (fun k hk => ⟨trivial, hk.2⟩) (fun _ _ => trivial) HD1.out.r4 (Below.refl _ _) HD1.out.s4 HL1.out ?_
                  intro v7 w7 ho3 hb3 hg3 _
                  obtain ⟨A7, n7, c7, rfl⟩ := R_anyslice ho3
                  have HD2 := Aside0.mk (HD1.out.app4 ho3 hg3)
                  have hx : SAt w7 m _ _ := blk_grown HD1.out.c.x hg3 (Kd.R_ne HD1.out.r4 HD1.out.c.x (by decide))
                  have m6 : w7.cell? ⟨m, 4, none⟩ = some (.slice A3 n3 c3) := hx.is 4 rfl
                  have f6' := hx.frozen 4
                  refine hK.out _ _ m6 (fun hS => ?_)
                  clear hK K
                  refine dr_norm (a' := ?_) ?_ ?_
                  rotate_left
                  · simp only [Act.put, List.setIfInBounds_toArray, List.set_cons_zero, List.set_cons_succ]; rfl
                  repeat (first | (refine dr_pure (by kernel_rfl) (by rfl) (fun _ _ _ h => h) (v := ?_) (a' := ?_) ?_ ?_ ?_; rotate_left 2; (focus (intro w'; go_simp; with_reducible rfl)); (focus (simp only [Act.put, List.setIfInBounds_toArray, List.set_cons_zero, List.set_cons_succ]; rfl))) | (refine dr_take (by kernel_rfl) (by rfl) (fun _ _ _ h => h) hS (v := ?_) (a' := ?_) ?_ ?_ ?_; rotate_left 2; (focus (intro w' hS'; go_simp; with_reducible rfl)); (focus (simp only [Act.put, List.setIfInBounds_toArray, List.set_cons_zero, List.set_cons_succ]; rfl))) | (refine dr_off (by kernel_rfl) (by rfl) (fun _ _ _ h => h) (a' := ?_) ?_ ?_; rotate_left; (focus (simp only [Act.put, List.setIfInBounds_toArray, List.set_cons_zero, List.set_cons_succ]; rfl))))
                  refine dr_store (w7.setCell ⟨m, 4, none⟩ (.slice A7 n7 c7)) (by kernel_rfl) (by kernel_rfl) (by rfl) rfl ⟨by go_simp; done⟩ ?_
                  refine dr_done (by kernel_rfl) ?_
                  generalize hW : w7.setCell ⟨m, 4, none⟩ (.slice A7 n7 c7) = w8 at *
                  clear m6 f6' hx hS ho3 hb3 hg3 hW HD1
                  go_wp2_with fail
                  go_roundg k
                  case measure => omega
                  case rel => exact ⟨i + 1, _, a1, e1, _, by go_num, HM, ⟨by have := HK.out; omega⟩, ⟨by have := HL.out; rw [List.length_append, List.length_singleton]; omega⟩, HD2⟩
          case rest =>
            clear HD
            obtain ⟨auth, b3, f3, v4, G2', HD⟩ := hcut
            have hd := HD.out.next5
            obtain ⟨B5, hB5⟩ : ∃ B5, wc.heap.size = B5 := ⟨_, rfl⟩
            rw [hB5] at hd
            have HD := Aside0.mk hd
            have G3 := G2'
            clear hB5 hd G2'
            go_upto_block 6 with fail
            go_cut [14] (fun vs wc => ∃ (add : List Rec) (b4 f4 : Int) (v5 : Value), Aside0 (Met6 (after6 f3 (recsR s nd [] b3)) add b4 f4 ∧ (f4 = 0 → 0 ≤ b4 ∧ b4 ≤ s.size)) ∧ Aside0 (M6 w wc g m q B4 B5 (fun _ => True) (fun k => k < B5) (fun k => k < B5) s b4 f4 id fl v2 v3 v4 v5 qs ans auth add))
            case first =>
              obtain ⟨RQ, hRQ⟩ : ∃ RQ, after6 f3 (recsR s nd [] b3) = RQ := ⟨_, rfl⟩
              have hW := Way6.start (R := recsR s nd [] b3) G3.out.2
              rw [hRQ] at hW
              have HRQ := Lib.hid hRQ
              have HW := Aside0.mk hW
              clear hRQ hW G3
              go_wp2_with fail
              go_loopg [14] nd (fun kq vs w' => ∃ (i : Nat) (l : List Rec) (p e : Int) (v : Value), vs = .int .i64 i ∧ Aside0 (Way6 s RQ (recsR s kq l p) p e) ∧ Aside0 (kq + i = nd) ∧ Aside0 (l.length = i) ∧ Aside0 (M6 w w' g m q B4 B5 (fun _ => True) (fun k => k < B5) (fun k => k < B5) s p e id fl v2 v3 v4 v qs ans auth l))
              case atStart => exact ⟨0, [], b3, f3, _, rfl, HW, ⟨rfl⟩, ⟨rfl⟩, HD⟩
              case round =>
                clear HW HD
                obtain ⟨i, l, p, e, v, rfl, HW, HK, HL, HD⟩ := hrel
                obtain ⟨A3, n3, c3, rfl⟩ := R_anyslice HD.out.r5
                have q0 : (i : Int) ≤ 65535 := by have := HK.out; omega
                have l0 := HD.out.at0
                have fz0 := HD.out.c.x.frozen 0
                have l1 := HD.out.at1
                have fz1 := HD.out.c.x.frozen 1
                have l2 := HD.out.at2
                have fz2 := HD.out.c.x.frozen 2
                have l3 := HD.out.at3
                have fz3 := HD.out.c.x.frozen 3
                have l4 := HD.out.at4
                have fz4 := HD.out.c.x.frozen 4
                have l5 := HD.out.at5
                have fz5 := HD.out.c.x.frozen 5
                have z0 := HD.out.c.st.c0
                have z1 := HD.out.c.st.c1
                have z2 := HD.out.c.st.c2
                have k2 : wr.frozen? ⟨g, 2, none⟩ = false := blk_frozen HD.out.c.st 2
                cases gk with
                | zero =>
                  obtain rfl : i = nd := by have := HK.out; omega
                  go_wp2_with fail
                  go_meet
                  exact ⟨l, p, e, _, ⟨by rw [HRQ.out]; exact Way6.exit HW.out⟩, HD⟩
                | succ k =>
                  have q1 : (i : Int) < (nd : Int) := by have := HK.out; omega
                  by_cases c0 : e = 0
                  case neg =>
                    have d3 : (e == 0) = false := beq_eq_false_iff_ne.mpr c0
                    have HM := Aside0.mk (Way6.err (x := l) HW.out c0)
                    clear c0
                    go_wp2_with fail
                    go_meet
                    exact ⟨l, p, e, _, ⟨by rw [HRQ.out]; exact HM.out⟩, HD⟩
                  case pos =>
                    subst c0
                    have d3 : ((0 : Int) == 0) = true := rfl
                    obtain ⟨-, hE, hp0, hp1⟩ := HW.out.resolve_right (fun h => h.1 rfl)
                    have HE := Aside0.mk hE
                    have HP := Lib.hid (And.intro hp0 hp1)
                    clear hE hp0 hp1 HW
                    go_wp2_with fail
                    refine dr_start (fun w' => w'.cell? ⟨m, 5, none⟩ = some (.slice A3 n3 c3)) [7] (by kernel_rfl) l5 (fun hS => ?_)
                    repeat (first | (refine dr_pure (by kernel_rfl) (by rfl) (fun _ _ _ h => h) (v := ?_) (a' := ?_) ?_ ?_ ?_; rotate_left 2; (focus (intro w'; go_simp; with_reducible rfl)); (focus (simp only [Act.put, List.setIfInBounds_toArray, List.set_cons_zero, List.set_cons_succ]; rfl))) | (refine dr_take (by kernel_rfl) (by rfl) (fun _ _ _ h => h) hS (v := ?_) (a' := ?_) ?_ ?_ ?_; rotate_left 2; (focus (intro w' hS'; go_simp; with_reducible rfl)); (focus (simp only [Act.put, List.setIfInBounds_toArray, List.set_cons_zero, List.set_cons_succ]; rfl))) | (refine dr_off (by kernel_rfl) (by rfl) (fun _ _ _ h => h) (a' := ?_) ?_ ?_; rotate_left; (focus (simp only [Act.put, List.setIfInBounds_toArray, List.set_cons_zero, List.set_cons_succ]; rfl))))
                    refine dr_call Try.func40 (by kernel_rfl) rfl rfl (by kernel_rfl) (by kernel_rfl) (by rfl) (args := #[.pointer (some ⟨g, 0, none⟩)]) (by first | rfl | kernel_rfl | (simp [Act.eval]; done)) ?_
                    have HDd := Aside0.mk HD.out.drew
                    refine (record6_calls HDd.out.c.st HS.out HP.out.1 HP.out.2).mono ?_
                    rintro r w2 ⟨ho, rc, v, a1, e1, rfl, hp, hs1, hm⟩
                    obtain ⟨v4', v5', v6', rfl, h4, h5, h6⟩ := hp
                    have HM := Aside0.mk (rec_step HE.out hm)
                    have HD1 := Aside0.mk (HDd.out.go ho hs1)
                    have hsz := HDd.out.s5
                    have H4 := Aside0.mk (Kd.R_apartR (Kd.R_lower h4 hsz) HD1.out.r5 (by decide))
                    have H5 := Aside0.mk (Kd.R_apartR (Kd.R_lower h5 hsz) HD1.out.r5 (by intro q hq; rw [show q = 81 by simpa [Kd.int, Kd.scalar] using hq]; decide))
                    have H6 := Aside0.mk (Kd.R_apartR (Kd.R_lower h6 hsz) HD1.out.r5 (by decide))
                    have HL1 := Lib.hid (show (l.length + 1) * 96 ≤ 140737488355328 by have := HL.out; omega)
                    obtain ⟨A4, n4, c4, rfl⟩ := R_anyslice h4
                    obtain ⟨A5, n5, c5, rfl⟩ := R_anyslice h5
                    obtain ⟨A6, n6, c6, rfl⟩ := R_anyslice h6
                    clear l0 l1 l2 l3 l4 l5 fz0 fz1 fz2 fz3 fz4 fz5 z0 z1 z2 k2
                    clear hsz ho hs1 hm h4 h5 h6 hS HE HDd HD
                    refine .inl ⟨_, rfl, HD1.out.at5, fun hS => ?_⟩
                    refine dr_norm (a' := ?_) ?_ ?_
                    rotate_left
                    · simp only [Act.put, List.setIfInBounds_toArray, List.set_cons_zero, List.set_cons_succ]; rfl
                    refine dr_val (.slice (some ⟨w2.heap.size, 0, none⟩) 1 1) (w2.alloc (.cells #[.string rc.f0, .int .u16 rc.f1, .int .u16 rc.f2, .int .u32 rc.f3, .slice A4 n4 c4, .slice A5 n5 c5, .slice A6 n6 c6] 85)) (by kernel_rfl) (by kernel_rfl) (by rfl) (by go_simp; done) (HD1.out.below (below_alloc (Below.refl _ _) _)).at5 (by simp only [Act.put, List.setIfInBounds_toArray, List.set_cons_zero, List.set_cons_succ]; rfl) (fun hS => ?_)
                    refine dr_one (by kernel_rfl) (by kernel_rfl) (fun K hK => ?_)
                    refine Kd.R_append_step kRec (w0 := w2) B5 (by kernel_rfl) (.tmp 137) (.tmp 140) 33 85 (.agg #[(.string ⟨#[]⟩), (.int .u16 0), (.int .u16 0), (.int .u32 0), (.slice none 0 0), (.slice none 0 0), (.slice none 0 0)]) 96 (by rfl) Try.underlying33 infoRec rfl (by decide) (by decide) (.slice A3 n3 c3) l rc [.string rc.f0, .int .u16 rc.f1, .int .u16 rc.f2, .int .u32 rc.f3, .slice A4 n4 c4, .slice A5 n5 c5, .slice A6 n6 c6] (fun _ => True) (fun k => True ∧ some k ≠ (Value.slice A3 n3 c3).ownBlock) (by rfl) (by rfl) (kRec_mkM w2 B5 _ rc H4.out H5.out H6.out) (fun k hk => ⟨trivial, hk.2⟩) (fun _ _ => trivial) HD1.out.r5 (Below.refl _ _) HD1.out.s5 HL1.out ?_
                    intro v7 w7 ho3 hb3 hg3 _
                    obtain ⟨A7, n7, c7, rfl⟩ := R_anyslice ho3
                    have HD2 := Aside0.mk (HD1.out.app5 ho3 hg3)
                    have hx : SAt w7 m _ _ := blk_grown HD1.out.c.x hg3 (Kd.R_ne HD1.out.r5 HD1.out.c.x (by decide))
                    have m6 : w7.cell? ⟨m, 5, none⟩ = some (.slice A3 n3 c3) := hx.is 5 rfl
                    have f6' := hx.frozen 5
                    refine hK.out _ _ m6 (fun hS => ?_)
                    clear hK K
                    refine dr_norm (a' := ?_) ?_ ?_
                    rotate_left
                    · simp only [Act.put, List.setIfInBounds_toArray, List.set_cons_zero, List.set_cons_succ]; rfl
                    repeat (first | (refine dr_pure (by kernel_rfl) (by rfl) (fun _ _ _ h => h) (v := ?_) (a' := ?_) ?_ ?_ ?_; rotate_left 2; (focus (intro w'; go_simp; with_reducible rfl)); (focus (simp only [Act.put, List.setIfInBounds_toArray, List.set_cons_zero, List.set_cons_succ]; rfl))) | (refine dr_take (by kernel_rfl) (by rfl) (fun _ _ _ h => h) hS (v := ?_) (a' := ?_) ?_ ?_ ?_; rotate_left 2; (focus (intro w' hS'; go_simp; with_reducible rfl)); (focus (simp only [Act.put, List.setIfInBounds_toArray, List.set_cons_zero, List.set_cons_succ]; rfl))) | (refine dr_off (by kernel_rfl) (by rfl) (fun _ _ _ h => h) (a' := ?_) ?_ ?_; rotate_left; (focus (simp only [Act.put, List.setIfInBounds_toArray, List.set_cons_zero, List.set_cons_succ]; rfl))))
                    refine dr_store (w7.setCell ⟨m, 5, none⟩ (.slice A7 n7 c7)) (by kernel_rfl) (by kernel_rfl) (by rfl) rfl ⟨by go_simp; done⟩ ?_
                    refine dr_done (by kernel_rfl) ?_
                    generalize hW : w7.setCell ⟨m, 5, none⟩ (.slice A7 n7 c7) = w8 at *
                    clear m6 f6' hx hS ho3 hb3 hg3 hW HD1
                    go_wp2_with fail
                    go_roundg k
                    case measure => omega
                    case rel => exact ⟨i + 1, _, a1, e1, _, by go_num, HM, ⟨by have := HK.out; omega⟩, ⟨by have := HL.out; rw [List.length_append, List.length_singleton]; omega⟩, HD2⟩
            case rest =>
              clear HD
              obtain ⟨add, b4, f4, v5, G3', HD⟩ := hcut
              have HC := Aside0.mk (fun f5 (hlast : Met6 (after6 f4 (lastE s b4)) () b4 f5) => msg6_met F1.out F2.out F3.out F4.out F5.out F6.out F7.out G1.out.1 G2.out.1 G3.out.1 G3'.out.1 hlast)
              clear F1 F2 F3 F4 F5 F6 F7 G1 G2 G3
              obtain ⟨A2, n2, c2, rfl⟩ := R_anyslice HD.out.r2
              obtain ⟨A3, n3, c3, rfl⟩ := R_anyslice HD.out.r3
              obtain ⟨A4, n4, c4, rfl⟩ := R_anyslice HD.out.r4
              obtain ⟨A5, n5, c5, rfl⟩ := R_anyslice HD.out.r5
              have l0 := HD.out.at0
              have fz0 := HD.out.c.x.frozen 0
              have l1 := HD.out.at1
              have fz1 := HD.out.c.x.frozen 1
              have l2 := HD.out.at2
              have fz2 := HD.out.c.x.frozen 2
              have l3 := HD.out.at3
              have fz3 := HD.out.c.x.frozen 3
              have l4 := HD.out.at4
              have fz4 := HD.out.c.x.frozen 4
              have l5 := HD.out.at5
              have fz5 := HD.out.c.x.frozen 5
              have z0 := HD.out.c.st.c0
              have z1 := HD.out.c.st.c1
              have z2 := HD.out.c.st.c2
              have k2 : wc.frozen? ⟨g, 2, none⟩ = false := blk_frozen HD.out.c.st 2
              by_cases c0 : f4 = 0
              case neg =>
                have d3 : (f4 == 0) = false := beq_eq_false_iff_ne.mpr c0
                have d4 : (f4 != 0) = true := by rw [bne_iff_ne]; exact c0
                have HM := Aside0.mk (HC.out f4 (.inr ⟨after6_err c0 _, c0⟩))
                have HN := Lib.hid c0
                clear c0 HC
                go_wp2_with fail
                refine dr_start (fun w' => w'.cell? ⟨g, 2, none⟩ = some (.int .i64 (f4))) [] (by kernel_rfl) z2 (fun hS => ?_)
                have HZ := Aside0.mk HD.out.drew
                generalize hW : World.drew wc = wd at *
                clear l0 l1 l2 l3 l4 l5 fz0 fz1 fz2 fz3 fz4 fz5 z0 z1 z2 k2
                clear hW HD
                have y0 := SAt.is (w := wd) HZ.out.c.z 0 rfl
                have y1 := SAt.is (w := wd) HZ.out.c.z 1 rfl
                have y2 := SAt.is (w := wd) HZ.out.c.z 2 rfl
                have y3 := SAt.is (w := wd) HZ.out.c.z 3 rfl
                have y4 := SAt.is (w := wd) HZ.out.c.z 4 rfl
                have y5 := SAt.is (w := wd) HZ.out.c.z 5 rfl
                have gz0 := SAt.frozen (w := wd) HZ.out.c.z 0
                have gz1 := SAt.frozen (w := wd) HZ.out.c.z 1
                have gz2 := SAt.frozen (w := wd) HZ.out.c.z 2
                have gz3 := SAt.frozen (w := wd) HZ.out.c.z 3
                have gz4 := SAt.frozen (w := wd) HZ.out.c.z 4
                have gz5 := SAt.frozen (w := wd) HZ.out.c.z 5
                repeat (first | (refine dr_pure (by kernel_rfl) (by rfl) (fun _ _ _ h => h) (v := ?_) (a' := ?_) ?_ ?_ ?_; rotate_left 2; (focus (intro w'; go_simp; with_reducible rfl)); (focus (simp only [Act.put, List.setIfInBounds_toArray, List.set_cons_zero, List.set_cons_succ]; rfl))) | (refine dr_take (by kernel_rfl) (by rfl) (fun _ _ _ h => h) hS (v := ?_) (a' := ?_) ?_ ?_ ?_; rotate_left 2; (focus (intro w' hS'; go_simp; with_reducible rfl)); (focus (simp only [Act.put, List.setIfInBounds_toArray, List.set_cons_zero, List.set_cons_succ]; rfl))) | (refine dr_off (by kernel_rfl) (by rfl) (fun _ _ _ h => h) (a' := ?_) ?_ ?_; rotate_left; (focus (simp only [Act.put, List.setIfInBounds_toArray, List.set_cons_zero, List.set_cons_succ]; rfl))))
                obtain ⟨w9, hw9, hl⟩ := laid0 HZ.out
                refine dr_skip (((((((wd.setCell ⟨q, 0, none⟩ (.int .u16 0)).setCell ⟨q, 1, none⟩ (.int .u16 0)).setCell ⟨q, 2, none⟩ (.slice none 0 0)).setCell ⟨q, 3, none⟩ (.slice none 0 0)).setCell ⟨q, 4, none⟩ (.slice none 0 0)).setCell ⟨q, 5, none⟩ (.slice none 0 0))) (by kernel_rfl) (by kernel_rfl) (by rfl) rfl ⟨by go_simp; done⟩ ?_ (fun hS => ?_)
                · rw [← hw9]
                  exact hl.2.2.2.c2
                rw [← hw9] at hS ⊢
                repeat (first | (refine dr_pure (by kernel_rfl) (by rfl) (fun _ _ _ h => h) (v := ?_) (a' := ?_) ?_ ?_ ?_; rotate_left 2; (focus (intro w'; go_simp; with_reducible rfl)); (focus (simp only [Act.put, List.setIfInBounds_toArray, List.set_cons_zero, List.set_cons_succ]; rfl))) | (refine dr_take (by kernel_rfl) (by rfl) (fun _ _ _ h => h) hS (v := ?_) (a' := ?_) ?_ ?_ ?_; rotate_left 2; (focus (intro w' hS'; go_simp; with_reducible rfl)); (focus (simp only [Act.put, List.setIfInBounds_toArray, List.set_cons_zero, List.set_cons_succ]; rfl))) | (refine dr_off (by kernel_rfl) (by rfl) (fun _ _ _ h => h) (a' := ?_) ?_ ?_; rotate_left; (focus (simp only [Act.put, List.setIfInBounds_toArray, List.set_cons_zero, List.set_cons_succ]; rfl))))
                refine dr_done (by kernel_rfl) ?_
                clear y0 y1 y2 y3 y4 y5 gz0 gz1 gz2 gz3 gz4 gz5 hw9
                have r0 := SAt.is (w := w9) hl.2.1 0 rfl
                have r1 := SAt.is (w := w9) hl.2.1 1 rfl
                have r2 := SAt.is (w := w9) hl.2.1 2 rfl
                have r3 := SAt.is (w := w9) hl.2.1 3 rfl
                have r4 := SAt.is (w := w9) hl.2.1 4 rfl
                have r5 := SAt.is (w := w9) hl.2.1 5 rfl
                have HB := Aside0.mk hl.1
                clear hl hS HZ
                go_wp2_with fail
                refine bodyPost_ret (v := .tuple #[.agg zMsg, .int .i64 (f4)]) (by simp [results, Try.results26, go_sem, r0, r1, r2, r3, r4, r5, zMsg]) rfl ?_
                exact post_err HLs.out HM.out HN.out HB.out
              case pos =>
                subst c0
                have d3 : ((0 : Int) == 0) = true := rfl
                by_cases c1 : b4 < s.size
                · have d4 : decide (b4 < (s.size : Int)) = true := decide_eq_true c1
                  have HM := Aside0.mk (HC.out 7 (.inr ⟨by rw [after6_ok]; exact if_pos c1, by decide⟩))
                  have HN := Lib.hid (show (7 : Int) ≠ 0 by decide)
                  have HD2 := Aside0.mk (HD.out.sete 7)
                  clear c1 HC
                  go_upto_region 34 with fail
                  generalize hW : wc.setCell ⟨g, 2, none⟩ (.int .i64 7) = wx at *
                  clear l0 l1 l2 l3 l4 l5 fz0 fz1 fz2 fz3 fz4 fz5 z0 z1 z2 k2
                  clear HD hW
                  have HD := HD2
                  clear HD2
                  have l0 := HD.out.at0
                  have fz0 := HD.out.c.x.frozen 0
                  have l1 := HD.out.at1
                  have fz1 := HD.out.c.x.frozen 1
                  have l2 := HD.out.at2
                  have fz2 := HD.out.c.x.frozen 2
                  have l3 := HD.out.at3
                  have fz3 := HD.out.c.x.frozen 3
                  have l4 := HD.out.at4
                  have fz4 := HD.out.c.x.frozen 4
                  have l5 := HD.out.at5
                  have fz5 := HD.out.c.x.frozen 5
                  have z0 := HD.out.c.st.c0
                  have z1 := HD.out.c.st.c1
                  have z2 := HD.out.c.st.c2
                  have k2 : wx.frozen? ⟨g, 2, none⟩ = false := blk_frozen HD.out.c.st 2
                  go_wp2_with fail
                  refine dr_start (fun w' => w'.cell? ⟨g, 2, none⟩ = some (.int .i64 (7))) [] (by kernel_rfl) z2 (fun hS => ?_)
                  have HZ := Aside0.mk HD.out.drew
                  generalize hW : World.drew wx = wd at *
                  clear l0 l1 l2 l3 l4 l5 fz0 fz1 fz2 fz3 fz4 fz5 z0 z1 z2 k2
                  clear hW HD
                  have y0 := SAt.is (w := wd) HZ.out.c.z 0 rfl
                  have y1 := SAt.is (w := wd) HZ.out.c.z 1 rfl
                  have y2 := SAt.is (w := wd) HZ.out.c.z 2 rfl
                  have y3 := SAt.is (w := wd) HZ.out.c.z 3 rfl
                  have y4 := SAt.is (w := wd) HZ.out.c.z 4 rfl
                  have y5 := SAt.is (w := wd) HZ.out.c.z 5 rfl
                  have gz0 := SAt.frozen (w := wd) HZ.out.c.z 0
                  have gz1 := SAt.frozen (w := wd) HZ.out.c.z 1
                  have gz2 := SAt.frozen (w := wd) HZ.out.c.z 2
                  have gz3 := SAt.frozen (w := wd) HZ.out.c.z 3
                  have gz4 := SAt.frozen (w := wd) HZ.out.c.z 4
                  have gz5 := SAt.frozen (w := wd) HZ.out.c.z 5
                  repeat (first | (refine dr_pure (by kernel_rfl) (by rfl) (fun _ _ _ h => h) (v := ?_) (a' := ?_) ?_ ?_ ?_; rotate_left 2; (focus (intro w'; go_simp; with_reducible rfl)); (focus (simp only [Act.put, List.setIfInBounds_toArray, List.set_cons_zero, List.set_cons_succ]; rfl))) | (refine dr_take (by kernel_rfl) (by rfl) (fun _ _ _ h => h) hS (v := ?_) (a' := ?_) ?_ ?_ ?_; rotate_left 2; (focus (intro w' hS'; go_simp; with_reducible rfl)); (focus (simp only [Act.put, List.setIfInBounds_toArray, List.set_cons_zero, List.set_cons_succ]; rfl))) | (refine dr_off (by kernel_rfl) (by rfl) (fun _ _ _ h => h) (a' := ?_) ?_ ?_; rotate_left; (focus (simp only [Act.put, List.setIfInBounds_toArray, List.set_cons_zero, List.set_cons_succ]; rfl))))
                  obtain ⟨w9, hw9, hl⟩ := laid0 HZ.out
                  refine dr_skip (((((((wd.setCell ⟨q, 0, none⟩ (.int .u16 0)).setCell ⟨q, 1, none⟩ (.int .u16 0)).setCell ⟨q, 2, none⟩ (.slice none 0 0)).setCell ⟨q, 3, none⟩ (.slice none 0 0)).setCell ⟨q, 4, none⟩ (.slice none 0 0)).setCell ⟨q, 5, none⟩ (.slice none 0 0))) (by kernel_rfl) (by kernel_rfl) (by rfl) rfl ⟨by go_simp; done⟩ ?_ (fun hS => ?_)
                  · rw [← hw9]
                    exact hl.2.2.2.c2
                  rw [← hw9] at hS ⊢
                  repeat (first | (refine dr_pure (by kernel_rfl) (by rfl) (fun _ _ _ h => h) (v := ?_) (a' := ?_) ?_ ?_ ?_; rotate_left 2; (focus (intro w'; go_simp; with_reducible rfl)); (focus (simp only [Act.put, List.setIfInBounds_toArray, List.set_cons_zero, List.set_cons_succ]; rfl))) | (refine dr_take (by kernel_rfl) (by rfl) (fun _ _ _ h => h) hS (v := ?_) (a' := ?_) ?_ ?_ ?_; rotate_left 2; (focus (intro w' hS'; go_simp; with_reducible rfl)); (focus (simp only [Act.put, List.setIfInBounds_toArray, List.set_cons_zero, List.set_cons_succ]; rfl))) | (refine dr_off (by kernel_rfl) (by rfl) (fun _ _ _ h => h) (a' := ?_) ?_ ?_; rotate_left; (focus (simp only [Act.put, List.setIfInBounds_toArray, List.set_cons_zero, List.set_cons_succ]; rfl))))
                  refine dr_done (by kernel_rfl) ?_
                  clear y0 y1 y2 y3 y4 y5 gz0 gz1 gz2 gz3 gz4 gz5 hw9
                  have r0 := SAt.is (w := w9) hl.2.1 0 rfl
                  have r1 := SAt.is (w := w9) hl.2.1 1 rfl
                  have r2 := SAt.is (w := w9) hl.2.1 2 rfl
                  have r3 := SAt.is (w := w9) hl.2.1 3 rfl
                  have r4 := SAt.is (w := w9) hl.2.1 4 rfl
                  have r5 := SAt.is (w := w9) hl.2.1 5 rfl
                  have HB := Aside0.mk hl.1
                  clear hl hS HZ
                  go_wp2_with fail
                  refine bodyPost_ret (v := .tuple #[.agg zMsg, .int .i64 (7)]) (by simp [results, Try.results26, go_sem, r0, r1, r2, r3, r4, r5, zMsg]) rfl ?_
                  exact post_err HLs.out HM.out HN.out HB.out
                · have d4 : decide (b4 < (s.size : Int)) = false := decide_eq_false c1
                  have HM := Aside0.mk (HC.out 0 (.inl ⟨by rw [after6_ok]; exact if_neg c1, rfl⟩))
                  clear c1 HC
                  have y0 := SAt.is (w := wc) HD.out.c.z 0 rfl
                  have y1 := SAt.is (w := wc) HD.out.c.z 1 rfl
                  have y2 := SAt.is (w := wc) HD.out.c.z 2 rfl
                  have y3 := SAt.is (w := wc) HD.out.c.z 3 rfl
                  have y4 := SAt.is (w := wc) HD.out.c.z 4 rfl
                  have y5 := SAt.is (w := wc) HD.out.c.z 5 rfl
                  have gz0 := SAt.frozen (w := wc) HD.out.c.z 0
                  have gz1 := SAt.frozen (w := wc) HD.out.c.z 1
                  have gz2 := SAt.frozen (w := wc) HD.out.c.z 2
                  have gz3 := SAt.frozen (w := wc) HD.out.c.z 3
                  have gz4 := SAt.frozen (w := wc) HD.out.c.z 4
                  have gz5 := SAt.frozen (w := wc) HD.out.c.z 5
                  have nmq := HD.out.c.ne
                  have nqm := Ne.symm nmq
                  go_wp2_with fail
                  obtain ⟨w9, hw9, hl⟩ := HD.out.laid
                  rw [← hw9]
                  have r0 := hl.z.is 0 rfl
                  have r1 := hl.z.is 1 rfl
                  have r2 := hl.z.is 2 rfl
                  have r3 := hl.z.is 3 rfl
                  have r4 := hl.z.is 4 rfl
                  have r5 := hl.z.is 5 rfl
                  refine bodyPost_ret (v := .tuple #[.agg #[.int .u16 id, .int .u16 fl, .slice A2 n2 c2, .slice A3 n3 c3, .slice A4 n4 c4, .slice A5 n5 c5], .int .i64 0]) (by simp [results, Try.results26, go_sem, r0, r1, r2, r3, r4, r5]) rfl ?_
                  exact post_ok HLs.out HM.out hl.p hl.b
end Go.Proofs.Ytfoflodgegehfaa.M
set_option linter.unusedVariables false
set_option linter.unusedSimpArgs false
namespace Go.Proofs.Ytfoflodgegehfaa.M
open Go.RowKit Go.Maps Go.Proofs.YtfoflodgegehfaaW.PrintWords Go.Proofs.YtfoflodgegehfaaW.PrintLast Go.Proofs.YtfoflodgegehfaaW.PrintMore
attribute [local go_sem] max2_int min2_int max_two min_two max_three min_three max_four min_four
attribute [local go_sem ↓] Go.wp_at_zero Go.wp_at_succ
theorem routeF_none {r : Req} {body : ByteArray} {st : Int} (h : bytesF r body = (⟨#[]⟩, st)) (h2 : st ≠ 200) : routeF r body = (zM, zKey, st) := by
  unfold routeF
  rw [h, if_pos h2]
theorem routeF_some {r : Req} {body s : ByteArray} (h : bytesF r body = (s, 200)) : routeF r body = routeS s := by
  unfold routeF
  rw [h, if_neg (by simp)]
structure RS2 (w0 w : World) (a b c d : Nat) (ms ks mc kc : Array Value) (B : Nat) (mm : Msg) (v : Value) : Prop where
  rs : RS w0 w a b ms ks B mm v
  hc : SAt w c mc 35
  hd : SAt w d kc 37
  ca : c ≠ a
  cb : c ≠ b
  da : d ≠ a
  db : d ≠ b
section
variable {w0 w : World} {a b c d B : Nat} {mc kc ks : Array Value} {x0 x1 x2 x3 x4 x5 v u0 u1 u2 u3 u4 u5 : Value} {mm : Msg}
theorem RS2.mset (h : RS2 w0 w a b c d #[x0, x1, x2, x3, x4, x5] ks mc kc B mm v) :
    RS2 w0 ((((((w.setCell ⟨a, 0, none⟩ u0).setCell ⟨a, 1, none⟩ u1).setCell ⟨a, 2, none⟩ u2).setCell ⟨a, 3, none⟩ u3).setCell ⟨a, 4, none⟩ u4).setCell ⟨a, 5, none⟩ u5) a b c d #[u0, u1, u2, u3, u4, u5] ks mc kc B mm v :=
  ⟨h.rs.mset, (((((h.hc.far h.ca 0 u0).far h.ca 1 u1).far h.ca 2 u2).far h.ca 3 u3).far h.ca 4 u4).far h.ca 5 u5, (((((h.hd.far h.da 0 u0).far h.da 1 u1).far h.da 2 u2).far h.da 3 u3).far h.da 4 u4).far h.da 5 u5, h.ca, h.cb, h.da, h.db⟩
theorem RS2.kset {ms : Array Value} (h : RS2 w0 w a b c d ms #[x0, x1, x2, x3] mc kc B mm v) :
    RS2 w0 ((((w.setCell ⟨b, 0, none⟩ u0).setCell ⟨b, 1, none⟩ u1).setCell ⟨b, 2, none⟩ u2).setCell ⟨b, 3, none⟩ u3) a b c d ms #[u0, u1, u2, u3] mc kc B mm v :=
  ⟨h.rs.kset, (((h.hc.far h.cb 0 u0).far h.cb 1 u1).far h.cb 2 u2).far h.cb 3 u3, (((h.hd.far h.db 0 u0).far h.db 1 u1).far h.db 2 u2).far h.db 3 u3, h.ca, h.cb, h.da, h.db⟩
theorem rs2_cells {ms : Array Value} (h : RS2 w0 w a b c d ms ks #[x0, x1, x2, x3, x4, x5] #[u0, u1, u2, u3] B mm v) :
    ((w.cell? ⟨c, 0, none⟩ = some x0 ∧ w.cell? ⟨c, 1, none⟩ = some x1 ∧ w.cell? ⟨c, 2, none⟩ = some x2 ∧ w.cell? ⟨c, 3, none⟩ = some x3 ∧ w.cell? ⟨c, 4, none⟩ = some x4 ∧ w.cell? ⟨c, 5, none⟩ = some x5) ∧
    (w.cell? ⟨d, 0, none⟩ = some u0 ∧ w.cell? ⟨d, 1, none⟩ = some u1 ∧ w.cell? ⟨d, 2, none⟩ = some u2 ∧ w.cell? ⟨d, 3, none⟩ = some u3)) ∧ Aside0 (∃ ms ks, RS2 w0 w a b c d ms ks #[x0, x1, x2, x3, x4, x5] #[u0, u1, u2, u3] B mm v) :=
  ⟨⟨⟨h.hc.is 0 rfl, h.hc.is 1 rfl, h.hc.is 2 rfl, h.hc.is 3 rfl, h.hc.is 4 rfl, h.hc.is 5 rfl⟩, h.hd.is 0 rfl, h.hd.is 1 rfl, h.hd.is 2 rfl, h.hd.is 3 rfl⟩, ⟨_, _, h⟩⟩
end
set_option maxHeartbeats 16000000 in
set_option maxRecDepth 100000 in
theorem refRoute_calls (r : Req) (body : ByteArray) (w : World) (hp : r.path.size ≤ 30000) (hbd : body.size ≤ 100000) :
    Calls Try.prog 16 #[r.v, .string body] w fun e w' => RoutePost (routeF r body) w e w' := by
  obtain ⟨R, hR0⟩ : ∃ R, routeF r body = R := ⟨_, rfl⟩
  rw [hR0]
  have hn := @routeF_none r body
  have hsome := @routeF_some r body
  rw [hR0] at hn hsome
  unfold bytesF getF' at hn hsome
  have hs := fun w => split_ref_calls r.path w (by omega)
  have hq1 := fun w => param_ref_calls (cutB r.path 63) dnsT w (by have := cutB_size r.path 63; omega)
  have hq2 := fun w => refDecode_calls (paramF (cutB r.path 63) dnsT).1 w (by have := paramF_size (cutB r.path 63) dnsT; have := cutB_size r.path 63; omega)
  have hz0 : (decB (paramF (cutB r.path 63) dnsT).1).1.size ≤ 100000 := by
    have h1 := decB_size (paramF (cutB r.path 63) dnsT).1
    have h2 := paramF_size (cutB r.path 63) dnsT
    have h3 := cutB_size r.path 63
    omega
  generalize cutA r.path 63 = pth at *
  generalize cutB r.path 63 = q at *
  generalize paramF q dnsT = pr at *
  generalize decB pr.1 = de at *
  obtain ⟨pv, pb⟩ := pr
  obtain ⟨dv, db⟩ := de
  obtain ⟨me, pa, te, md, ha, le⟩ := r
  simp only [Req.v, Req.cs] at *
  have HQ1 := Aside0.mk hq1
  have HQ2 := Aside0.mk hq2
  clear hq1 hq2 hp hR0
  have NO := Aside0.mk @hn
  have YES := Aside0.mk @hsome
  clear hn hsome
  go_enter Try.func16, Try.ntmps16
  go_upto_region 1 with fail
  obtain ⟨HR0, HM0, HK0, HB0⟩ := three_new' w #[.string me, .string pa, .string te, .string md, .bool ha, .int .i64 le] zMsg zKc 30 35 37
  have la : w.heap.size ≤ w.heap.size + 1 := by omega
  have lb : w.heap.size ≤ w.heap.size + 1 + 1 := by omega
  have nab : w.heap.size + 1 ≠ w.heap.size + 1 + 1 := by omega
  unfold zMsg zKc at HM0 HK0 HR0 HB0
  generalize hW : (((w.alloc (.cells #[.string me, .string pa, .string te, .string md, .bool ha, .int .i64 le] 30 (0, 0))).alloc (.cells #[.int .u16 0, .int .u16 0, .slice none 0 0, .slice none 0 0, .slice none 0 0, .slice none 0 0] 35 (0, 0))).alloc (.cells #[.string ⟨#[]⟩, .int .u16 0, .int .u16 0, .bool false] 37 (0, 0))) = w1 at *
  clear hW
  obtain ⟨b, hbb⟩ : ∃ b, w.heap.size + 1 + 1 = b := ⟨_, rfl⟩
  rw [hbb] at HK0 lb nab
  rw [hbb]
  clear hbb
  obtain ⟨a, haa⟩ : ∃ a, w.heap.size + 1 = a := ⟨_, rfl⟩
  rw [haa] at HM0 la nab
  rw [haa]
  clear haa
  have D1 := Aside0.mk (show RS w w1 a b zMsg zKc 0 zM (.agg zMsg) from ⟨HM0, HK0, HB0, nab, la, lb, zM_own _ _⟩)
  have HX1 := Aside0.mk HR0
  clear HM0 HK0 HB0 la lb nab HR0
  have z0 := HX1.out.is 0 rfl
  have z1 := HX1.out.is 1 rfl
  have z2 := HX1.out.is 2 rfl
  have z3 := HX1.out.is 3 rfl
  have z4 := HX1.out.is 4 rfl
  have z5 := HX1.out.is 5 rfl
  go_wp2_with fail
  clear z0 z1 z2 z3 z4 z5
  refine (hs _).mono ?_
  rintro e w2 ⟨rfl, hb⟩
  have D2 := Aside0.mk (D1.out.call hb)
  have HX2 := Aside0.mk (HX1.out.below hb)
  clear hb D1 HX1 hs
  by_cases c1 : pth ≠ epT
  · have hq := NO.out (st := 404) (by rw [if_pos c1]) (by decide)
    subst hq
    obtain ⟨d1, d2, d3⟩ := const_no c1 (L := [47, 100, 110, 115, 45, 113, 117, 101, 114, 121]) rfl
    clear c1
    have z0 := D2.out.am.is 0 rfl
    have z1 := D2.out.am.is 1 rfl
    have z2 := D2.out.am.is 2 rfl
    have z3 := D2.out.am.is 3 rfl
    have z4 := D2.out.am.is 4 rfl
    have z5 := D2.out.am.is 5 rfl
    have y0 := D2.out.am.frozen 0
    have y1 := D2.out.am.frozen 1
    have y2 := D2.out.am.frozen 2
    have y3 := D2.out.am.frozen 3
    have y4 := D2.out.am.frozen 4
    have y5 := D2.out.am.frozen 5
    have k0 := D2.out.bk.is 0 rfl
    have k1 := D2.out.bk.is 1 rfl
    have k2 := D2.out.bk.is 2 rfl
    have k3 := D2.out.bk.is 3 rfl
    have fk0 := D2.out.bk.frozen 0
    have fk1 := D2.out.bk.frozen 1
    have fk2 := D2.out.bk.frozen 2
    have fk3 := D2.out.bk.frozen 3
    have nab := D2.out.ne
    have nba := Ne.symm D2.out.ne
    go_wp2_with fail
    clear k0 k1 k2 k3 fk0 fk1 fk2 fk3
    clear z0 z1 z2 z3 z4 z5 y0 y1 y2 y3 y4 y5 nab nba
    have L := D2.out.zero
    have z0 : World.cell? _ ⟨a, 0, none⟩ = some (.int .u16 0) := L.am.is 0 rfl
    have z1 : World.cell? _ ⟨a, 1, none⟩ = some (.int .u16 0) := L.am.is 1 rfl
    have z2 : World.cell? _ ⟨a, 2, none⟩ = some (.slice none 0 0) := L.am.is 2 rfl
    have z3 : World.cell? _ ⟨a, 3, none⟩ = some (.slice none 0 0) := L.am.is 3 rfl
    have z4 : World.cell? _ ⟨a, 4, none⟩ = some (.slice none 0 0) := L.am.is 4 rfl
    have z5 : World.cell? _ ⟨a, 5, none⟩ = some (.slice none 0 0) := L.am.is 5 rfl
    have k0 : World.cell? _ ⟨b, 0, none⟩ = some (.string ⟨#[]⟩) := L.bk.is 0 rfl
    have k1 : World.cell? _ ⟨b, 1, none⟩ = some (.int .u16 0) := L.bk.is 1 rfl
    have k2 : World.cell? _ ⟨b, 2, none⟩ = some (.int .u16 0) := L.bk.is 2 rfl
    have k3 : World.cell? _ ⟨b, 3, none⟩ = some (.bool false) := L.bk.is 3 rfl
    exact bodyPost_ret (v := .tuple #[.agg zMsg, zKey.v, .int .i64 404]) (by simp [results, Try.results16, go_sem, z0, z1, z2, z3, z4, z5, k0, k1, k2, k3, zMsg, zKey, Key.v]) rfl ⟨⟨_, rfl, zM_at _⟩, L.bl⟩
  have c1e := Decidable.not_not.mp c1
  obtain ⟨d1, d2, d3⟩ := const_yes c1e (L := [47, 100, 110, 115, 45, 113, 117, 101, 114, 121]) rfl
  have C1 := Lib.hid c1e
  clear c1 c1e
  by_cases c2 : me = getT
  · obtain ⟨d4, d5, d6⟩ := const_yes c2 (L := [71, 69, 84]) rfl
    have C2 := Lib.hid c2
    have C2' := Lib.hid (show me ≠ postT by rw [c2]; exact fun e => post_get e.symm)
    clear c2
    have x0 := HX2.out.is 0 rfl
    have x1 := HX2.out.is 1 rfl
    have x2 := HX2.out.is 2 rfl
    have x3 := HX2.out.is 3 rfl
    have x4 := HX2.out.is 4 rfl
    have x5 := HX2.out.is 5 rfl
    go_wp2_with fail
    clear x0 x1 x2 x3 x4 x5
    refine (HQ1.out _).mono ?_
    rintro e w3 ⟨rfl, hb⟩
    have D3 := Aside0.mk (D2.out.call hb)
    clear hb D2 HX2
    go_wp2_with fail
    refine (HQ2.out _).mono ?_
    rintro e w4 ⟨rfl, hb⟩
    have D4 := Aside0.mk (D3.out.call hb)
    clear hb D3 d1 d2 d3 d4 d5 d6
    cases pb with
    | false =>
      have hq := NO.out (st := 400) (by rw [if_neg (by simp [C1.out]), if_neg C2'.out, if_neg (by simp [C2.out]), if_pos rfl]) (by decide)
      subst hq
      clear C1 C2 C2'
      have z0 := D4.out.am.is 0 rfl
      have z1 := D4.out.am.is 1 rfl
      have z2 := D4.out.am.is 2 rfl
      have z3 := D4.out.am.is 3 rfl
      have z4 := D4.out.am.is 4 rfl
      have z5 := D4.out.am.is 5 rfl
      have y0 := D4.out.am.frozen 0
      have y1 := D4.out.am.frozen 1
      have y2 := D4.out.am.frozen 2
      have y3 := D4.out.am.frozen 3
      have y4 := D4.out.am.frozen 4
      have y5 := D4.out.am.frozen 5
      have k0 := D4.out.bk.is 0 rfl
      have k1 := D4.out.bk.is 1 rfl
      have k2 := D4.out.bk.is 2 rfl
      have k3 := D4.out.bk.is 3 rfl
      have fk0 := D4.out.bk.frozen 0
      have fk1 := D4.out.bk.frozen 1
      have fk2 := D4.out.bk.frozen 2
      have fk3 := D4.out.bk.frozen 3
      have nab := D4.out.ne
      have nba := Ne.symm D4.out.ne
      go_wp2_with fail
      clear k0 k1 k2 k3 fk0 fk1 fk2 fk3
      clear z0 z1 z2 z3 z4 z5 y0 y1 y2 y3 y4 y5 nab nba
      have L := D4.out.zero
      have z0 : World.cell? _ ⟨a, 0, none⟩ = some (.int .u16 0) := L.am.is 0 rfl
      have z1 : World.cell? _ ⟨a, 1, none⟩ = some (.int .u16 0) := L.am.is 1 rfl
      have z2 : World.cell? _ ⟨a, 2, none⟩ = some (.slice none 0 0) := L.am.is 2 rfl
      have z3 : World.cell? _ ⟨a, 3, none⟩ = some (.slice none 0 0) := L.am.is 3 rfl
      have z4 : World.cell? _ ⟨a, 4, none⟩ = some (.slice none 0 0) := L.am.is 4 rfl
      have z5 : World.cell? _ ⟨a, 5, none⟩ = some (.slice none 0 0) := L.am.is 5 rfl
      have k0 : World.cell? _ ⟨b, 0, none⟩ = some (.string ⟨#[]⟩) := L.bk.is 0 rfl
      have k1 : World.cell? _ ⟨b, 1, none⟩ = some (.int .u16 0) := L.bk.is 1 rfl
      have k2 : World.cell? _ ⟨b, 2, none⟩ = some (.int .u16 0) := L.bk.is 2 rfl
      have k3 : World.cell? _ ⟨b, 3, none⟩ = some (.bool false) := L.bk.is 3 rfl
      exact bodyPost_ret (v := .tuple #[.agg zMsg, zKey.v, .int .i64 400]) (by simp [results, Try.results16, go_sem, z0, z1, z2, z3, z4, z5, k0, k1, k2, k3, zMsg, zKey, Key.v]) rfl ⟨⟨_, rfl, zM_at _⟩, L.bl⟩
    | true =>
      cases db with
      | false =>
        have hq := NO.out (st := 400) (by rw [if_neg (by simp [C1.out]), if_neg C2'.out, if_neg (by simp [C2.out]), if_neg (by simp), if_pos rfl]) (by decide)
        subst hq
        clear C1 C2 C2'
        have z0 := D4.out.am.is 0 rfl
        have z1 := D4.out.am.is 1 rfl
        have z2 := D4.out.am.is 2 rfl
        have z3 := D4.out.am.is 3 rfl
        have z4 := D4.out.am.is 4 rfl
        have z5 := D4.out.am.is 5 rfl
        have y0 := D4.out.am.frozen 0
        have y1 := D4.out.am.frozen 1
        have y2 := D4.out.am.frozen 2
        have y3 := D4.out.am.frozen 3
        have y4 := D4.out.am.frozen 4
        have y5 := D4.out.am.frozen 5
        have k0 := D4.out.bk.is 0 rfl
        have k1 := D4.out.bk.is 1 rfl
        have k2 := D4.out.bk.is 2 rfl
        have k3 := D4.out.bk.is 3 rfl
        have fk0 := D4.out.bk.frozen 0
        have fk1 := D4.out.bk.frozen 1
        have fk2 := D4.out.bk.frozen 2
        have fk3 := D4.out.bk.frozen 3
        have nab := D4.out.ne
        have nba := Ne.symm D4.out.ne
        go_wp2_with fail
        clear k0 k1 k2 k3 fk0 fk1 fk2 fk3
        clear z0 z1 z2 z3 z4 z5 y0 y1 y2 y3 y4 y5 nab nba
        have L := D4.out.zero
        have z0 : World.cell? _ ⟨a, 0, none⟩ = some (.int .u16 0) := L.am.is 0 rfl
        have z1 : World.cell? _ ⟨a, 1, none⟩ = some (.int .u16 0) := L.am.is 1 rfl
        have z2 : World.cell? _ ⟨a, 2, none⟩ = some (.slice none 0 0) := L.am.is 2 rfl
        have z3 : World.cell? _ ⟨a, 3, none⟩ = some (.slice none 0 0) := L.am.is 3 rfl
        have z4 : World.cell? _ ⟨a, 4, none⟩ = some (.slice none 0 0) := L.am.is 4 rfl
        have z5 : World.cell? _ ⟨a, 5, none⟩ = some (.slice none 0 0) := L.am.is 5 rfl
        have k0 : World.cell? _ ⟨b, 0, none⟩ = some (.string ⟨#[]⟩) := L.bk.is 0 rfl
        have k1 : World.cell? _ ⟨b, 1, none⟩ = some (.int .u16 0) := L.bk.is 1 rfl
        have k2 : World.cell? _ ⟨b, 2, none⟩ = some (.int .u16 0) := L.bk.is 2 rfl
        have k3 : World.cell? _ ⟨b, 3, none⟩ = some (.bool false) := L.bk.is 3 rfl
        exact bodyPost_ret (v := .tuple #[.agg zMsg, zKey.v, .int .i64 400]) (by simp [results, Try.results16, go_sem, z0, z1, z2, z3, z4, z5, k0, k1, k2, k3, zMsg, zKey, Key.v]) rfl ⟨⟨_, rfl, zM_at _⟩, L.bl⟩
      | true =>
        have hR := (YES.out (s := dv) (by rw [if_neg (by simp [C1.out]), if_neg C2'.out, if_neg (by simp [C2.out]), if_neg (by simp), if_neg (by simp)])).symm
        have hz := hz0
        clear C1 C2 C2' NO YES HQ1 HQ2 hz0 hbd
        have HZ := Lib.hid hz
        by_cases t1 : 65535 < dv.size
        · have hq : R = (zM, zKey, 413) := by rw [← hR]; unfold routeS; rw [if_pos ((readF_three _).2 t1)]
          subst hq
          have d1 : decide ((65535 : Int) < (dv.size : Int)) = true := decide_eq_true (by omega)
          have d1' : decide (65535 < dv.size) = true := decide_eq_true t1
          clear t1 hR
          have z0 := D4.out.am.is 0 rfl
          have z1 := D4.out.am.is 1 rfl
          have z2 := D4.out.am.is 2 rfl
          have z3 := D4.out.am.is 3 rfl
          have z4 := D4.out.am.is 4 rfl
          have z5 := D4.out.am.is 5 rfl
          have y0 := D4.out.am.frozen 0
          have y1 := D4.out.am.frozen 1
          have y2 := D4.out.am.frozen 2
          have y3 := D4.out.am.frozen 3
          have y4 := D4.out.am.frozen 4
          have y5 := D4.out.am.frozen 5
          have k0 := D4.out.bk.is 0 rfl
          have k1 := D4.out.bk.is 1 rfl
          have k2 := D4.out.bk.is 2 rfl
          have k3 := D4.out.bk.is 3 rfl
          have fk0 := D4.out.bk.frozen 0
          have fk1 := D4.out.bk.frozen 1
          have fk2 := D4.out.bk.frozen 2
          have fk3 := D4.out.bk.frozen 3
          have nab := D4.out.ne
          have nba := Ne.symm D4.out.ne
          go_wp2_with fail
          clear k0 k1 k2 k3 fk0 fk1 fk2 fk3
          clear z0 z1 z2 z3 z4 z5 y0 y1 y2 y3 y4 y5 nab nba
          have L := D4.out.zero
          have z0 : World.cell? _ ⟨a, 0, none⟩ = some (.int .u16 0) := L.am.is 0 rfl
          have z1 : World.cell? _ ⟨a, 1, none⟩ = some (.int .u16 0) := L.am.is 1 rfl
          have z2 : World.cell? _ ⟨a, 2, none⟩ = some (.slice none 0 0) := L.am.is 2 rfl
          have z3 : World.cell? _ ⟨a, 3, none⟩ = some (.slice none 0 0) := L.am.is 3 rfl
          have z4 : World.cell? _ ⟨a, 4, none⟩ = some (.slice none 0 0) := L.am.is 4 rfl
          have z5 : World.cell? _ ⟨a, 5, none⟩ = some (.slice none 0 0) := L.am.is 5 rfl
          have k0 : World.cell? _ ⟨b, 0, none⟩ = some (.string ⟨#[]⟩) := L.bk.is 0 rfl
          have k1 : World.cell? _ ⟨b, 1, none⟩ = some (.int .u16 0) := L.bk.is 1 rfl
          have k2 : World.cell? _ ⟨b, 2, none⟩ = some (.int .u16 0) := L.bk.is 2 rfl
          have k3 : World.cell? _ ⟨b, 3, none⟩ = some (.bool false) := L.bk.is 3 rfl
          exact bodyPost_ret (v := .tuple #[.agg zMsg, zKey.v, .int .i64 413]) (by simp [results, Try.results16, go_sem, z0, z1, z2, z3, z4, z5, k0, k1, k2, k3, zMsg, zKey, Key.v]) rfl ⟨⟨_, rfl, zM_at _⟩, L.bl⟩
        have d1 : decide ((65535 : Int) < (dv.size : Int)) = false := decide_eq_false (by omega)
        have d1' : decide (65535 < dv.size) = false := decide_eq_false t1
        have h3 : (readF dv).2 ≠ 3 := by rw [Ne, readF_three]; exact t1
        unfold routeS at hR
        rw [if_neg h3] at hR
        have hsm := readF_sm dv
        have hrd := fun w => read6_reads dv w (by have := HZ.out; omega)
        generalize readF dv = x at *
        obtain ⟨m, er⟩ := x
        simp only [] at hR hsm
        have HRD := Aside0.mk hrd
        clear hrd h3 t1
        go_wp2_with fail
        refine (HRD.out _).mono ?_
        rintro e w5 ⟨⟨v, rfl, hp⟩, hb⟩
        have D5' := Aside0.mk ((D4.out.call hb).msg hp)
        obtain ⟨v2, v3, v4, v5, rfl, q2, q3, q4, q5⟩ := hp
        obtain ⟨A2, l2, c2, rfl⟩ := R_anyslice q2
        obtain ⟨A3, l3, c3, rfl⟩ := R_anyslice q3
        obtain ⟨A4, l4, c4, rfl⟩ := R_anyslice q4
        obtain ⟨A5, l5, c5, rfl⟩ := R_anyslice q5
        have D5 : Aside0 (RS w w5 a b zMsg zKc _ m (.agg #[.int .u16 m.id, .int .u16 m.flags, .slice A2 l2 c2, .slice A3 l3 c3, .slice A4 l4 c4, .slice A5 l5 c5])) := D5'
        clear q2 q3 q4 q5 hb D4 D5' HRD d1 d1'
        go_upto_region 19 with fail
        have hb := below_alloc (Below.refl w5.heap.size w5) (.cells #[.int .u16 m.id, .int .u16 m.flags, .slice A2 l2 c2, .slice A3 l3 c3, .slice A4 l4 c4, .slice A5 l5 c5] 35 (0, 0))
        have hca := Nat.ne_of_gt D5.out.am.lt
        have hcb := Nat.ne_of_gt D5.out.bk.lt
        have HC := SAt.new w5 #[.int .u16 m.id, .int .u16 m.flags, .slice A2 l2 c2, .slice A3 l3 c3, .slice A4 l4 c4, .slice A5 l5 c5] 35
        have HC6 := Aside0.mk HC
        have D6 := Aside0.mk (D5.out.call hb)
        clear hb HC D5
        generalize w5.alloc (.cells #[.int .u16 m.id, .int .u16 m.flags, .slice A2 l2 c2, .slice A3 l3 c3, .slice A4 l4 c4, .slice A5 l5 c5] 35 (0, 0)) = w6 at *
        generalize w5.heap.size = c at *
        by_cases t2 : er ≠ 0
        · rw [if_pos t2] at hR
          subst hR
          have e1 : (er != 0) = true := bne_iff_ne.mpr t2
          clear t2
          have z0 := D6.out.am.is 0 rfl
          have z1 := D6.out.am.is 1 rfl
          have z2 := D6.out.am.is 2 rfl
          have z3 := D6.out.am.is 3 rfl
          have z4 := D6.out.am.is 4 rfl
          have z5 := D6.out.am.is 5 rfl
          have y0 := D6.out.am.frozen 0
          have y1 := D6.out.am.frozen 1
          have y2 := D6.out.am.frozen 2
          have y3 := D6.out.am.frozen 3
          have y4 := D6.out.am.frozen 4
          have y5 := D6.out.am.frozen 5
          have k0 := D6.out.bk.is 0 rfl
          have k1 := D6.out.bk.is 1 rfl
          have k2 := D6.out.bk.is 2 rfl
          have k3 := D6.out.bk.is 3 rfl
          have fk0 := D6.out.bk.frozen 0
          have fk1 := D6.out.bk.frozen 1
          have fk2 := D6.out.bk.frozen 2
          have fk3 := D6.out.bk.frozen 3
          have nab := D6.out.ne
          have nba := Ne.symm D6.out.ne
          go_wp2_with fail
          clear k0 k1 k2 k3 fk0 fk1 fk2 fk3
          clear z0 z1 z2 z3 z4 z5 y0 y1 y2 y3 y4 y5 nab nba
          have L := D6.out.zero
          have z0 : World.cell? _ ⟨a, 0, none⟩ = some (.int .u16 0) := L.am.is 0 rfl
          have z1 : World.cell? _ ⟨a, 1, none⟩ = some (.int .u16 0) := L.am.is 1 rfl
          have z2 : World.cell? _ ⟨a, 2, none⟩ = some (.slice none 0 0) := L.am.is 2 rfl
          have z3 : World.cell? _ ⟨a, 3, none⟩ = some (.slice none 0 0) := L.am.is 3 rfl
          have z4 : World.cell? _ ⟨a, 4, none⟩ = some (.slice none 0 0) := L.am.is 4 rfl
          have z5 : World.cell? _ ⟨a, 5, none⟩ = some (.slice none 0 0) := L.am.is 5 rfl
          have k0 : World.cell? _ ⟨b, 0, none⟩ = some (.string ⟨#[]⟩) := L.bk.is 0 rfl
          have k1 : World.cell? _ ⟨b, 1, none⟩ = some (.int .u16 0) := L.bk.is 1 rfl
          have k2 : World.cell? _ ⟨b, 2, none⟩ = some (.int .u16 0) := L.bk.is 2 rfl
          have k3 : World.cell? _ ⟨b, 3, none⟩ = some (.bool false) := L.bk.is 3 rfl
          exact bodyPost_ret (v := .tuple #[.agg zMsg, zKey.v, .int .i64 400]) (by simp [results, Try.results16, go_sem, z0, z1, z2, z3, z4, z5, k0, k1, k2, k3, zMsg, zKey, Key.v]) rfl ⟨⟨_, rfl, zM_at _⟩, L.bl⟩
        rw [if_neg t2] at hR
        obtain rfl := Decidable.not_not.mp t2
        clear t2
        have hask := fun W hv => ask08_calls m (.agg #[.int .u16 m.id, .int .u16 m.flags, .slice A2 l2 c2, .slice A3 l3 c3, .slice A4 l4 c4, .slice A5 l5 c5]) W hv hsm
        have HASK := Aside0.mk hask
        clear hask hsm
        have z0 := HC6.out.is 0 rfl
        have z1 := HC6.out.is 1 rfl
        have z2 := HC6.out.is 2 rfl
        have z3 := HC6.out.is 3 rfl
        have z4 := HC6.out.is 4 rfl
        have z5 := HC6.out.is 5 rfl
        go_wp2_with fail
        clear z0 z1 z2 z3 z4 z5
        refine (HASK.out _ (msgAt_of D6.out.p)).mono ?_
        rintro e w7 ⟨rfl, hb⟩
        have D7 := Aside0.mk (D6.out.call hb)
        have HC7 := Aside0.mk (HC6.out.below hb)
        clear hb D6 HC6 HASK
        cases ha : askF m with
        | none =>
          rw [ha] at hR
          simp only [] at hR
          unfold askE zKey Key.v
          simp only []
          subst hR
          clear ha
          go_upto_region 22 with fail
          have D8 := Aside0.mk (D7.out.call (below_alloc (Below.refl w7.heap.size w7) (.cells #[.string ⟨#[]⟩, .int .u16 0, .int .u16 0, .bool false] 37 (0, 0))))
          clear D7 HC7
          generalize w7.alloc (.cells #[.string ⟨#[]⟩, .int .u16 0, .int .u16 0, .bool false] 37 (0, 0)) = w8 at *
          have z0 := D8.out.am.is 0 rfl
          have z1 := D8.out.am.is 1 rfl
          have z2 := D8.out.am.is 2 rfl
          have z3 := D8.out.am.is 3 rfl
          have z4 := D8.out.am.is 4 rfl
          have z5 := D8.out.am.is 5 rfl
          have y0 := D8.out.am.frozen 0
          have y1 := D8.out.am.frozen 1
          have y2 := D8.out.am.frozen 2
          have y3 := D8.out.am.frozen 3
          have y4 := D8.out.am.frozen 4
          have y5 := D8.out.am.frozen 5
          have k0 := D8.out.bk.is 0 rfl
          have k1 := D8.out.bk.is 1 rfl
          have k2 := D8.out.bk.is 2 rfl
          have k3 := D8.out.bk.is 3 rfl
          have fk0 := D8.out.bk.frozen 0
          have fk1 := D8.out.bk.frozen 1
          have fk2 := D8.out.bk.frozen 2
          have fk3 := D8.out.bk.frozen 3
          have nab := D8.out.ne
          have nba := Ne.symm D8.out.ne
          go_wp2_with fail
          clear k0 k1 k2 k3 fk0 fk1 fk2 fk3
          clear z0 z1 z2 z3 z4 z5 y0 y1 y2 y3 y4 y5 nab nba
          have L := D8.out.zero
          have z0 : World.cell? _ ⟨a, 0, none⟩ = some (.int .u16 0) := L.am.is 0 rfl
          have z1 : World.cell? _ ⟨a, 1, none⟩ = some (.int .u16 0) := L.am.is 1 rfl
          have z2 : World.cell? _ ⟨a, 2, none⟩ = some (.slice none 0 0) := L.am.is 2 rfl
          have z3 : World.cell? _ ⟨a, 3, none⟩ = some (.slice none 0 0) := L.am.is 3 rfl
          have z4 : World.cell? _ ⟨a, 4, none⟩ = some (.slice none 0 0) := L.am.is 4 rfl
          have z5 : World.cell? _ ⟨a, 5, none⟩ = some (.slice none 0 0) := L.am.is 5 rfl
          have k0 : World.cell? _ ⟨b, 0, none⟩ = some (.string ⟨#[]⟩) := L.bk.is 0 rfl
          have k1 : World.cell? _ ⟨b, 1, none⟩ = some (.int .u16 0) := L.bk.is 1 rfl
          have k2 : World.cell? _ ⟨b, 2, none⟩ = some (.int .u16 0) := L.bk.is 2 rfl
          have k3 : World.cell? _ ⟨b, 3, none⟩ = some (.bool false) := L.bk.is 3 rfl
          exact bodyPost_ret (v := .tuple #[.agg zMsg, zKey.v, .int .i64 400]) (by simp [results, Try.results16, go_sem, z0, z1, z2, z3, z4, z5, k0, k1, k2, k3, zMsg, zKey, Key.v]) rfl ⟨⟨_, rfl, zM_at _⟩, L.bl⟩
        | some k =>
          rw [ha] at hR
          simp only [] at hR
          obtain ⟨kn, kt, kc, kd⟩ := k
          unfold askE Key.v
          simp only []
          subst hR
          clear ha
          go_upto_region 22 with fail
          have hb := below_alloc (Below.refl w7.heap.size w7) (.cells #[.string kn, .int .u16 kt, .int .u16 kc, .bool kd] 37 (0, 0))
          have D8 := Aside0.mk (D7.out.call hb)
          have HC8 := Aside0.mk (HC7.out.below hb)
          have HN := Aside0.mk (show c ≠ a ∧ c ≠ b ∧ w7.heap.size ≠ a ∧ w7.heap.size ≠ b from ⟨hca, hcb, Nat.ne_of_gt D7.out.am.lt, Nat.ne_of_gt D7.out.bk.lt⟩)
          have HE8 := Aside0.mk (SAt.new w7 #[.string kn, .int .u16 kt, .int .u16 kc, .bool kd] 37)
          clear hb D7 HC7
          generalize w7.alloc (.cells #[.string kn, .int .u16 kt, .int .u16 kc, .bool kd] 37 (0, 0)) = w8 at *
          generalize w7.heap.size = d at *
          go_upto_region 24 with fail
          have D9 : Aside0 (RS2 w w8 a b c d zMsg zKc #[.int .u16 m.id, .int .u16 m.flags, .slice A2 l2 c2, .slice A3 l3 c3, .slice A4 l4 c4, .slice A5 l5 c5] #[.string kn, .int .u16 kt, .int .u16 kc, .bool kd] _ m (.agg #[.int .u16 m.id, .int .u16 m.flags, .slice A2 l2 c2, .slice A3 l3 c3, .slice A4 l4 c4, .slice A5 l5 c5])) := ⟨D8.out, HC8.out, HE8.out, HN.out.1, HN.out.2.1, HN.out.2.2.1, HN.out.2.2.2⟩
          obtain ⟨BB, DD⟩ : ∃ BB, Aside0 (RS2 w w8 a b c d zMsg zKc #[.int .u16 m.id, .int .u16 m.flags, .slice A2 l2 c2, .slice A3 l3 c3, .slice A4 l4 c4, .slice A5 l5 c5] #[.string kn, .int .u16 kt, .int .u16 kc, .bool kd] BB m (.agg #[.int .u16 m.id, .int .u16 m.flags, .slice A2 l2 c2, .slice A3 l3 c3, .slice A4 l4 c4, .slice A5 l5 c5])) := ⟨_, D9⟩
          clear D8 D9 HC8 HE8 HN
          refine dr_start (fun w' => (((w'.cell? ⟨c, 0, none⟩ = some (.int .u16 m.id) ∧ w'.cell? ⟨c, 1, none⟩ = some (.int .u16 m.flags) ∧ w'.cell? ⟨c, 2, none⟩ = some (.slice A2 l2 c2) ∧ w'.cell? ⟨c, 3, none⟩ = some (.slice A3 l3 c3) ∧ w'.cell? ⟨c, 4, none⟩ = some (.slice A4 l4 c4) ∧ w'.cell? ⟨c, 5, none⟩ = some (.slice A5 l5 c5)) ∧ (w'.cell? ⟨d, 0, none⟩ = some (.string kn) ∧ w'.cell? ⟨d, 1, none⟩ = some (.int .u16 kt) ∧ w'.cell? ⟨d, 2, none⟩ = some (.int .u16 kc) ∧ w'.cell? ⟨d, 3, none⟩ = some (.bool kd))) ∧ Aside0 (∃ ms ks, RS2 w w' a b c d ms ks #[.int .u16 m.id, .int .u16 m.flags, .slice A2 l2 c2, .slice A3 l3 c3, .slice A4 l4 c4, .slice A5 l5 c5] #[.string kn, .int .u16 kt, .int .u16 kc, .bool kd] BB m (.agg #[.int .u16 m.id, .int .u16 m.flags, .slice A2 l2 c2, .slice A3 l3 c3, .slice A4 l4 c4, .slice A5 l5 c5])))) [] (by kernel_rfl) (rs2_cells (w := w8.drew) ⟨DD.out.rs.drew, DD.out.hc, DD.out.hd, DD.out.ca, DD.out.cb, DD.out.da, DD.out.db⟩) (fun hS => ?_)
          repeat (first | (refine dr_pure (by kernel_rfl) (by rfl) (fun _ _ _ h => h) (v := ?_) (a' := ?_) ?_ ?_ ?_; rotate_left 2; (focus (intro w'; go_simp; with_reducible rfl)); (focus (simp only [Act.put, List.setIfInBounds_toArray, List.set_cons_zero, List.set_cons_succ]; rfl))) | (refine dr_take (by kernel_rfl) (by rfl) (fun _ _ _ h => h) hS (v := ?_) (a' := ?_) ?_ ?_ ?_; rotate_left 2; (focus (intro w' hS'; go_simp; with_reducible rfl)); (focus (simp only [Act.put, List.setIfInBounds_toArray, List.set_cons_zero, List.set_cons_succ]; rfl))) | (refine dr_off (by kernel_rfl) (by rfl) (fun _ _ _ h => h) (a' := ?_) ?_ ?_; rotate_left; (focus (simp only [Act.put, List.setIfInBounds_toArray, List.set_cons_zero, List.set_cons_succ]; rfl))))
          have D9 : Aside0 (RS2 w w8.drew a b c d zMsg zKc #[.int .u16 m.id, .int .u16 m.flags, .slice A2 l2 c2, .slice A3 l3 c3, .slice A4 l4 c4, .slice A5 l5 c5] #[.string kn, .int .u16 kt, .int .u16 kc, .bool kd] BB m (.agg #[.int .u16 m.id, .int .u16 m.flags, .slice A2 l2 c2, .slice A3 l3 c3, .slice A4 l4 c4, .slice A5 l5 c5])) := ⟨DD.out.rs.drew, DD.out.hc, DD.out.hd, DD.out.ca, DD.out.cb, DD.out.da, DD.out.db⟩
          clear DD hS
          generalize w8.drew = w9 at *
          have E9 := Aside0.mk D9.out.rs
          have z0 := E9.out.am.is 0 rfl
          have z1 := E9.out.am.is 1 rfl
          have z2 := E9.out.am.is 2 rfl
          have z3 := E9.out.am.is 3 rfl
          have z4 := E9.out.am.is 4 rfl
          have z5 := E9.out.am.is 5 rfl
          have y0 := E9.out.am.frozen 0
          have y1 := E9.out.am.frozen 1
          have y2 := E9.out.am.frozen 2
          have y3 := E9.out.am.frozen 3
          have y4 := E9.out.am.frozen 4
          have y5 := E9.out.am.frozen 5
          have k0 := E9.out.bk.is 0 rfl
          have k1 := E9.out.bk.is 1 rfl
          have k2 := E9.out.bk.is 2 rfl
          have k3 := E9.out.bk.is 3 rfl
          have fk0 := E9.out.bk.frozen 0
          have fk1 := E9.out.bk.frozen 1
          have fk2 := E9.out.bk.frozen 2
          have fk3 := E9.out.bk.frozen 3
          have nab := E9.out.ne
          have nba := Ne.symm E9.out.ne
          refine dr_skip ((((((w9.setCell ⟨a, 0, none⟩ (.int .u16 m.id)).setCell ⟨a, 1, none⟩ (.int .u16 m.flags)).setCell ⟨a, 2, none⟩ (.slice A2 l2 c2)).setCell ⟨a, 3, none⟩ (.slice A3 l3 c3)).setCell ⟨a, 4, none⟩ (.slice A4 l4 c4)).setCell ⟨a, 5, none⟩ (.slice A5 l5 c5)) (by kernel_rfl) (by rfl) (by rfl) rfl ⟨by go_simp⟩ (rs2_cells D9.out.mset) (fun hS => ?_)
          clear k0 k1 k2 k3 fk0 fk1 fk2 fk3
          clear z0 z1 z2 z3 z4 z5 y0 y1 y2 y3 y4 y5 nab nba
          have DA' := D9.out.mset (u0 := .int .u16 m.id) (u1 := .int .u16 m.flags) (u2 := .slice A2 l2 c2) (u3 := .slice A3 l3 c3) (u4 := .slice A4 l4 c4) (u5 := .slice A5 l5 c5)
          clear hS
          generalize (((((w9.setCell ⟨a, 0, none⟩ (.int .u16 m.id)).setCell ⟨a, 1, none⟩ (.int .u16 m.flags)).setCell ⟨a, 2, none⟩ (.slice A2 l2 c2)).setCell ⟨a, 3, none⟩ (.slice A3 l3 c3)).setCell ⟨a, 4, none⟩ (.slice A4 l4 c4)).setCell ⟨a, 5, none⟩ (.slice A5 l5 c5) = wA at *
          have DA := Aside0.mk DA'
          have EA := Aside0.mk DA'.rs
          clear D9 DA' E9
          have z0 := EA.out.am.is 0 rfl
          have z1 := EA.out.am.is 1 rfl
          have z2 := EA.out.am.is 2 rfl
          have z3 := EA.out.am.is 3 rfl
          have z4 := EA.out.am.is 4 rfl
          have z5 := EA.out.am.is 5 rfl
          have y0 := EA.out.am.frozen 0
          have y1 := EA.out.am.frozen 1
          have y2 := EA.out.am.frozen 2
          have y3 := EA.out.am.frozen 3
          have y4 := EA.out.am.frozen 4
          have y5 := EA.out.am.frozen 5
          have k0 := EA.out.bk.is 0 rfl
          have k1 := EA.out.bk.is 1 rfl
          have k2 := EA.out.bk.is 2 rfl
          have k3 := EA.out.bk.is 3 rfl
          have fk0 := EA.out.bk.frozen 0
          have fk1 := EA.out.bk.frozen 1
          have fk2 := EA.out.bk.frozen 2
          have fk3 := EA.out.bk.frozen 3
          have nab := EA.out.ne
          have nba := Ne.symm EA.out.ne
          refine dr_skip ((((wA.setCell ⟨b, 0, none⟩ (.string kn)).setCell ⟨b, 1, none⟩ (.int .u16 kt)).setCell ⟨b, 2, none⟩ (.int .u16 kc)).setCell ⟨b, 3, none⟩ (.bool kd)) (by kernel_rfl) (by rfl) (by rfl) rfl ⟨by go_simp⟩ (rs2_cells DA.out.kset) (fun hS => ?_)
          clear k0 k1 k2 k3 fk0 fk1 fk2 fk3
          clear z0 z1 z2 z3 z4 z5 y0 y1 y2 y3 y4 y5 nab nba
          clear hS
          have DB' := DA.out.rs.kset (u0 := .string kn) (u1 := .int .u16 kt) (u2 := .int .u16 kc) (u3 := .bool kd)
          generalize (((wA.setCell ⟨b, 0, none⟩ (.string kn)).setCell ⟨b, 1, none⟩ (.int .u16 kt)).setCell ⟨b, 2, none⟩ (.int .u16 kc)).setCell ⟨b, 3, none⟩ (.bool kd) = wB at *
          obtain ⟨⟨⟨z0, z1, z2, z3, z4, z5⟩, k0, k1, k2, k3⟩, DB⟩ := rs_cells DB'
          clear DA EA DB'
          repeat (first | (refine dr_pure (by kernel_rfl) (by rfl) (fun _ _ _ h => h) (v := ?_) (a' := ?_) ?_ ?_ ?_; rotate_left 2; (focus (intro w'; go_simp; with_reducible rfl)); (focus (simp only [Act.put, List.setIfInBounds_toArray, List.set_cons_zero, List.set_cons_succ]; rfl))) | (refine dr_take (by kernel_rfl) (by rfl) (fun _ _ _ h => h) hS (v := ?_) (a' := ?_) ?_ ?_ ?_; rotate_left 2; (focus (intro w' hS'; go_simp; with_reducible rfl)); (focus (simp only [Act.put, List.setIfInBounds_toArray, List.set_cons_zero, List.set_cons_succ]; rfl))) | (refine dr_off (by kernel_rfl) (by rfl) (fun _ _ _ h => h) (a' := ?_) ?_ ?_; rotate_left; (focus (simp only [Act.put, List.setIfInBounds_toArray, List.set_cons_zero, List.set_cons_succ]; rfl))))
          refine dr_done (by kernel_rfl) ?_
          go_wp2_with fail
          exact bodyPost_ret (v := .tuple #[.agg #[.int .u16 m.id, .int .u16 m.flags, .slice A2 l2 c2, .slice A3 l3 c3, .slice A4 l4 c4, .slice A5 l5 c5], Key.v ⟨kn, kt, kc, kd⟩, .int .i64 200]) (by simp [results, Try.results16, go_sem, z0, z1, z2, z3, z4, z5, k0, k1, k2, k3, Key.v]) rfl ⟨⟨_, rfl, msgAt_of DB.out.p⟩, DB.out.bl⟩
  obtain ⟨d4, d5, d6⟩ := const_no c2 (L := [71, 69, 84]) rfl
  have C2 := Lib.hid c2
  clear c2
  by_cases c3 : me = postT
  · obtain ⟨d7, d8, d9⟩ := const_yes c3 (L := [80, 79, 83, 84]) rfl
    have C3 := Lib.hid c3
    clear c3
    by_cases c4 : md ≠ mediaT
    · have hq := NO.out (st := 415) (by rw [if_neg (by simp [C1.out]), if_pos C3.out, if_pos c4]) (by decide)
      subst hq
      obtain ⟨d10, d11, d12⟩ := const_no c4 (L := [97, 112, 112, 108, 105, 99, 97, 116, 105, 111, 110, 47, 100, 110, 115, 45, 109, 101, 115, 115, 97, 103, 101]) rfl
      clear c4
      have x0 := HX2.out.is 0 rfl
      have x1 := HX2.out.is 1 rfl
      have x2 := HX2.out.is 2 rfl
      have x3 := HX2.out.is 3 rfl
      have x4 := HX2.out.is 4 rfl
      have x5 := HX2.out.is 5 rfl
      have z0 := D2.out.am.is 0 rfl
      have z1 := D2.out.am.is 1 rfl
      have z2 := D2.out.am.is 2 rfl
      have z3 := D2.out.am.is 3 rfl
      have z4 := D2.out.am.is 4 rfl
      have z5 := D2.out.am.is 5 rfl
      have y0 := D2.out.am.frozen 0
      have y1 := D2.out.am.frozen 1
      have y2 := D2.out.am.frozen 2
      have y3 := D2.out.am.frozen 3
      have y4 := D2.out.am.frozen 4
      have y5 := D2.out.am.frozen 5
      have k0 := D2.out.bk.is 0 rfl
      have k1 := D2.out.bk.is 1 rfl
      have k2 := D2.out.bk.is 2 rfl
      have k3 := D2.out.bk.is 3 rfl
      have fk0 := D2.out.bk.frozen 0
      have fk1 := D2.out.bk.frozen 1
      have fk2 := D2.out.bk.frozen 2
      have fk3 := D2.out.bk.frozen 3
      have nab := D2.out.ne
      have nba := Ne.symm D2.out.ne
      go_wp2_with fail
      clear k0 k1 k2 k3 fk0 fk1 fk2 fk3
      clear z0 z1 z2 z3 z4 z5 y0 y1 y2 y3 y4 y5 nab nba
      have L := D2.out.zero
      have z0 : World.cell? _ ⟨a, 0, none⟩ = some (.int .u16 0) := L.am.is 0 rfl
      have z1 : World.cell? _ ⟨a, 1, none⟩ = some (.int .u16 0) := L.am.is 1 rfl
      have z2 : World.cell? _ ⟨a, 2, none⟩ = some (.slice none 0 0) := L.am.is 2 rfl
      have z3 : World.cell? _ ⟨a, 3, none⟩ = some (.slice none 0 0) := L.am.is 3 rfl
      have z4 : World.cell? _ ⟨a, 4, none⟩ = some (.slice none 0 0) := L.am.is 4 rfl
      have z5 : World.cell? _ ⟨a, 5, none⟩ = some (.slice none 0 0) := L.am.is 5 rfl
      have k0 : World.cell? _ ⟨b, 0, none⟩ = some (.string ⟨#[]⟩) := L.bk.is 0 rfl
      have k1 : World.cell? _ ⟨b, 1, none⟩ = some (.int .u16 0) := L.bk.is 1 rfl
      have k2 : World.cell? _ ⟨b, 2, none⟩ = some (.int .u16 0) := L.bk.is 2 rfl
      have k3 : World.cell? _ ⟨b, 3, none⟩ = some (.bool false) := L.bk.is 3 rfl
      exact bodyPost_ret (v := .tuple #[.agg zMsg, zKey.v, .int .i64 415]) (by simp [results, Try.results16, go_sem, z0, z1, z2, z3, z4, z5, k0, k1, k2, k3, zMsg, zKey, Key.v]) rfl ⟨⟨_, rfl, zM_at _⟩, L.bl⟩
    have c4 := Decidable.not_not.mp c4
    have hR := (YES.out (s := body) (by rw [if_neg (by simp [C1.out]), if_pos C3.out, if_neg (by simp [c4])])).symm
    obtain ⟨d10, d11, d12⟩ := const_yes c4 (L := [97, 112, 112, 108, 105, 99, 97, 116, 105, 111, 110, 47, 100, 110, 115, 45, 109, 101, 115, 115, 97, 103, 101]) rfl
    have hz := hbd
    clear c4 C1 C2 C3 NO YES HQ1 HQ2 hz0 hbd
    have x0 := HX2.out.is 0 rfl
    have x1 := HX2.out.is 1 rfl
    have x2 := HX2.out.is 2 rfl
    have x3 := HX2.out.is 3 rfl
    have x4 := HX2.out.is 4 rfl
    have x5 := HX2.out.is 5 rfl
    go_upto_region 16 with fail
    clear x0 x1 x2 x3 x4 x5 d1 d2 d3 d4 d5 d6 d7 d8 d9 d10 d11 d12 HX2
    have HZ := Lib.hid hz
    by_cases t1 : 65535 < body.size
    · have hq : R = (zM, zKey, 413) := by rw [← hR]; unfold routeS; rw [if_pos ((readF_three _).2 t1)]
      subst hq
      have d1 : decide ((65535 : Int) < (body.size : Int)) = true := decide_eq_true (by omega)
      have d1' : decide (65535 < body.size) = true := decide_eq_true t1
      clear t1 hR
      have z0 := D2.out.am.is 0 rfl
      have z1 := D2.out.am.is 1 rfl
      have z2 := D2.out.am.is 2 rfl
      have z3 := D2.out.am.is 3 rfl
      have z4 := D2.out.am.is 4 rfl
      have z5 := D2.out.am.is 5 rfl
      have y0 := D2.out.am.frozen 0
      have y1 := D2.out.am.frozen 1
      have y2 := D2.out.am.frozen 2
      have y3 := D2.out.am.frozen 3
      have y4 := D2.out.am.frozen 4
      have y5 := D2.out.am.frozen 5
      have k0 := D2.out.bk.is 0 rfl
      have k1 := D2.out.bk.is 1 rfl
      have k2 := D2.out.bk.is 2 rfl
      have k3 := D2.out.bk.is 3 rfl
      have fk0 := D2.out.bk.frozen 0
      have fk1 := D2.out.bk.frozen 1
      have fk2 := D2.out.bk.frozen 2
      have fk3 := D2.out.bk.frozen 3
      have nab := D2.out.ne
      have nba := Ne.symm D2.out.ne
      go_wp2_with fail
      clear k0 k1 k2 k3 fk0 fk1 fk2 fk3
      clear z0 z1 z2 z3 z4 z5 y0 y1 y2 y3 y4 y5 nab nba
      have L := D2.out.zero
      have z0 : World.cell? _ ⟨a, 0, none⟩ = some (.int .u16 0) := L.am.is 0 rfl
      have z1 : World.cell? _ ⟨a, 1, none⟩ = some (.int .u16 0) := L.am.is 1 rfl
      have z2 : World.cell? _ ⟨a, 2, none⟩ = some (.slice none 0 0) := L.am.is 2 rfl
      have z3 : World.cell? _ ⟨a, 3, none⟩ = some (.slice none 0 0) := L.am.is 3 rfl
      have z4 : World.cell? _ ⟨a, 4, none⟩ = some (.slice none 0 0) := L.am.is 4 rfl
      have z5 : World.cell? _ ⟨a, 5, none⟩ = some (.slice none 0 0) := L.am.is 5 rfl
      have k0 : World.cell? _ ⟨b, 0, none⟩ = some (.string ⟨#[]⟩) := L.bk.is 0 rfl
      have k1 : World.cell? _ ⟨b, 1, none⟩ = some (.int .u16 0) := L.bk.is 1 rfl
      have k2 : World.cell? _ ⟨b, 2, none⟩ = some (.int .u16 0) := L.bk.is 2 rfl
      have k3 : World.cell? _ ⟨b, 3, none⟩ = some (.bool false) := L.bk.is 3 rfl
      exact bodyPost_ret (v := .tuple #[.agg zMsg, zKey.v, .int .i64 413]) (by simp [results, Try.results16, go_sem, z0, z1, z2, z3, z4, z5, k0, k1, k2, k3, zMsg, zKey, Key.v]) rfl ⟨⟨_, rfl, zM_at _⟩, L.bl⟩
    have d1 : decide ((65535 : Int) < (body.size : Int)) = false := decide_eq_false (by omega)
    have d1' : decide (65535 < body.size) = false := decide_eq_false t1
    have h3 : (readF body).2 ≠ 3 := by rw [Ne, readF_three]; exact t1
    unfold routeS at hR
    rw [if_neg h3] at hR
    have hsm := readF_sm body
    have hrd := fun w => read6_reads body w (by have := HZ.out; omega)
    generalize readF body = x at *
    obtain ⟨m, er⟩ := x
    simp only [] at hR hsm
    have HRD := Aside0.mk hrd
    clear hrd h3 t1
    go_wp2_with fail
    refine (HRD.out _).mono ?_
    rintro e w5 ⟨⟨v, rfl, hp⟩, hb⟩
    have D5' := Aside0.mk ((D2.out.call hb).msg hp)
    obtain ⟨v2, v3, v4, v5, rfl, q2, q3, q4, q5⟩ := hp
    obtain ⟨A2, l2, c2, rfl⟩ := R_anyslice q2
    obtain ⟨A3, l3, c3, rfl⟩ := R_anyslice q3
    obtain ⟨A4, l4, c4, rfl⟩ := R_anyslice q4
    obtain ⟨A5, l5, c5, rfl⟩ := R_anyslice q5
    have D5 : Aside0 (RS w w5 a b zMsg zKc _ m (.agg #[.int .u16 m.id, .int .u16 m.flags, .slice A2 l2 c2, .slice A3 l3 c3, .slice A4 l4 c4, .slice A5 l5 c5])) := D5'
    clear q2 q3 q4 q5 hb D2 D5' HRD d1 d1'
    go_upto_region 19 with fail
    have hb := below_alloc (Below.refl w5.heap.size w5) (.cells #[.int .u16 m.id, .int .u16 m.flags, .slice A2 l2 c2, .slice A3 l3 c3, .slice A4 l4 c4, .slice A5 l5 c5] 35 (0, 0))
    have hca := Nat.ne_of_gt D5.out.am.lt
    have hcb := Nat.ne_of_gt D5.out.bk.lt
    have HC := SAt.new w5 #[.int .u16 m.id, .int .u16 m.flags, .slice A2 l2 c2, .slice A3 l3 c3, .slice A4 l4 c4, .slice A5 l5 c5] 35
    have HC6 := Aside0.mk HC
    have D6 := Aside0.mk (D5.out.call hb)
    clear hb HC D5
    generalize w5.alloc (.cells #[.int .u16 m.id, .int .u16 m.flags, .slice A2 l2 c2, .slice A3 l3 c3, .slice A4 l4 c4, .slice A5 l5 c5] 35 (0, 0)) = w6 at *
    generalize w5.heap.size = c at *
    by_cases t2 : er ≠ 0
    · rw [if_pos t2] at hR
      subst hR
      have e1 : (er != 0) = true := bne_iff_ne.mpr t2
      clear t2
      have z0 := D6.out.am.is 0 rfl
      have z1 := D6.out.am.is 1 rfl
      have z2 := D6.out.am.is 2 rfl
      have z3 := D6.out.am.is 3 rfl
      have z4 := D6.out.am.is 4 rfl
      have z5 := D6.out.am.is 5 rfl
      have y0 := D6.out.am.frozen 0
      have y1 := D6.out.am.frozen 1
      have y2 := D6.out.am.frozen 2
      have y3 := D6.out.am.frozen 3
      have y4 := D6.out.am.frozen 4
      have y5 := D6.out.am.frozen 5
      have k0 := D6.out.bk.is 0 rfl
      have k1 := D6.out.bk.is 1 rfl
      have k2 := D6.out.bk.is 2 rfl
      have k3 := D6.out.bk.is 3 rfl
      have fk0 := D6.out.bk.frozen 0
      have fk1 := D6.out.bk.frozen 1
      have fk2 := D6.out.bk.frozen 2
      have fk3 := D6.out.bk.frozen 3
      have nab := D6.out.ne
      have nba := Ne.symm D6.out.ne
      go_wp2_with fail
      clear k0 k1 k2 k3 fk0 fk1 fk2 fk3
      clear z0 z1 z2 z3 z4 z5 y0 y1 y2 y3 y4 y5 nab nba
      have L := D6.out.zero
      have z0 : World.cell? _ ⟨a, 0, none⟩ = some (.int .u16 0) := L.am.is 0 rfl
      have z1 : World.cell? _ ⟨a, 1, none⟩ = some (.int .u16 0) := L.am.is 1 rfl
      have z2 : World.cell? _ ⟨a, 2, none⟩ = some (.slice none 0 0) := L.am.is 2 rfl
      have z3 : World.cell? _ ⟨a, 3, none⟩ = some (.slice none 0 0) := L.am.is 3 rfl
      have z4 : World.cell? _ ⟨a, 4, none⟩ = some (.slice none 0 0) := L.am.is 4 rfl
      have z5 : World.cell? _ ⟨a, 5, none⟩ = some (.slice none 0 0) := L.am.is 5 rfl
      have k0 : World.cell? _ ⟨b, 0, none⟩ = some (.string ⟨#[]⟩) := L.bk.is 0 rfl
      have k1 : World.cell? _ ⟨b, 1, none⟩ = some (.int .u16 0) := L.bk.is 1 rfl
      have k2 : World.cell? _ ⟨b, 2, none⟩ = some (.int .u16 0) := L.bk.is 2 rfl
      have k3 : World.cell? _ ⟨b, 3, none⟩ = some (.bool false) := L.bk.is 3 rfl
      exact bodyPost_ret (v := .tuple #[.agg zMsg, zKey.v, .int .i64 400]) (by simp [results, Try.results16, go_sem, z0, z1, z2, z3, z4, z5, k0, k1, k2, k3, zMsg, zKey, Key.v]) rfl ⟨⟨_, rfl, zM_at _⟩, L.bl⟩
    rw [if_neg t2] at hR
    obtain rfl := Decidable.not_not.mp t2
    clear t2
    have hask := fun W hv => ask08_calls m (.agg #[.int .u16 m.id, .int .u16 m.flags, .slice A2 l2 c2, .slice A3 l3 c3, .slice A4 l4 c4, .slice A5 l5 c5]) W hv hsm
    have HASK := Aside0.mk hask
    clear hask hsm
    have z0 := HC6.out.is 0 rfl
    have z1 := HC6.out.is 1 rfl
    have z2 := HC6.out.is 2 rfl
    have z3 := HC6.out.is 3 rfl
    have z4 := HC6.out.is 4 rfl
    have z5 := HC6.out.is 5 rfl
    go_wp2_with fail
    clear z0 z1 z2 z3 z4 z5
    refine (HASK.out _ (msgAt_of D6.out.p)).mono ?_
    rintro e w7 ⟨rfl, hb⟩
    have D7 := Aside0.mk (D6.out.call hb)
    have HC7 := Aside0.mk (HC6.out.below hb)
    clear hb D6 HC6 HASK
    cases ha : askF m with
    | none =>
      rw [ha] at hR
      simp only [] at hR
      unfold askE zKey Key.v
      simp only []
      subst hR
      clear ha
      go_upto_region 22 with fail
      have D8 := Aside0.mk (D7.out.call (below_alloc (Below.refl w7.heap.size w7) (.cells #[.string ⟨#[]⟩, .int .u16 0, .int .u16 0, .bool false] 37 (0, 0))))
      clear D7 HC7
      generalize w7.alloc (.cells #[.string ⟨#[]⟩, .int .u16 0, .int .u16 0, .bool false] 37 (0, 0)) = w8 at *
      have z0 := D8.out.am.is 0 rfl
      have z1 := D8.out.am.is 1 rfl
      have z2 := D8.out.am.is 2 rfl
      have z3 := D8.out.am.is 3 rfl
      have z4 := D8.out.am.is 4 rfl
      have z5 := D8.out.am.is 5 rfl
      have y0 := D8.out.am.frozen 0
      have y1 := D8.out.am.frozen 1
      have y2 := D8.out.am.frozen 2
      have y3 := D8.out.am.frozen 3
      have y4 := D8.out.am.frozen 4
      have y5 := D8.out.am.frozen 5
      have k0 := D8.out.bk.is 0 rfl
      have k1 := D8.out.bk.is 1 rfl
      have k2 := D8.out.bk.is 2 rfl
      have k3 := D8.out.bk.is 3 rfl
      have fk0 := D8.out.bk.frozen 0
      have fk1 := D8.out.bk.frozen 1
      have fk2 := D8.out.bk.frozen 2
      have fk3 := D8.out.bk.frozen 3
      have nab := D8.out.ne
      have nba := Ne.symm D8.out.ne
      go_wp2_with fail
      clear k0 k1 k2 k3 fk0 fk1 fk2 fk3
      clear z0 z1 z2 z3 z4 z5 y0 y1 y2 y3 y4 y5 nab nba
      have L := D8.out.zero
      have z0 : World.cell? _ ⟨a, 0, none⟩ = some (.int .u16 0) := L.am.is 0 rfl
      have z1 : World.cell? _ ⟨a, 1, none⟩ = some (.int .u16 0) := L.am.is 1 rfl
      have z2 : World.cell? _ ⟨a, 2, none⟩ = some (.slice none 0 0) := L.am.is 2 rfl
      have z3 : World.cell? _ ⟨a, 3, none⟩ = some (.slice none 0 0) := L.am.is 3 rfl
      have z4 : World.cell? _ ⟨a, 4, none⟩ = some (.slice none 0 0) := L.am.is 4 rfl
      have z5 : World.cell? _ ⟨a, 5, none⟩ = some (.slice none 0 0) := L.am.is 5 rfl
      have k0 : World.cell? _ ⟨b, 0, none⟩ = some (.string ⟨#[]⟩) := L.bk.is 0 rfl
      have k1 : World.cell? _ ⟨b, 1, none⟩ = some (.int .u16 0) := L.bk.is 1 rfl
      have k2 : World.cell? _ ⟨b, 2, none⟩ = some (.int .u16 0) := L.bk.is 2 rfl
      have k3 : World.cell? _ ⟨b, 3, none⟩ = some (.bool false) := L.bk.is 3 rfl
      exact bodyPost_ret (v := .tuple #[.agg zMsg, zKey.v, .int .i64 400]) (by simp [results, Try.results16, go_sem, z0, z1, z2, z3, z4, z5, k0, k1, k2, k3, zMsg, zKey, Key.v]) rfl ⟨⟨_, rfl, zM_at _⟩, L.bl⟩
    | some k =>
      rw [ha] at hR
      simp only [] at hR
      obtain ⟨kn, kt, kc, kd⟩ := k
      unfold askE Key.v
      simp only []
      subst hR
      clear ha
      go_upto_region 22 with fail
      have hb := below_alloc (Below.refl w7.heap.size w7) (.cells #[.string kn, .int .u16 kt, .int .u16 kc, .bool kd] 37 (0, 0))
      have D8 := Aside0.mk (D7.out.call hb)
      have HC8 := Aside0.mk (HC7.out.below hb)
      have HN := Aside0.mk (show c ≠ a ∧ c ≠ b ∧ w7.heap.size ≠ a ∧ w7.heap.size ≠ b from ⟨hca, hcb, Nat.ne_of_gt D7.out.am.lt, Nat.ne_of_gt D7.out.bk.lt⟩)
      have HE8 := Aside0.mk (SAt.new w7 #[.string kn, .int .u16 kt, .int .u16 kc, .bool kd] 37)
      clear hb D7 HC7
      generalize w7.alloc (.cells #[.string kn, .int .u16 kt, .int .u16 kc, .bool kd] 37 (0, 0)) = w8 at *
      generalize w7.heap.size = d at *
      go_upto_region 24 with fail
      have D9 : Aside0 (RS2 w w8 a b c d zMsg zKc #[.int .u16 m.id, .int .u16 m.flags, .slice A2 l2 c2, .slice A3 l3 c3, .slice A4 l4 c4, .slice A5 l5 c5] #[.string kn, .int .u16 kt, .int .u16 kc, .bool kd] _ m (.agg #[.int .u16 m.id, .int .u16 m.flags, .slice A2 l2 c2, .slice A3 l3 c3, .slice A4 l4 c4, .slice A5 l5 c5])) := ⟨D8.out, HC8.out, HE8.out, HN.out.1, HN.out.2.1, HN.out.2.2.1, HN.out.2.2.2⟩
      obtain ⟨BB, DD⟩ : ∃ BB, Aside0 (RS2 w w8 a b c d zMsg zKc #[.int .u16 m.id, .int .u16 m.flags, .slice A2 l2 c2, .slice A3 l3 c3, .slice A4 l4 c4, .slice A5 l5 c5] #[.string kn, .int .u16 kt, .int .u16 kc, .bool kd] BB m (.agg #[.int .u16 m.id, .int .u16 m.flags, .slice A2 l2 c2, .slice A3 l3 c3, .slice A4 l4 c4, .slice A5 l5 c5])) := ⟨_, D9⟩
      clear D8 D9 HC8 HE8 HN
      refine dr_start (fun w' => (((w'.cell? ⟨c, 0, none⟩ = some (.int .u16 m.id) ∧ w'.cell? ⟨c, 1, none⟩ = some (.int .u16 m.flags) ∧ w'.cell? ⟨c, 2, none⟩ = some (.slice A2 l2 c2) ∧ w'.cell? ⟨c, 3, none⟩ = some (.slice A3 l3 c3) ∧ w'.cell? ⟨c, 4, none⟩ = some (.slice A4 l4 c4) ∧ w'.cell? ⟨c, 5, none⟩ = some (.slice A5 l5 c5)) ∧ (w'.cell? ⟨d, 0, none⟩ = some (.string kn) ∧ w'.cell? ⟨d, 1, none⟩ = some (.int .u16 kt) ∧ w'.cell? ⟨d, 2, none⟩ = some (.int .u16 kc) ∧ w'.cell? ⟨d, 3, none⟩ = some (.bool kd))) ∧ Aside0 (∃ ms ks, RS2 w w' a b c d ms ks #[.int .u16 m.id, .int .u16 m.flags, .slice A2 l2 c2, .slice A3 l3 c3, .slice A4 l4 c4, .slice A5 l5 c5] #[.string kn, .int .u16 kt, .int .u16 kc, .bool kd] BB m (.agg #[.int .u16 m.id, .int .u16 m.flags, .slice A2 l2 c2, .slice A3 l3 c3, .slice A4 l4 c4, .slice A5 l5 c5])))) [] (by kernel_rfl) (rs2_cells (w := w8.drew) ⟨DD.out.rs.drew, DD.out.hc, DD.out.hd, DD.out.ca, DD.out.cb, DD.out.da, DD.out.db⟩) (fun hS => ?_)
      repeat (first | (refine dr_pure (by kernel_rfl) (by rfl) (fun _ _ _ h => h) (v := ?_) (a' := ?_) ?_ ?_ ?_; rotate_left 2; (focus (intro w'; go_simp; with_reducible rfl)); (focus (simp only [Act.put, List.setIfInBounds_toArray, List.set_cons_zero, List.set_cons_succ]; rfl))) | (refine dr_take (by kernel_rfl) (by rfl) (fun _ _ _ h => h) hS (v := ?_) (a' := ?_) ?_ ?_ ?_; rotate_left 2; (focus (intro w' hS'; go_simp; with_reducible rfl)); (focus (simp only [Act.put, List.setIfInBounds_toArray, List.set_cons_zero, List.set_cons_succ]; rfl))) | (refine dr_off (by kernel_rfl) (by rfl) (fun _ _ _ h => h) (a' := ?_) ?_ ?_; rotate_left; (focus (simp only [Act.put, List.setIfInBounds_toArray, List.set_cons_zero, List.set_cons_succ]; rfl))))
      have D9 : Aside0 (RS2 w w8.drew a b c d zMsg zKc #[.int .u16 m.id, .int .u16 m.flags, .slice A2 l2 c2, .slice A3 l3 c3, .slice A4 l4 c4, .slice A5 l5 c5] #[.string kn, .int .u16 kt, .int .u16 kc, .bool kd] BB m (.agg #[.int .u16 m.id, .int .u16 m.flags, .slice A2 l2 c2, .slice A3 l3 c3, .slice A4 l4 c4, .slice A5 l5 c5])) := ⟨DD.out.rs.drew, DD.out.hc, DD.out.hd, DD.out.ca, DD.out.cb, DD.out.da, DD.out.db⟩
      clear DD hS
      generalize w8.drew = w9 at *
      have E9 := Aside0.mk D9.out.rs
      have z0 := E9.out.am.is 0 rfl
      have z1 := E9.out.am.is 1 rfl
      have z2 := E9.out.am.is 2 rfl
      have z3 := E9.out.am.is 3 rfl
      have z4 := E9.out.am.is 4 rfl
      have z5 := E9.out.am.is 5 rfl
      have y0 := E9.out.am.frozen 0
      have y1 := E9.out.am.frozen 1
      have y2 := E9.out.am.frozen 2
      have y3 := E9.out.am.frozen 3
      have y4 := E9.out.am.frozen 4
      have y5 := E9.out.am.frozen 5
      have k0 := E9.out.bk.is 0 rfl
      have k1 := E9.out.bk.is 1 rfl
      have k2 := E9.out.bk.is 2 rfl
      have k3 := E9.out.bk.is 3 rfl
      have fk0 := E9.out.bk.frozen 0
      have fk1 := E9.out.bk.frozen 1
      have fk2 := E9.out.bk.frozen 2
      have fk3 := E9.out.bk.frozen 3
      have nab := E9.out.ne
      have nba := Ne.symm E9.out.ne
      refine dr_skip ((((((w9.setCell ⟨a, 0, none⟩ (.int .u16 m.id)).setCell ⟨a, 1, none⟩ (.int .u16 m.flags)).setCell ⟨a, 2, none⟩ (.slice A2 l2 c2)).setCell ⟨a, 3, none⟩ (.slice A3 l3 c3)).setCell ⟨a, 4, none⟩ (.slice A4 l4 c4)).setCell ⟨a, 5, none⟩ (.slice A5 l5 c5)) (by kernel_rfl) (by rfl) (by rfl) rfl ⟨by go_simp⟩ (rs2_cells D9.out.mset) (fun hS => ?_)
      clear k0 k1 k2 k3 fk0 fk1 fk2 fk3
      clear z0 z1 z2 z3 z4 z5 y0 y1 y2 y3 y4 y5 nab nba
      have DA' := D9.out.mset (u0 := .int .u16 m.id) (u1 := .int .u16 m.flags) (u2 := .slice A2 l2 c2) (u3 := .slice A3 l3 c3) (u4 := .slice A4 l4 c4) (u5 := .slice A5 l5 c5)
      clear hS
      generalize (((((w9.setCell ⟨a, 0, none⟩ (.int .u16 m.id)).setCell ⟨a, 1, none⟩ (.int .u16 m.flags)).setCell ⟨a, 2, none⟩ (.slice A2 l2 c2)).setCell ⟨a, 3, none⟩ (.slice A3 l3 c3)).setCell ⟨a, 4, none⟩ (.slice A4 l4 c4)).setCell ⟨a, 5, none⟩ (.slice A5 l5 c5) = wA at *
      have DA := Aside0.mk DA'
      have EA := Aside0.mk DA'.rs
      clear D9 DA' E9
      have z0 := EA.out.am.is 0 rfl
      have z1 := EA.out.am.is 1 rfl
      have z2 := EA.out.am.is 2 rfl
      have z3 := EA.out.am.is 3 rfl
      have z4 := EA.out.am.is 4 rfl
      have z5 := EA.out.am.is 5 rfl
      have y0 := EA.out.am.frozen 0
      have y1 := EA.out.am.frozen 1
      have y2 := EA.out.am.frozen 2
      have y3 := EA.out.am.frozen 3
      have y4 := EA.out.am.frozen 4
      have y5 := EA.out.am.frozen 5
      have k0 := EA.out.bk.is 0 rfl
      have k1 := EA.out.bk.is 1 rfl
      have k2 := EA.out.bk.is 2 rfl
      have k3 := EA.out.bk.is 3 rfl
      have fk0 := EA.out.bk.frozen 0
      have fk1 := EA.out.bk.frozen 1
      have fk2 := EA.out.bk.frozen 2
      have fk3 := EA.out.bk.frozen 3
      have nab := EA.out.ne
      have nba := Ne.symm EA.out.ne
      refine dr_skip ((((wA.setCell ⟨b, 0, none⟩ (.string kn)).setCell ⟨b, 1, none⟩ (.int .u16 kt)).setCell ⟨b, 2, none⟩ (.int .u16 kc)).setCell ⟨b, 3, none⟩ (.bool kd)) (by kernel_rfl) (by rfl) (by rfl) rfl ⟨by go_simp⟩ (rs2_cells DA.out.kset) (fun hS => ?_)
      clear k0 k1 k2 k3 fk0 fk1 fk2 fk3
      clear z0 z1 z2 z3 z4 z5 y0 y1 y2 y3 y4 y5 nab nba
      clear hS
      have DB' := DA.out.rs.kset (u0 := .string kn) (u1 := .int .u16 kt) (u2 := .int .u16 kc) (u3 := .bool kd)
      generalize (((wA.setCell ⟨b, 0, none⟩ (.string kn)).setCell ⟨b, 1, none⟩ (.int .u16 kt)).setCell ⟨b, 2, none⟩ (.int .u16 kc)).setCell ⟨b, 3, none⟩ (.bool kd) = wB at *
      obtain ⟨⟨⟨z0, z1, z2, z3, z4, z5⟩, k0, k1, k2, k3⟩, DB⟩ := rs_cells DB'
      clear DA EA DB'
      repeat (first | (refine dr_pure (by kernel_rfl) (by rfl) (fun _ _ _ h => h) (v := ?_) (a' := ?_) ?_ ?_ ?_; rotate_left 2; (focus (intro w'; go_simp; with_reducible rfl)); (focus (simp only [Act.put, List.setIfInBounds_toArray, List.set_cons_zero, List.set_cons_succ]; rfl))) | (refine dr_take (by kernel_rfl) (by rfl) (fun _ _ _ h => h) hS (v := ?_) (a' := ?_) ?_ ?_ ?_; rotate_left 2; (focus (intro w' hS'; go_simp; with_reducible rfl)); (focus (simp only [Act.put, List.setIfInBounds_toArray, List.set_cons_zero, List.set_cons_succ]; rfl))) | (refine dr_off (by kernel_rfl) (by rfl) (fun _ _ _ h => h) (a' := ?_) ?_ ?_; rotate_left; (focus (simp only [Act.put, List.setIfInBounds_toArray, List.set_cons_zero, List.set_cons_succ]; rfl))))
      refine dr_done (by kernel_rfl) ?_
      go_wp2_with fail
      exact bodyPost_ret (v := .tuple #[.agg #[.int .u16 m.id, .int .u16 m.flags, .slice A2 l2 c2, .slice A3 l3 c3, .slice A4 l4 c4, .slice A5 l5 c5], Key.v ⟨kn, kt, kc, kd⟩, .int .i64 200]) (by simp [results, Try.results16, go_sem, z0, z1, z2, z3, z4, z5, k0, k1, k2, k3, Key.v]) rfl ⟨⟨_, rfl, msgAt_of DB.out.p⟩, DB.out.bl⟩
  have hq := NO.out (st := 405) (by rw [if_neg (by simp [C1.out]), if_neg c3, if_pos C2.out]) (by decide)
  subst hq
  obtain ⟨d7, d8, d9⟩ := const_no c3 (L := [80, 79, 83, 84]) rfl
  clear c3
  have x0 := HX2.out.is 0 rfl
  have x1 := HX2.out.is 1 rfl
  have x2 := HX2.out.is 2 rfl
  have x3 := HX2.out.is 3 rfl
  have x4 := HX2.out.is 4 rfl
  have x5 := HX2.out.is 5 rfl
  have z0 := D2.out.am.is 0 rfl
  have z1 := D2.out.am.is 1 rfl
  have z2 := D2.out.am.is 2 rfl
  have z3 := D2.out.am.is 3 rfl
  have z4 := D2.out.am.is 4 rfl
  have z5 := D2.out.am.is 5 rfl
  have y0 := D2.out.am.frozen 0
  have y1 := D2.out.am.frozen 1
  have y2 := D2.out.am.frozen 2
  have y3 := D2.out.am.frozen 3
  have y4 := D2.out.am.frozen 4
  have y5 := D2.out.am.frozen 5
  have k0 := D2.out.bk.is 0 rfl
  have k1 := D2.out.bk.is 1 rfl
  have k2 := D2.out.bk.is 2 rfl
  have k3 := D2.out.bk.is 3 rfl
  have fk0 := D2.out.bk.frozen 0
  have fk1 := D2.out.bk.frozen 1
  have fk2 := D2.out.bk.frozen 2
  have fk3 := D2.out.bk.frozen 3
  have nab := D2.out.ne
  have nba := Ne.symm D2.out.ne
  go_wp2_with fail
  clear k0 k1 k2 k3 fk0 fk1 fk2 fk3
  clear z0 z1 z2 z3 z4 z5 y0 y1 y2 y3 y4 y5 nab nba
  have L := D2.out.zero
  have z0 : World.cell? _ ⟨a, 0, none⟩ = some (.int .u16 0) := L.am.is 0 rfl
  have z1 : World.cell? _ ⟨a, 1, none⟩ = some (.int .u16 0) := L.am.is 1 rfl
  have z2 : World.cell? _ ⟨a, 2, none⟩ = some (.slice none 0 0) := L.am.is 2 rfl
  have z3 : World.cell? _ ⟨a, 3, none⟩ = some (.slice none 0 0) := L.am.is 3 rfl
  have z4 : World.cell? _ ⟨a, 4, none⟩ = some (.slice none 0 0) := L.am.is 4 rfl
  have z5 : World.cell? _ ⟨a, 5, none⟩ = some (.slice none 0 0) := L.am.is 5 rfl
  have k0 : World.cell? _ ⟨b, 0, none⟩ = some (.string ⟨#[]⟩) := L.bk.is 0 rfl
  have k1 : World.cell? _ ⟨b, 1, none⟩ = some (.int .u16 0) := L.bk.is 1 rfl
  have k2 : World.cell? _ ⟨b, 2, none⟩ = some (.int .u16 0) := L.bk.is 2 rfl
  have k3 : World.cell? _ ⟨b, 3, none⟩ = some (.bool false) := L.bk.is 3 rfl
  exact bodyPost_ret (v := .tuple #[.agg zMsg, zKey.v, .int .i64 405]) (by simp [results, Try.results16, go_sem, z0, z1, z2, z3, z4, z5, k0, k1, k2, k3, zMsg, zKey, Key.v]) rfl ⟨⟨_, rfl, zM_at _⟩, L.bl⟩
end Go.Proofs.Ytfoflodgegehfaa.M
