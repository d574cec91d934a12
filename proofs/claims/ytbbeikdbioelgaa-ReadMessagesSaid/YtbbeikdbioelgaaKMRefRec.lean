/- Walk of nuncioref06: the state's record. -/
import Derived.Test.YtbbeikdbioelgaaKMRefData
import Derived.Test.YtbbeikdbioelgaaKMRef05c
set_option linter.unusedVariables false
set_option linter.unusedSimpArgs false
namespace Go.Proofs.Ytbbeikdbioelgaa.M
open Go.RowKit Go.Maps Go.Proofs.YtbbeikdbioelgaaW.PrintWords Go.Proofs.YtbbeikdbioelgaaW.PrintLast Go.Proofs.YtbbeikdbioelgaaW.PrintMore
attribute [local go_sem] max2_int min2_int max_two min_two max_three min_three max_four min_four
attribute [local go_sem ↓] Go.wp_at_zero Go.wp_at_succ
/-- A number of so many bytes at most. -/
def NumB (b : Int) (x : Int) (v : Value) (w : World) : Prop := v = .int .i64 x ∧ 0 ≤ x ∧ x ≤ b
theorem num6_b {w : World} {g : Nat} {s : ByteArray} {a e n b : Int} (h : St w g s a e) (hs : s.size ≤ 1000000) (hn : n = 2 ∧ b = 65535 ∨ n = 4 ∧ b = 4294967295) :
    Calls Try.prog 48 #[.pointer (some ⟨g, 0, none⟩), .int .i64 n] w fun r w' => Ends6 (NumB b) (after6 e (numR s a n)) w g s r w' := by
  have b0 : 0 ≤ b := by rcases hn with h | h <;> omega
  by_cases c : e = 0
  · subst c
    rw [after6_ok]
    unfold numR
    cases h1 : getF s a n with
    | none => exact (num6_no h hs h1).mono fun r w' ⟨k1, k2, k3⟩ => by rw [k1]; exact Ends6.err (x := 0) k3 ⟨rfl, by omega, by omega⟩ k2 rfl (by decide)
    | some t =>
      have hb : 0 ≤ t ∧ t ≤ b ∧ b ≤ 4294967295 := by
        rcases hn with ⟨rfl, rfl⟩ | ⟨rfl, rfl⟩
        · have := get2 h1; omega
        · have := get4 h1; omega
      exact (num6_yes h hs h1 (by omega) hb.1).mono fun r w' ⟨k1, k2, k3⟩ => by rw [k1]; exact Ends6.ok (x := t) k3 ⟨rfl, hb.1, hb.2.1⟩ k2 rfl
  · rw [after6_err c]
    exact (num6_off h c).mono fun r w' ⟨h1, h2, h3⟩ => by rw [h1]; exact Ends6.err (x := 0) h3 ⟨rfl, by omega, by omega⟩ h2 rfl c
theorem met_step {α : Type} {e e' a : Int} {R : Except Int (α × Int)} {x : α} (h : Met6 (after6 e R) x a e') : (e' = 0 ∧ e = 0 ∧ R = .ok (x, a)) ∨ (e' ≠ 0 ∧ ((e ≠ 0 ∧ e' = e) ∨ (e = 0 ∧ R = .error e'))) := by
  by_cases c : e = 0
  · subst c
    rw [after6_ok] at h
    rcases h with ⟨h1, h2⟩ | ⟨h1, h2⟩
    · exact .inl ⟨h2, rfl, h1⟩
    · exact .inr ⟨h2, .inr ⟨rfl, h1⟩⟩
  · rw [after6_err c] at h
    rcases h with ⟨h1, h2⟩ | ⟨h1, h2⟩
    · exact absurd h1 (by simp)
    · exact .inr ⟨h2, .inl ⟨c, (Except.error.inj h1).symm⟩⟩
theorem numR_ok {s : ByteArray} {a n x a' : Int} (h : numR s a n = .ok (x, a')) : getF s a n = some x ∧ a' = a + n := by
  unfold numR at h
  cases h1 : getF s a n with
  | none => rw [h1] at h; exact absurd h (by simp)
  | some t =>
    rw [h1] at h
    have := Prod.mk.inj (Except.ok.inj h)
    exact ⟨by rw [this.1], this.2.symm⟩
theorem numR_err {s : ByteArray} {a n e : Int} (h : numR s a n = .error e) : getF s a n = none ∧ e = 2 := by
  unfold numR at h
  cases h1 : getF s a n with
  | none => rw [h1] at h; exact ⟨rfl, (Except.error.inj h).symm⟩
  | some t => rw [h1] at h; exact absurd h (by simp)
/-- What a record's data come to, behind its head. -/
def recT (s nm : ByteArray) (t c l n a : Int) : Except Int (Rec × Int) :=
  if s.size - a < n then .error 2 else
    match dataR s t (a + n) a with
    | .error d => .error d
    | .ok ((names, nums, texts), a2) => if checkF ⟨nm, t, c, l, names, nums, texts⟩ = 0 then .ok (⟨nm, t, c, l, names, nums, texts⟩, a2) else .error (checkF ⟨nm, t, c, l, names, nums, texts⟩)
theorem rec6_pure {s nm : ByteArray} {a a1 a2 a3 a4 a5 e1 e2 e3 e4 e5 t c l n : Int} (F1 : Met6 (txtR s a) nm a1 e1) (F2 : Met6 (after6 e1 (numR s a1 2)) t a2 e2) (F3 : Met6 (after6 e2 (numR s a2 2)) c a3 e3) (F4 : Met6 (after6 e3 (numR s a3 4)) l a4 e4) (F5 : Met6 (after6 e4 (numR s a4 2)) n a5 e5) :
    (e5 = 0 ∧ recR s a = recT s nm t c l n a5 ∧ 0 ≤ a5 ∧ a5 ≤ s.size) ∨ (e5 ≠ 0 ∧ recR s a = .error e5) := by
  unfold recR
  rcases F1 with ⟨f1, k1⟩ | ⟨f1, k1⟩
  case inr =>
    unfold txtR at f1
    cases hn : nameAt s a with
    | ok x => rw [hn] at f1; exact absurd f1 (by simp)
    | error d =>
      rw [hn] at f1
      have f1 := Except.error.inj f1
      subst f1
      refine .inr ?_
      rcases met_step F2 with ⟨_, h, _⟩ | ⟨h2, h | h⟩
      · exact absurd h k1
      rotate_left
      · exact absurd h.1 k1
      rcases met_step F3 with ⟨_, h', _⟩ | ⟨h3, h' | h'⟩
      · exact absurd h' h2
      rotate_left
      · exact absurd h'.1 h2
      rcases met_step F4 with ⟨_, h'', _⟩ | ⟨h4, h'' | h''⟩
      · exact absurd h'' h3
      rotate_left
      · exact absurd h''.1 h3
      rcases met_step F5 with ⟨_, h5, _⟩ | ⟨h6, h5 | h5⟩
      · exact absurd h5 h4
      rotate_left
      · exact absurd h5.1 h4
      exact ⟨h6, by rw [h5.2, h''.2, h'.2, h.2]⟩
  unfold txtR at f1
  cases hn : nameAt s a with
  | error d => rw [hn] at f1; exact absurd f1 (by simp)
  | ok x =>
    obtain ⟨b, b1⟩ := x
    rw [hn] at f1
    obtain ⟨rfl, rfl⟩ := Prod.mk.inj (Except.ok.inj f1)
    simp only []
    rcases met_step F2 with ⟨k2, -, f2⟩ | ⟨k2, h | ⟨-, f2⟩⟩
    rotate_left
    · exact absurd k1 h.1
    · obtain ⟨q2, rfl⟩ := numR_err f2
      rw [q2]
      refine .inr ?_
      rcases met_step F3 with ⟨_, h', _⟩ | ⟨h3, h' | h'⟩
      · exact absurd h' k2
      rotate_left
      · exact absurd h'.1 k2
      rcases met_step F4 with ⟨_, h'', _⟩ | ⟨h4, h'' | h''⟩
      · exact absurd h'' h3
      rotate_left
      · exact absurd h''.1 h3
      rcases met_step F5 with ⟨_, h5, _⟩ | ⟨h6, h5 | h5⟩
      · exact absurd h5 h4
      rotate_left
      · exact absurd h5.1 h4
      exact ⟨h6, by rw [h5.2, h''.2, h'.2]⟩
    obtain ⟨q2, rfl⟩ := numR_ok f2
    rw [q2]
    simp only []
    rcases met_step F3 with ⟨k3, -, f3⟩ | ⟨k3, h | ⟨-, f3⟩⟩
    rotate_left
    · exact absurd k2 h.1
    · obtain ⟨q3, rfl⟩ := numR_err f3
      rw [q3]
      refine .inr ?_
      rcases met_step F4 with ⟨_, h'', _⟩ | ⟨h4, h'' | h''⟩
      · exact absurd h'' k3
      rotate_left
      · exact absurd h''.1 k3
      rcases met_step F5 with ⟨_, h5, _⟩ | ⟨h6, h5 | h5⟩
      · exact absurd h5 h4
      rotate_left
      · exact absurd h5.1 h4
      exact ⟨h6, by rw [h5.2, h''.2]⟩
    obtain ⟨q3, rfl⟩ := numR_ok f3
    rw [q3]
    simp only []
    rcases met_step F4 with ⟨k4, -, f4⟩ | ⟨k4, h | ⟨-, f4⟩⟩
    rotate_left
    · exact absurd k3 h.1
    · obtain ⟨q4, rfl⟩ := numR_err f4
      rw [q4]
      refine .inr ?_
      rcases met_step F5 with ⟨_, h5, _⟩ | ⟨h6, h5 | h5⟩
      · exact absurd h5 k4
      rotate_left
      · exact absurd h5.1 k4
      exact ⟨h6, by rw [h5.2]⟩
    obtain ⟨q4, rfl⟩ := numR_ok f4
    rw [q4]
    simp only []
    rcases met_step F5 with ⟨k5, -, f5⟩ | ⟨k5, h | ⟨-, f5⟩⟩
    rotate_left
    · exact absurd k4 h.1
    · obtain ⟨q5, rfl⟩ := numR_err f5
      rw [q5]
      exact .inr ⟨by decide, rfl⟩
    obtain ⟨q5, rfl⟩ := numR_ok f5
    rw [q5]
    have := get2 q5
    exact .inl ⟨k5, rfl, by omega, by omega⟩
/-- Where the reference stands in a record: its state, the record's box, the result's box, the record. -/
structure E6 (w0 w : World) (g h q : Nat) (s : ByteArray) (a e : Int) (r : Rec) (v4 v5 v6 : Value) : Prop where
  o : Only g w0 w
  st : St w g s a e
  x : SAt w h #[.string r.f0, .int .u16 r.f1, .int .u16 r.f2, .int .u32 r.f3, v4, v5, v6] 44
  z : SAt w q #[.string ⟨#[]⟩, .int .u16 0, .int .u16 0, .int .u32 0, .slice none 0 0, .slice none 0 0, .slice none 0 0] 44
  hb : w0.heap.size ≤ h
  qb : w0.heap.size ≤ q
  ne : h ≠ q
  rp : RecP w0.heap.size r (.agg #[.string r.f0, .int .u16 r.f1, .int .u16 r.f2, .int .u32 r.f3, v4, v5, v6]) w
section
variable {w0 w w1 : World} {g h q B : Nat} {s f0 : ByteArray} {k c t a e a' e' k' c' t' : Int} {v4 v5 v6 u4 u5 u6 : Value} {r r' : Rec} {names texts : List ByteArray} {nums : List Int}
theorem RecP.only6 {v : Value} (hp : RecP B r v w) (hs : St w g s a e) (ho : Only g w w1) : RecP B r v w1 := by
  obtain ⟨v4, v5, v6, h1, h4, h5, h6⟩ := hp
  exact ⟨v4, v5, v6, h1, R_only6 h4 hs (by decide) ho, R_only6 h5 hs (by intro q hq; rw [show q = 41 by simpa [Kd.int, Kd.scalar] using hq]; decide) ho, R_only6 h6 hs (by decide) ho⟩
theorem E6.go (d : E6 w0 w g h q s a e r v4 v5 v6) (ho : Only g w w1) (hs : St w1 g s a' e') : E6 w0 w1 g h q s a' e' r v4 v5 v6 :=
  ⟨d.o.trans ho, hs, ho.at_ d.x (d.x.ne6 d.st (by decide)), ho.at_ d.z (d.z.ne6 d.st (by decide)), d.hb, d.qb, d.ne, d.rp.only6 d.st ho⟩
theorem E6.drew (d : E6 w0 w g h q s a e r v4 v5 v6) : E6 w0 w.drew g h q s a e r v4 v5 v6 := d.go (Only.drew (Only.refl g w)) d.st
theorem E6.sete (d : E6 w0 w g h q s a e r v4 v5 v6) (b : Int) : E6 w0 (w.setCell ⟨g, 2, none⟩ (.int .i64 b)) g h q s a b r v4 v5 v6 := d.go (Only.set (Only.refl g w) 2 _) (d.st.set2 b)
theorem E6.start (hs : St w g s a e) (ho : Only g w0 w) (hz : SAt w q #[.string ⟨#[]⟩, .int .u16 0, .int .u16 0, .int .u32 0, .slice none 0 0, .slice none 0 0, .slice none 0 0] 44) (hq : w0.heap.size ≤ q) : E6 w0 (w.alloc (.cells #[.string f0, .int .u16 0, .int .u16 0, .int .u32 0, (.slice none 0 0), (.slice none 0 0), (.slice none 0 0)] 44 (0, 0))) g w.heap.size q s a e ⟨f0, 0, 0, 0, [], [], []⟩ (.slice none 0 0) (.slice none 0 0) (.slice none 0 0) := by
  have hb := below_alloc (Below.refl w.heap.size w) (.cells #[.string f0, .int .u16 0, .int .u16 0, .int .u32 0, (.slice none 0 0), (.slice none 0 0), (.slice none 0 0)] 44 (0, 0))
  exact ⟨ho.alloc _, hs.below hb, SAt.new w _ _, hz.below hb, ho.size, hq, by have := hz.lt; omega, ⟨_, _, _, rfl, Kd.R_nil _ _ _ _ _, Kd.R_nil _ _ _ _ _, Kd.R_nil _ _ _ _ _⟩⟩
/-- A store into the record's box, which leaves it a record of the call's own. -/
theorem E6.set (d : E6 w0 w g h q s a e r v4 v5 v6) (j : Nat) (u : Value) (hc : (#[.string r.f0, .int .u16 r.f1, .int .u16 r.f2, .int .u32 r.f3, v4, v5, v6] : Array Value).setIfInBounds j u = #[.string r'.f0, .int .u16 r'.f1, .int .u16 r'.f2, .int .u32 r'.f3, u4, u5, u6]) (hp : RecP w0.heap.size r' (.agg #[.string r'.f0, .int .u16 r'.f1, .int .u16 r'.f2, .int .u32 r'.f3, u4, u5, u6]) w) : E6 w0 (w.setCell ⟨h, j, none⟩ u) g h q s a e r' u4 u5 u6 :=
  ⟨d.o.setNew d.hb j u, d.st.far (Ne.symm (d.x.ne6 d.st (by decide))) j u, by have := d.x.set j u; rw [hc] at this; exact this, d.z.far (Ne.symm d.ne) j u, d.hb, d.qb, d.ne, hp.set d.x j u⟩
theorem RecP.flat (hp : RecP B ⟨f0, k, c, t, names, nums, texts⟩ (.agg #[.string f0, .int .u16 k, .int .u16 c, .int .u32 t, v4, v5, v6]) w) : RecP B ⟨f0, k', c', t', names, nums, texts⟩ (.agg #[.string f0, .int .u16 k', .int .u16 c', .int .u32 t', v4, v5, v6]) w := by
  obtain ⟨u4, u5, u6, h1, h4, h5, h6⟩ := hp
  have := Value.agg.inj h1
  simp at this
  obtain ⟨rfl, rfl, rfl⟩ := this
  exact ⟨_, _, _, rfl, h4, h5, h6⟩
theorem E6.laid (d : E6 w0 w g h q s a e r v4 v5 v6) :
    ∃ w9, w9 = ((((((w.setCell ⟨q, 0, none⟩ (.string r.f0)).setCell ⟨q, 1, none⟩ (.int .u16 r.f1)).setCell ⟨q, 2, none⟩ (.int .u16 r.f2)).setCell ⟨q, 3, none⟩ (.int .u32 r.f3)).setCell ⟨q, 4, none⟩ v4).setCell ⟨q, 5, none⟩ v5).setCell ⟨q, 6, none⟩ v6 ∧
      Laid6 w0 w9 g q s a e #[.string r.f0, .int .u16 r.f1, .int .u16 r.f2, .int .u32 r.f3, v4, v5, v6] ∧ RecP w0.heap.size r (.agg #[.string r.f0, .int .u16 r.f1, .int .u16 r.f2, .int .u32 r.f3, v4, v5, v6]) w9 := by
  have L0 : Laid6 w0 w g q s a e #[.string ⟨#[]⟩, .int .u16 0, .int .u16 0, .int .u32 0, .slice none 0 0, .slice none 0 0, .slice none 0 0] := ⟨d.o, d.st, d.z, d.qb⟩
  have L1 := L0.set 0 (.string r.f0)
  have L2 := L1.set 1 (.int .u16 r.f1)
  have L3 := L2.set 2 (.int .u16 r.f2)
  have L4 := L3.set 3 (.int .u32 r.f3)
  have L5 := L4.set 4 v4
  have L6 := L5.set 5 v5
  have L7 := L6.set 6 v6
  exact ⟨_, rfl, L7, ((((((d.rp.set L0.z 0 (.string r.f0)).set L1.z 1 (.int .u16 r.f1)).set L2.z 2 (.int .u16 r.f2)).set L3.z 3 (.int .u32 r.f3)).set L4.z 4 v4).set L5.z 5 v5).set L6.z 6 v6⟩
theorem RecP.parts (hp : RecP B r (.agg #[.string r'.f0, .int .u16 r'.f1, .int .u16 r'.f2, .int .u32 r'.f3, v4, v5, v6]) w) (he : r' = r) : Kd.R Kd.string 9 w B (fun _ => True) v4 r.f4 ∧ Kd.R (Kd.int .u32) 41 w B (fun _ => True) v5 r.f5 ∧ Kd.R Kd.string 9 w B (fun _ => True) v6 r.f6 := by
  obtain ⟨u4, u5, u6, h1, h4, h5, h6⟩ := hp
  have := Value.agg.inj h1
  simp at this
  obtain ⟨-, -, -, -, rfl, rfl, rfl⟩ := this
  exact ⟨h4, h5, h6⟩
/-- The record is laid anew into its box. -/
structure B6 (w0 w : World) (g h q : Nat) (s : ByteArray) (a e : Int) (r : Rec) (v : Value) (cs : Array Value) : Prop where
  x : SAt w h cs 44
  o : Only g w0 w
  st : St w g s a e
  z : SAt w q #[.string ⟨#[]⟩, .int .u16 0, .int .u16 0, .int .u32 0, .slice none 0 0, .slice none 0 0, .slice none 0 0] 44
  rp : RecP w0.heap.size r v w
theorem B6.set {v : Value} {cs : Array Value} (d : B6 w0 w g h q s a e r v cs) (hb : w0.heap.size ≤ h) (ne : h ≠ q) (j : Nat) (u : Value) : B6 w0 (w.setCell ⟨h, j, none⟩ u) g h q s a e r v (cs.setIfInBounds j u) :=
  ⟨d.x.set j u, d.o.setNew hb j u, d.st.far (Ne.symm (d.x.ne6 d.st (by decide))) j u, d.z.far (Ne.symm ne) j u, d.rp.set d.x j u⟩
theorem E6.all (d : E6 w0 w g h q s a e r v4 v5 v6) (hp : RecP w0.heap.size r' (.agg #[.string r'.f0, .int .u16 r'.f1, .int .u16 r'.f2, .int .u32 r'.f3, u4, u5, u6]) w) :
    E6 w0 (((((((w.setCell ⟨h, 0, none⟩ (.string r'.f0)).setCell ⟨h, 1, none⟩ (.int .u16 r'.f1)).setCell ⟨h, 2, none⟩ (.int .u16 r'.f2)).setCell ⟨h, 3, none⟩ (.int .u32 r'.f3)).setCell ⟨h, 4, none⟩ u4).setCell ⟨h, 5, none⟩ u5).setCell ⟨h, 6, none⟩ u6) g h q s a e r' u4 u5 u6 := by
  have L0 : B6 w0 w g h q s a e r' (.agg #[.string r'.f0, .int .u16 r'.f1, .int .u16 r'.f2, .int .u32 r'.f3, u4, u5, u6]) #[.string r.f0, .int .u16 r.f1, .int .u16 r.f2, .int .u32 r.f3, v4, v5, v6] := ⟨d.x, d.o, d.st, d.z, hp⟩
  have L7 := ((((((L0.set d.hb d.ne 0 (.string r'.f0)).set d.hb d.ne 1 (.int .u16 r'.f1)).set d.hb d.ne 2 (.int .u16 r'.f2)).set d.hb d.ne 3 (.int .u32 r'.f3)).set d.hb d.ne 4 u4).set d.hb d.ne 5 u5).set d.hb d.ne 6 u6
  have hx := L7.x
  simp only [List.setIfInBounds_toArray, List.set_cons_zero, List.set_cons_succ] at hx
  exact ⟨L7.o, L7.st, hx, L7.z, d.hb, d.qb, d.ne, L7.rp⟩
end
section
variable {w0 w : World} {g h q : Nat} {s : ByteArray} {a e : Int} {r : Rec} {v4 v5 v6 : Value}
theorem E6.l0 (d : E6 w0 w g h q s a e r v4 v5 v6) : w.cell? ⟨h, 0, none⟩ = some (.string r.f0) := d.x.is 0 rfl
theorem E6.l1 (d : E6 w0 w g h q s a e r v4 v5 v6) : w.cell? ⟨h, 1, none⟩ = some (.int .u16 r.f1) := d.x.is 1 rfl
theorem E6.l2 (d : E6 w0 w g h q s a e r v4 v5 v6) : w.cell? ⟨h, 2, none⟩ = some (.int .u16 r.f2) := d.x.is 2 rfl
theorem E6.l3 (d : E6 w0 w g h q s a e r v4 v5 v6) : w.cell? ⟨h, 3, none⟩ = some (.int .u32 r.f3) := d.x.is 3 rfl
theorem E6.l4 (d : E6 w0 w g h q s a e r v4 v5 v6) : w.cell? ⟨h, 4, none⟩ = some (v4) := d.x.is 4 rfl
theorem E6.l5 (d : E6 w0 w g h q s a e r v4 v5 v6) : w.cell? ⟨h, 5, none⟩ = some (v5) := d.x.is 5 rfl
theorem E6.l6 (d : E6 w0 w g h q s a e r v4 v5 v6) : w.cell? ⟨h, 6, none⟩ = some (v6) := d.x.is 6 rfl
theorem E6.y0 (d : E6 w0 w g h q s a e r v4 v5 v6) : w.cell? ⟨q, 0, none⟩ = some (.string ⟨#[]⟩) := d.z.is 0 rfl
theorem E6.y1 (d : E6 w0 w g h q s a e r v4 v5 v6) : w.cell? ⟨q, 1, none⟩ = some (.int .u16 0) := d.z.is 1 rfl
theorem E6.y2 (d : E6 w0 w g h q s a e r v4 v5 v6) : w.cell? ⟨q, 2, none⟩ = some (.int .u16 0) := d.z.is 2 rfl
theorem E6.y3 (d : E6 w0 w g h q s a e r v4 v5 v6) : w.cell? ⟨q, 3, none⟩ = some (.int .u32 0) := d.z.is 3 rfl
theorem E6.y4 (d : E6 w0 w g h q s a e r v4 v5 v6) : w.cell? ⟨q, 4, none⟩ = some (.slice none 0 0) := d.z.is 4 rfl
theorem E6.y5 (d : E6 w0 w g h q s a e r v4 v5 v6) : w.cell? ⟨q, 5, none⟩ = some (.slice none 0 0) := d.z.is 5 rfl
theorem E6.y6 (d : E6 w0 w g h q s a e r v4 v5 v6) : w.cell? ⟨q, 6, none⟩ = some (.slice none 0 0) := d.z.is 6 rfl
end
set_option maxHeartbeats 8000000 in
set_option maxRecDepth 100000 in
theorem record6_calls {w : World} {g : Nat} {s : ByteArray} {a : Int} (hr : St w g s a 0) (hs : s.size ≤ 1000000) (h0 : 0 ≤ a) (ha : a ≤ s.size) :
    Calls Try.prog 50 #[.pointer (some ⟨g, 0, none⟩)] w fun r w' => Ends6 (RecP w.heap.size) (recR s a) w g s r w' := by
  obtain ⟨R, hR⟩ : ∃ R, recR s a = R := ⟨_, rfl⟩
  rw [hR]
  have HRR := Lib.hid hR
  have HR := Aside0.mk hr
  have HS := Lib.hid hs
  have HA := Lib.hid (show 0 ≤ a ∧ a ≤ s.size from ⟨h0, ha⟩)
  have HZ := Aside0.mk (SAt.new w #[.string ⟨#[]⟩, .int .u16 0, .int .u16 0, .int .u32 0, .slice none 0 0, .slice none 0 0, .slice none 0 0] 44)
  have HR1 := Aside0.mk (hr.below (below_alloc (Below.refl _ _) (.cells #[.string ⟨#[]⟩, .int .u16 0, .int .u16 0, .int .u32 0, .slice none 0 0, .slice none 0 0, .slice none 0 0] 44 (0, 0))))
  clear hr hs h0 ha hR
  go_enter Try.func50, Try.ntmps50
  go_wp2_with fail
  refine (name6_any HR1.out HS.out (fun _ => HA.out)).mono ?_
  rintro r w2 ⟨ho, nm, v, a1, e1, rfl, ⟨rfl, hnm⟩, hs1, hm⟩
  rw [after6_ok] at hm
  have F1 := Aside0.mk hm
  have HNm := Lib.hid hnm
  have HD := Aside0.mk (E6.start (f0 := nm) hs1 (((Only.refl g w).alloc _).trans ho) (ho.at_ HZ.out (HZ.out.ne6 HR1.out (by decide))) (Nat.le_refl _))
  clear ho hs1 hm HZ HR1 HR hnm
  go_wp2_with fail
  generalize hW : w2.alloc (.cells #[.string nm, .int .u16 0, .int .u16 0, .int .u32 0, (.slice none 0 0), (.slice none 0 0), (.slice none 0 0)] 44 (0, 0)) = w3 at *
  obtain ⟨h, hh⟩ : ∃ h, w2.heap.size = h := ⟨_, rfl⟩
  have hd := HD.out
  rw [hh] at hd
  simp only [hh]
  clear hh hW HD
  obtain ⟨q, hq⟩ : ∃ q, w.heap.size = q := ⟨_, rfl⟩
  have HQ := Lib.hid hq
  rw [hq] at hd
  simp only [hq]
  have HD := Aside0.mk hd
  clear hq hd
  have l0 := HD.out.l0
  have f0 := HD.out.x.frozen 0
  have l1 := HD.out.l1
  have f1 := HD.out.x.frozen 1
  have l2 := HD.out.l2
  have f2 := HD.out.x.frozen 2
  have l3 := HD.out.l3
  have f3 := HD.out.x.frozen 3
  have l4 := HD.out.l4
  have f4 := HD.out.x.frozen 4
  have l5 := HD.out.l5
  have f5 := HD.out.x.frozen 5
  have l6 := HD.out.l6
  have f6 := HD.out.x.frozen 6
  have z0 := HD.out.st.c0
  have z1 := HD.out.st.c1
  have z2 := HD.out.st.c2
  have k2 : w3.frozen? ⟨g, 2, none⟩ = false := blk_frozen HD.out.st 2
  refine (num6_b HD.out.st HS.out (.inl ⟨rfl, rfl⟩)).mono ?_
  rintro r w4 ⟨ho, t, v, a2, e2, rfl, ⟨rfl, t0, t1⟩, hs2, hm⟩
  have F2 := Aside0.mk hm
  have HX := Aside0.mk (HD.out.go ho hs2)
  have hw : IntKind.u16.wrap t = t := by rw [IntKind.wrap_u16]; omega
  have HY := Aside0.mk (HX.out.set 1 (.int .u16 t) (r' := ⟨nm, t, 0, 0, [], [], []⟩) rfl (RecP.flat HX.out.rp))
  clear l0 l1 l2 l3 l4 l5 l6 f0 f1 f2 f3 f4 f5 f6 z0 z1 z2 k2
  clear ho hs2 hm HD t0 t1
  have l0 := HX.out.l0
  have f0 := HX.out.x.frozen 0
  have l1 := HX.out.l1
  have f1 := HX.out.x.frozen 1
  have l2 := HX.out.l2
  have f2 := HX.out.x.frozen 2
  have l3 := HX.out.l3
  have f3 := HX.out.x.frozen 3
  have l4 := HX.out.l4
  have f4 := HX.out.x.frozen 4
  have l5 := HX.out.l5
  have f5 := HX.out.x.frozen 5
  have l6 := HX.out.l6
  have f6 := HX.out.x.frozen 6
  have z0 := HX.out.st.c0
  have z1 := HX.out.st.c1
  have z2 := HX.out.st.c2
  have k2 : w4.frozen? ⟨g, 2, none⟩ = false := blk_frozen HX.out.st 2
  go_wp2_with fail
  generalize hW : w4.setCell ⟨h, 1, none⟩ (.int .u16 t) = w5 at *
  clear l0 l1 l2 l3 l4 l5 l6 f0 f1 f2 f3 f4 f5 f6 z0 z1 z2 k2
  clear HX hW hw
  have HD := HY
  clear HY
  have l0 := HD.out.l0
  have f0 := HD.out.x.frozen 0
  have l1 := HD.out.l1
  have f1 := HD.out.x.frozen 1
  have l2 := HD.out.l2
  have f2 := HD.out.x.frozen 2
  have l3 := HD.out.l3
  have f3 := HD.out.x.frozen 3
  have l4 := HD.out.l4
  have f4 := HD.out.x.frozen 4
  have l5 := HD.out.l5
  have f5 := HD.out.x.frozen 5
  have l6 := HD.out.l6
  have f6 := HD.out.x.frozen 6
  have z0 := HD.out.st.c0
  have z1 := HD.out.st.c1
  have z2 := HD.out.st.c2
  have k2 : w5.frozen? ⟨g, 2, none⟩ = false := blk_frozen HD.out.st 2
  refine (num6_b HD.out.st HS.out (.inl ⟨rfl, rfl⟩)).mono ?_
  rintro r w6 ⟨ho, c, v, a3, e3, rfl, ⟨rfl, t0, t1⟩, hs2, hm⟩
  have F3 := Aside0.mk hm
  have HX := Aside0.mk (HD.out.go ho hs2)
  have hw : IntKind.u16.wrap c = c := by rw [IntKind.wrap_u16]; omega
  have HY := Aside0.mk (HX.out.set 2 (.int .u16 c) (r' := ⟨nm, t, c, 0, [], [], []⟩) rfl (RecP.flat HX.out.rp))
  clear l0 l1 l2 l3 l4 l5 l6 f0 f1 f2 f3 f4 f5 f6 z0 z1 z2 k2
  clear ho hs2 hm HD t0 t1
  have l0 := HX.out.l0
  have f0 := HX.out.x.frozen 0
  have l1 := HX.out.l1
  have f1 := HX.out.x.frozen 1
  have l2 := HX.out.l2
  have f2 := HX.out.x.frozen 2
  have l3 := HX.out.l3
  have f3 := HX.out.x.frozen 3
  have l4 := HX.out.l4
  have f4 := HX.out.x.frozen 4
  have l5 := HX.out.l5
  have f5 := HX.out.x.frozen 5
  have l6 := HX.out.l6
  have f6 := HX.out.x.frozen 6
  have z0 := HX.out.st.c0
  have z1 := HX.out.st.c1
  have z2 := HX.out.st.c2
  have k2 : w6.frozen? ⟨g, 2, none⟩ = false := blk_frozen HX.out.st 2
  go_wp2_with fail
  generalize hW : w6.setCell ⟨h, 2, none⟩ (.int .u16 c) = w7 at *
  clear l0 l1 l2 l3 l4 l5 l6 f0 f1 f2 f3 f4 f5 f6 z0 z1 z2 k2
  clear HX hW hw
  have HD := HY
  clear HY
  have l0 := HD.out.l0
  have f0 := HD.out.x.frozen 0
  have l1 := HD.out.l1
  have f1 := HD.out.x.frozen 1
  have l2 := HD.out.l2
  have f2 := HD.out.x.frozen 2
  have l3 := HD.out.l3
  have f3 := HD.out.x.frozen 3
  have l4 := HD.out.l4
  have f4 := HD.out.x.frozen 4
  have l5 := HD.out.l5
  have f5 := HD.out.x.frozen 5
  have l6 := HD.out.l6
  have f6 := HD.out.x.frozen 6
  have z0 := HD.out.st.c0
  have z1 := HD.out.st.c1
  have z2 := HD.out.st.c2
  have k2 : w7.frozen? ⟨g, 2, none⟩ = false := blk_frozen HD.out.st 2
  refine (num6_b HD.out.st HS.out (.inr ⟨rfl, rfl⟩)).mono ?_
  rintro r w8 ⟨ho, l, v, a4, e4, rfl, ⟨rfl, t0, t1⟩, hs2, hm⟩
  have F4 := Aside0.mk hm
  have HX := Aside0.mk (HD.out.go ho hs2)
  have hw : IntKind.u32.wrap l = l := by rw [IntKind.wrap_u32]; omega
  have HY := Aside0.mk (HX.out.set 3 (.int .u32 l) (r' := ⟨nm, t, c, l, [], [], []⟩) rfl (RecP.flat HX.out.rp))
  clear l0 l1 l2 l3 l4 l5 l6 f0 f1 f2 f3 f4 f5 f6 z0 z1 z2 k2
  clear ho hs2 hm HD t0 t1
  have l0 := HX.out.l0
  have f0 := HX.out.x.frozen 0
  have l1 := HX.out.l1
  have f1 := HX.out.x.frozen 1
  have l2 := HX.out.l2
  have f2 := HX.out.x.frozen 2
  have l3 := HX.out.l3
  have f3 := HX.out.x.frozen 3
  have l4 := HX.out.l4
  have f4 := HX.out.x.frozen 4
  have l5 := HX.out.l5
  have f5 := HX.out.x.frozen 5
  have l6 := HX.out.l6
  have f6 := HX.out.x.frozen 6
  have z0 := HX.out.st.c0
  have z1 := HX.out.st.c1
  have z2 := HX.out.st.c2
  have k2 : w8.frozen? ⟨g, 2, none⟩ = false := blk_frozen HX.out.st 2
  go_wp2_with fail
  generalize hW : w8.setCell ⟨h, 3, none⟩ (.int .u32 l) = w9 at *
  clear l0 l1 l2 l3 l4 l5 l6 f0 f1 f2 f3 f4 f5 f6 z0 z1 z2 k2
  clear HX hW hw
  have HD := HY
  clear HY
  have l0 := HD.out.l0
  have f0 := HD.out.x.frozen 0
  have l1 := HD.out.l1
  have f1 := HD.out.x.frozen 1
  have l2 := HD.out.l2
  have f2 := HD.out.x.frozen 2
  have l3 := HD.out.l3
  have f3 := HD.out.x.frozen 3
  have l4 := HD.out.l4
  have f4 := HD.out.x.frozen 4
  have l5 := HD.out.l5
  have f5 := HD.out.x.frozen 5
  have l6 := HD.out.l6
  have f6 := HD.out.x.frozen 6
  have z0 := HD.out.st.c0
  have z1 := HD.out.st.c1
  have z2 := HD.out.st.c2
  have k2 : w9.frozen? ⟨g, 2, none⟩ = false := blk_frozen HD.out.st 2
  refine (num6_b HD.out.st HS.out (.inl ⟨rfl, rfl⟩)).mono ?_
  rintro r w10 ⟨ho, n, v, a5, e5, rfl, ⟨rfl, t0, t1⟩, hs2, hm⟩
  have hE := rec6_pure F1.out F2.out F3.out F4.out hm
  rw [HRR.out] at hE
  have HD2 := Aside0.mk (HD.out.go ho hs2)
  clear l0 l1 l2 l3 l4 l5 l6 f0 f1 f2 f3 f4 f5 f6 z0 z1 z2 k2
  clear ho hs2 hm HD F1 F2 F3 F4
  have HD := HD2
  clear HD2
  have l0 := HD.out.l0
  have f0 := HD.out.x.frozen 0
  have l1 := HD.out.l1
  have f1 := HD.out.x.frozen 1
  have l2 := HD.out.l2
  have f2 := HD.out.x.frozen 2
  have l3 := HD.out.l3
  have f3 := HD.out.x.frozen 3
  have l4 := HD.out.l4
  have f4 := HD.out.x.frozen 4
  have l5 := HD.out.l5
  have f5 := HD.out.x.frozen 5
  have l6 := HD.out.l6
  have f6 := HD.out.x.frozen 6
  have z0 := HD.out.st.c0
  have z1 := HD.out.st.c1
  have z2 := HD.out.st.c2
  have k2 : w10.frozen? ⟨g, 2, none⟩ = false := blk_frozen HD.out.st 2
  have q3 : (s.size : Int) ≤ 1000000 := by have := HS.out; omega
  by_cases c5 : e5 = 0
  case neg =>
    have hE := (hE.resolve_left (fun h => c5 h.1)).2
    have d1 : (e5 == 0) = false := beq_eq_false_iff_ne.mpr c5
    have d2 : (e5 != 0) = true := by rw [bne_iff_ne]; exact c5
    have HE := Lib.hid (And.intro hE c5)
    clear hE c5
    go_wp2_with fail
    refine dr_start (fun w' => w'.cell? ⟨g, 2, none⟩ = some (.int .i64 e5)) [] (by kernel_rfl) z2 (fun hS => ?_)
    repeat (first | (refine dr_pure (by kernel_rfl) (by rfl) (fun _ _ _ h => h) (v := ?_) (a' := ?_) ?_ ?_ ?_; rotate_left 2; (focus (intro w'; go_simp; with_reducible rfl)); (focus (simp only [Act.put, List.setIfInBounds_toArray, List.set_cons_zero, List.set_cons_succ]; rfl))) | (refine dr_take (by kernel_rfl) (by rfl) (fun _ _ _ h => h) hS (v := ?_) (a' := ?_) ?_ ?_ ?_; rotate_left 2; (focus (intro w' hS'; go_simp; with_reducible rfl)); (focus (simp only [Act.put, List.setIfInBounds_toArray, List.set_cons_zero, List.set_cons_succ]; rfl))) | (refine dr_off (by kernel_rfl) (by rfl) (fun _ _ _ h => h) (a' := ?_) ?_ ?_; rotate_left; (focus (simp only [Act.put, List.setIfInBounds_toArray, List.set_cons_zero, List.set_cons_succ]; rfl))))
    refine dr_done (by kernel_rfl) ?_
    have HX := Aside0.mk HD.out.drew
    generalize hW : World.drew _ = wd at *
    clear l0 l1 l2 l3 l4 l5 l6 f0 f1 f2 f3 f4 f5 f6 z0 z1 z2 k2
    clear hW HD hS
    have HD := HX
    clear HX
    have l0 := HD.out.l0
    have f0 := HD.out.x.frozen 0
    have l1 := HD.out.l1
    have f1 := HD.out.x.frozen 1
    have l2 := HD.out.l2
    have f2 := HD.out.x.frozen 2
    have l3 := HD.out.l3
    have f3 := HD.out.x.frozen 3
    have l4 := HD.out.l4
    have f4 := HD.out.x.frozen 4
    have l5 := HD.out.l5
    have f5 := HD.out.x.frozen 5
    have l6 := HD.out.l6
    have f6 := HD.out.x.frozen 6
    have z0 := HD.out.st.c0
    have z1 := HD.out.st.c1
    have z2 := HD.out.st.c2
    have k2 : wd.frozen? ⟨g, 2, none⟩ = false := blk_frozen HD.out.st 2
    have y0 := HD.out.y0
    have g0 := HD.out.z.frozen 0
    have y1 := HD.out.y1
    have g1 := HD.out.z.frozen 1
    have y2 := HD.out.y2
    have g2 := HD.out.z.frozen 2
    have y3 := HD.out.y3
    have g3 := HD.out.z.frozen 3
    have y4 := HD.out.y4
    have g4 := HD.out.z.frozen 4
    have y5 := HD.out.y5
    have g5 := HD.out.z.frozen 5
    have y6 := HD.out.y6
    have g6 := HD.out.z.frozen 6
    have nhq := HD.out.ne
    have nqh := Ne.symm nhq
    have ngq := HD.out.z.ne6 HD.out.st (by decide)
    have nqg := Ne.symm ngq
    have nhg := HD.out.x.ne6 HD.out.st (by decide)
    have ngh := Ne.symm nhg
    go_wp2_with fail
    obtain ⟨w9, hw9, hl, hp⟩ := HD.out.laid
    rw [← hw9]
    have r0 := hl.z.is 0 rfl
    have r1 := hl.z.is 1 rfl
    have r2 := hl.z.is 2 rfl
    have r3 := hl.z.is 3 rfl
    have r4 := hl.z.is 4 rfl
    have r5 := hl.z.is 5 rfl
    have r6 := hl.z.is 6 rfl
    refine bodyPost_ret (v := .agg #[.string nm, .int .u16 t, .int .u16 c, .int .u32 l, (.slice none 0 0), (.slice none 0 0), (.slice none 0 0)]) (by simp [results, Try.results50, go_sem, r0, r1, r2, r3, r4, r5, r6]) rfl ?_
    exact Ends6.err (P := RecP w.heap.size) hl.o hp hl.st HE.out.1 HE.out.2
  case pos =>
    obtain ⟨hE2, h5, h6⟩ := (hE.resolve_right (fun h => h.1 c5)).2
    clear hE
    subst c5
    have hE := hE2
    clear hE2
    have d1 : ((0 : Int) == 0) = true := rfl
    have q4 : a5 ≤ (s.size : Int) := h6
    unfold recT at hE
    have hsub : IntKind.i64.wrap ((s.size : Int) - a5) = (s.size : Int) - a5 := by rw [IntKind.wrap_i64]; omega
    by_cases c1 : (s.size : Int) - a5 < n
    · rw [if_pos c1] at hE
      have d3 : decide ((s.size : Int) - a5 < n) = true := decide_eq_true c1
      have HE := Lib.hid hE
      clear hE c1
      go_wp2_with fail
      refine dr_start (fun w' => w'.cell? ⟨g, 2, none⟩ = some (.int .i64 0) ∧ w'.cell? ⟨g, 0, none⟩ = some (.string s) ∧ w'.cell? ⟨g, 1, none⟩ = some (.int .i64 a5)) [] (by kernel_rfl) ⟨z2, z0, z1⟩ (fun hS => ?_)
      repeat (first | (refine dr_pure (by kernel_rfl) (by rfl) (fun _ _ _ h => h) (v := ?_) (a' := ?_) ?_ ?_ ?_; rotate_left 2; (focus (intro w'; go_simp; with_reducible rfl)); (focus (simp only [Act.put, List.setIfInBounds_toArray, List.set_cons_zero, List.set_cons_succ]; rfl))) | (refine dr_take (by kernel_rfl) (by rfl) (fun _ _ _ h => h) hS (v := ?_) (a' := ?_) ?_ ?_ ?_; rotate_left 2; (focus (intro w' hS'; go_simp; with_reducible rfl)); (focus (simp only [Act.put, List.setIfInBounds_toArray, List.set_cons_zero, List.set_cons_succ]; rfl))) | (refine dr_off (by kernel_rfl) (by rfl) (fun _ _ _ h => h) (a' := ?_) ?_ ?_; rotate_left; (focus (simp only [Act.put, List.setIfInBounds_toArray, List.set_cons_zero, List.set_cons_succ]; rfl))))
      refine dr_done (by kernel_rfl) ?_
      have HX := Aside0.mk HD.out.drew
      generalize hW : World.drew _ = wd at *
      clear l0 l1 l2 l3 l4 l5 l6 f0 f1 f2 f3 f4 f5 f6 z0 z1 z2 k2
      clear hW HD hS
      have HD := HX
      clear HX
      have l0 := HD.out.l0
      have f0 := HD.out.x.frozen 0
      have l1 := HD.out.l1
      have f1 := HD.out.x.frozen 1
      have l2 := HD.out.l2
      have f2 := HD.out.x.frozen 2
      have l3 := HD.out.l3
      have f3 := HD.out.x.frozen 3
      have l4 := HD.out.l4
      have f4 := HD.out.x.frozen 4
      have l5 := HD.out.l5
      have f5 := HD.out.x.frozen 5
      have l6 := HD.out.l6
      have f6 := HD.out.x.frozen 6
      have z0 := HD.out.st.c0
      have z1 := HD.out.st.c1
      have z2 := HD.out.st.c2
      have k2 : wd.frozen? ⟨g, 2, none⟩ = false := blk_frozen HD.out.st 2
      have HD2 := Aside0.mk (HD.out.sete 2)
      have y0 := HD.out.y0
      have g0 := HD.out.z.frozen 0
      have y1 := HD.out.y1
      have g1 := HD.out.z.frozen 1
      have y2 := HD.out.y2
      have g2 := HD.out.z.frozen 2
      have y3 := HD.out.y3
      have g3 := HD.out.z.frozen 3
      have y4 := HD.out.y4
      have g4 := HD.out.z.frozen 4
      have y5 := HD.out.y5
      have g5 := HD.out.z.frozen 5
      have y6 := HD.out.y6
      have g6 := HD.out.z.frozen 6
      have nhq := HD.out.ne
      have nqh := Ne.symm nhq
      have ngq := HD.out.z.ne6 HD.out.st (by decide)
      have nqg := Ne.symm ngq
      have nhg := HD.out.x.ne6 HD.out.st (by decide)
      have ngh := Ne.symm nhg
      go_wp2_with fail
      obtain ⟨w9, hw9, hl, hp⟩ := HD2.out.laid
      rw [← hw9]
      have r0 := hl.z.is 0 rfl
      have r1 := hl.z.is 1 rfl
      have r2 := hl.z.is 2 rfl
      have r3 := hl.z.is 3 rfl
      have r4 := hl.z.is 4 rfl
      have r5 := hl.z.is 5 rfl
      have r6 := hl.z.is 6 rfl
      refine bodyPost_ret (v := .agg #[.string nm, .int .u16 t, .int .u16 c, .int .u32 l, (.slice none 0 0), (.slice none 0 0), (.slice none 0 0)]) (by simp [results, Try.results50, go_sem, r0, r1, r2, r3, r4, r5, r6]) rfl ?_
      exact Ends6.err (P := RecP w.heap.size) hl.o hp hl.st HE.out (by decide)
    · rw [if_neg c1] at hE
      have d3 : decide ((s.size : Int) - a5 < n) = false := decide_eq_false c1
      have d4 : ((0 : Int) != 0) = false := rfl
      have HE := Lib.hid hE
      have HB := Lib.hid (show 0 ≤ a5 ∧ a5 ≤ a5 + n ∧ a5 + n ≤ s.size by omega)
      have hw5 : IntKind.i64.wrap (a5 + n) = a5 + n := by rw [IntKind.wrap_i64]; omega
      clear hE c1
      go_wp2_with fail
      refine dr_start (fun w' => w'.cell? ⟨g, 2, none⟩ = some (.int .i64 0) ∧ w'.cell? ⟨g, 0, none⟩ = some (.string s) ∧ w'.cell? ⟨g, 1, none⟩ = some (.int .i64 a5)) [] (by kernel_rfl) ⟨z2, z0, z1⟩ (fun hS => ?_)
      repeat (first | (refine dr_pure (by kernel_rfl) (by rfl) (fun _ _ _ h => h) (v := ?_) (a' := ?_) ?_ ?_ ?_; rotate_left 2; (focus (intro w'; go_simp; with_reducible rfl)); (focus (simp only [Act.put, List.setIfInBounds_toArray, List.set_cons_zero, List.set_cons_succ]; rfl))) | (refine dr_take (by kernel_rfl) (by rfl) (fun _ _ _ h => h) hS (v := ?_) (a' := ?_) ?_ ?_ ?_; rotate_left 2; (focus (intro w' hS'; go_simp; with_reducible rfl)); (focus (simp only [Act.put, List.setIfInBounds_toArray, List.set_cons_zero, List.set_cons_succ]; rfl))) | (refine dr_off (by kernel_rfl) (by rfl) (fun _ _ _ h => h) (a' := ?_) ?_ ?_; rotate_left; (focus (simp only [Act.put, List.setIfInBounds_toArray, List.set_cons_zero, List.set_cons_succ]; rfl))))
      refine dr_done (by kernel_rfl) ?_
      have HX := Aside0.mk HD.out.drew
      generalize hW : World.drew _ = wd at *
      clear l0 l1 l2 l3 l4 l5 l6 f0 f1 f2 f3 f4 f5 f6 z0 z1 z2 k2
      clear hW HD hS
      have HD := HX
      clear HX
      have l0 := HD.out.l0
      have f0 := HD.out.x.frozen 0
      have l1 := HD.out.l1
      have f1 := HD.out.x.frozen 1
      have l2 := HD.out.l2
      have f2 := HD.out.x.frozen 2
      have l3 := HD.out.l3
      have f3 := HD.out.x.frozen 3
      have l4 := HD.out.l4
      have f4 := HD.out.x.frozen 4
      have l5 := HD.out.l5
      have f5 := HD.out.x.frozen 5
      have l6 := HD.out.l6
      have f6 := HD.out.x.frozen 6
      have z0 := HD.out.st.c0
      have z1 := HD.out.st.c1
      have z2 := HD.out.st.c2
      have k2 : wd.frozen? ⟨g, 2, none⟩ = false := blk_frozen HD.out.st 2
      go_wp2_with fail
      refine dr_start (fun w' => w'.cell? ⟨h, 0, none⟩ = some (.string nm) ∧ w'.cell? ⟨h, 1, none⟩ = some (.int .u16 t) ∧ w'.cell? ⟨h, 2, none⟩ = some (.int .u16 c) ∧ w'.cell? ⟨h, 3, none⟩ = some (.int .u32 l) ∧ w'.cell? ⟨h, 4, none⟩ = some (.slice none 0 0) ∧ w'.cell? ⟨h, 5, none⟩ = some (.slice none 0 0) ∧ w'.cell? ⟨h, 6, none⟩ = some (.slice none 0 0) ∧ w'.cell? ⟨g, 1, none⟩ = some (.int .i64 a5)) [8, 9] (by kernel_rfl) ⟨l0, l1, l2, l3, l4, l5, l6, z1⟩ (fun hS => ?_)
      repeat (first | (refine dr_pure (by kernel_rfl) (by rfl) (fun _ _ _ h => h) (v := ?_) (a' := ?_) ?_ ?_ ?_; rotate_left 2; (focus (intro w'; go_simp; with_reducible rfl)); (focus (simp only [Act.put, List.setIfInBounds_toArray, List.set_cons_zero, List.set_cons_succ]; rfl))) | (refine dr_take (by kernel_rfl) (by rfl) (fun _ _ _ h => h) hS (v := ?_) (a' := ?_) ?_ ?_ ?_; rotate_left 2; (focus (intro w' hS'; go_simp; with_reducible rfl)); (focus (simp only [Act.put, List.setIfInBounds_toArray, List.set_cons_zero, List.set_cons_succ]; rfl))) | (refine dr_off (by kernel_rfl) (by rfl) (fun _ _ _ h => h) (a' := ?_) ?_ ?_; rotate_left; (focus (simp only [Act.put, List.setIfInBounds_toArray, List.set_cons_zero, List.set_cons_succ]; rfl))))
      refine dr_callL Try.func70 (by kernel_rfl) rfl rfl (by kernel_rfl) (by kernel_rfl) (by rfl) (args := #[.pointer (some ⟨g, 0, none⟩), .agg #[.string nm, .int .u16 t, .int .u16 c, .int .u32 l, (.slice none 0 0), (.slice none 0 0), (.slice none 0 0)], .int .i64 (a5 + n)]) (by first | rfl | kernel_rfl | (simp [Act.eval]; done)) ?_
      refine (data6_calls (f0 := nm) (k := t) (c := c) (t := l) HD.out.drew.st HS.out HB.out.1 HB.out.2.1 HB.out.2.2).mono ?_
      rintro r w11 ⟨ho, ⟨names, nums, texts⟩, v, a6, e6, rfl, hp, hs6, hm⟩
      obtain ⟨v4, v5, v6, rfl, h4, h5, h6⟩ := hp
      obtain ⟨A4, n4, c4, rfl⟩ := R_anyslice h4
      obtain ⟨A5, n5, c5, rfl⟩ := R_anyslice h5
      obtain ⟨A6, n6, c6, rfl⟩ := R_anyslice h6
      have HX := Aside0.mk (HD.out.drew.go ho hs6)
      have hsz := HD.out.drew.o.size
      have HY := Aside0.mk (HX.out.all (r' := ⟨nm, t, c, l, names, nums, texts⟩) ⟨_, _, _, rfl, Kd.R_lower h4 hsz, Kd.R_lower h5 hsz, Kd.R_lower h6 hsz⟩)
      have HM := Aside0.mk hm
      clear l0 l1 l2 l3 l4 l5 l6 f0 f1 f2 f3 f4 f5 f6 z0 z1 z2 k2
      clear HD hm hs6 ho h4 h5 h6 hS hsz
      refine .inl ⟨_, rfl, ?_⟩
      refine dr_norm (a' := ?_) ?_ ?_
      rotate_left
      · simp only [Act.put, List.setIfInBounds_toArray, List.set_cons_zero, List.set_cons_succ]; rfl
      have l0 := HX.out.l0
      have f0 := HX.out.x.frozen 0
      have l1 := HX.out.l1
      have f1 := HX.out.x.frozen 1
      have l2 := HX.out.l2
      have f2 := HX.out.x.frozen 2
      have l3 := HX.out.l3
      have f3 := HX.out.x.frozen 3
      have l4 := HX.out.l4
      have f4 := HX.out.x.frozen 4
      have l5 := HX.out.l5
      have f5 := HX.out.x.frozen 5
      have l6 := HX.out.l6
      have f6 := HX.out.x.frozen 6
      have z0 := HX.out.st.c0
      have z1 := HX.out.st.c1
      have z2 := HX.out.st.c2
      have k2 : w11.frozen? ⟨g, 2, none⟩ = false := blk_frozen HX.out.st 2
      refine dr_store (((((((w11.setCell ⟨h, 0, none⟩ (.string nm)).setCell ⟨h, 1, none⟩ (.int .u16 t)).setCell ⟨h, 2, none⟩ (.int .u16 c)).setCell ⟨h, 3, none⟩ (.int .u32 l)).setCell ⟨h, 4, none⟩ (.slice A4 n4 c4)).setCell ⟨h, 5, none⟩ (.slice A5 n5 c5)).setCell ⟨h, 6, none⟩ (.slice A6 n6 c6)) (by kernel_rfl) (by kernel_rfl) (by rfl) rfl ⟨by go_simp; done⟩ ?_
      refine dr_done (by kernel_rfl) ?_
      clear l0 l1 l2 l3 l4 l5 l6 f0 f1 f2 f3 f4 f5 f6 z0 z1 z2 k2
      clear HX
      generalize hW : ((((((w11.setCell ⟨h, 0, none⟩ (.string nm)).setCell ⟨h, 1, none⟩ (.int .u16 t)).setCell ⟨h, 2, none⟩ (.int .u16 c)).setCell ⟨h, 3, none⟩ (.int .u32 l)).setCell ⟨h, 4, none⟩ (.slice A4 n4 c4)).setCell ⟨h, 5, none⟩ (.slice A5 n5 c5)).setCell ⟨h, 6, none⟩ (.slice A6 n6 c6) = w12 at *
      clear hW
      have HD := HY
      clear HY
      have l0 := HD.out.l0
      have f0 := HD.out.x.frozen 0
      have l1 := HD.out.l1
      have f1 := HD.out.x.frozen 1
      have l2 := HD.out.l2
      have f2 := HD.out.x.frozen 2
      have l3 := HD.out.l3
      have f3 := HD.out.x.frozen 3
      have l4 := HD.out.l4
      have f4 := HD.out.x.frozen 4
      have l5 := HD.out.l5
      have f5 := HD.out.x.frozen 5
      have l6 := HD.out.l6
      have f6 := HD.out.x.frozen 6
      have z0 := HD.out.st.c0
      have z1 := HD.out.st.c1
      have z2 := HD.out.st.c2
      have k2 : w12.frozen? ⟨g, 2, none⟩ = false := blk_frozen HD.out.st 2
      by_cases c6' : e6 = 0
      case neg =>
        have hm := (HM.out.resolve_left (fun h => c6' h.2)).1
        have hE := HE.out
        rw [hm] at hE
        have d5 : (e6 == 0) = false := beq_eq_false_iff_ne.mpr c6'
        have HG := Lib.hid (And.intro hE c6')
        clear hE c6' hm HM
        have y0 := HD.out.y0
        have g0 := HD.out.z.frozen 0
        have y1 := HD.out.y1
        have g1 := HD.out.z.frozen 1
        have y2 := HD.out.y2
        have g2 := HD.out.z.frozen 2
        have y3 := HD.out.y3
        have g3 := HD.out.z.frozen 3
        have y4 := HD.out.y4
        have g4 := HD.out.z.frozen 4
        have y5 := HD.out.y5
        have g5 := HD.out.z.frozen 5
        have y6 := HD.out.y6
        have g6 := HD.out.z.frozen 6
        have nhq := HD.out.ne
        have nqh := Ne.symm nhq
        have ngq := HD.out.z.ne6 HD.out.st (by decide)
        have nqg := Ne.symm ngq
        have nhg := HD.out.x.ne6 HD.out.st (by decide)
        have ngh := Ne.symm nhg
        go_wp2_with fail
        obtain ⟨w9, hw9, hl, hp⟩ := HD.out.laid
        rw [← hw9]
        have r0 := hl.z.is 0 rfl
        have r1 := hl.z.is 1 rfl
        have r2 := hl.z.is 2 rfl
        have r3 := hl.z.is 3 rfl
        have r4 := hl.z.is 4 rfl
        have r5 := hl.z.is 5 rfl
        have r6 := hl.z.is 6 rfl
        refine bodyPost_ret (v := .agg #[.string nm, .int .u16 t, .int .u16 c, .int .u32 l, .slice A4 n4 c4, .slice A5 n5 c5, .slice A6 n6 c6]) (by simp [results, Try.results50, go_sem, r0, r1, r2, r3, r4, r5, r6]) rfl ?_
        exact Ends6.err (P := RecP w.heap.size) hl.o hp hl.st HG.out.1 HG.out.2
      case pos =>
        have hm := (HM.out.resolve_right (fun h => h.2 c6')).1
        subst c6'
        have hE := HE.out
        rw [hm] at hE
        simp only [] at hE
        have HF := Aside0.mk ((dataR_all hm ⟨HB.out.1, by have := HB.out; omega⟩).1.fine HS.out nm t c l)
        have HRA := Aside0.mk (recAt_of (r := ⟨nm, t, c, l, names, nums, texts⟩) (HD.out.rp.parts rfl).1 (HD.out.rp.parts rfl).2.1 (HD.out.rp.parts rfl).2.2)
        obtain ⟨ck, hck⟩ : ∃ ck, checkF ⟨nm, t, c, l, names, nums, texts⟩ = ck := ⟨_, rfl⟩
        rw [hck] at hE
        have HG := Lib.hid hE
        have HCk := Lib.hid hck
        clear hE hm HM hck
        go_wp2_with fail
        refine (check5_calls ⟨nm, t, c, l, names, nums, texts⟩ _ _ HRA.out HF.out (by have := HNm.out; show nm.size ≤ _; omega)).mono ?_
        rintro r w13 ⟨rfl, hb⟩
        rw [HCk.out]
        have HD2 := Aside0.mk (HD.out.go (Only.of_below hb g) (HD.out.st.below hb))
        clear l0 l1 l2 l3 l4 l5 l6 f0 f1 f2 f3 f4 f5 f6 z0 z1 z2 k2
        clear HD hb HRA HF
        have l0 := HD2.out.l0
        have f0 := HD2.out.x.frozen 0
        have l1 := HD2.out.l1
        have f1 := HD2.out.x.frozen 1
        have l2 := HD2.out.l2
        have f2 := HD2.out.x.frozen 2
        have l3 := HD2.out.l3
        have f3 := HD2.out.x.frozen 3
        have l4 := HD2.out.l4
        have f4 := HD2.out.x.frozen 4
        have l5 := HD2.out.l5
        have f5 := HD2.out.x.frozen 5
        have l6 := HD2.out.l6
        have f6 := HD2.out.x.frozen 6
        have z0 := HD2.out.st.c0
        have z1 := HD2.out.st.c1
        have z2 := HD2.out.st.c2
        have k2 : w13.frozen? ⟨g, 2, none⟩ = false := blk_frozen HD2.out.st 2
        have HD3 := Aside0.mk (HD2.out.sete ck)
        have y0 := HD2.out.y0
        have g0 := HD2.out.z.frozen 0
        have y1 := HD2.out.y1
        have g1 := HD2.out.z.frozen 1
        have y2 := HD2.out.y2
        have g2 := HD2.out.z.frozen 2
        have y3 := HD2.out.y3
        have g3 := HD2.out.z.frozen 3
        have y4 := HD2.out.y4
        have g4 := HD2.out.z.frozen 4
        have y5 := HD2.out.y5
        have g5 := HD2.out.z.frozen 5
        have y6 := HD2.out.y6
        have g6 := HD2.out.z.frozen 6
        have nhq := HD2.out.ne
        have nqh := Ne.symm nhq
        have ngq := HD2.out.z.ne6 HD2.out.st (by decide)
        have nqg := Ne.symm ngq
        have nhg := HD2.out.x.ne6 HD2.out.st (by decide)
        have ngh := Ne.symm nhg
        go_wp2_with fail
        obtain ⟨w9, hw9, hl, hp⟩ := HD3.out.laid
        rw [← hw9]
        have r0 := hl.z.is 0 rfl
        have r1 := hl.z.is 1 rfl
        have r2 := hl.z.is 2 rfl
        have r3 := hl.z.is 3 rfl
        have r4 := hl.z.is 4 rfl
        have r5 := hl.z.is 5 rfl
        have r6 := hl.z.is 6 rfl
        refine bodyPost_ret (v := .agg #[.string nm, .int .u16 t, .int .u16 c, .int .u32 l, .slice A4 n4 c4, .slice A5 n5 c5, .slice A6 n6 c6]) (by simp [results, Try.results50, go_sem, r0, r1, r2, r3, r4, r5, r6]) rfl ?_
        exact (Decidable.em (ck = 0)).elim (fun hc => Ends6.ok (P := RecP w.heap.size) (a := a6) hl.o hp (hc ▸ hl.st) (HG.out.trans (if_pos hc))) (fun hc => Ends6.err (P := RecP w.heap.size) hl.o hp hl.st (HG.out.trans (if_neg hc)) hc)
end Go.Proofs.Ytbbeikdbioelgaa.M
