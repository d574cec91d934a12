/- Walk of nuncioref06: the state's data. -/
import Derived.Test.YtbbeikdbioelgaaKMJRef6
import Derived.Test.YtbbeikdbioelgaaKMJDraw
import Derived.Test.YtbbeikdbioelgaaKMRRec
set_option linter.unusedVariables false
set_option linter.unusedSimpArgs false
namespace Go.Proofs.Ytbbeikdbioelgaa.M
open Go.RowKit Go.Maps Go.Proofs.YtbbeikdbioelgaaW.PrintWords Go.Proofs.YtbbeikdbioelgaaW.PrintLast Go.Proofs.YtbbeikdbioelgaaW.PrintMore
attribute [local go_sem] max2_int min2_int max_two min_two max_three min_three max_four min_four
attribute [local go_sem ↓] Go.wp_at_zero Go.wp_at_succ
/-- The record behind its data. -/
def PartP6 (w : World) (f0 : ByteArray) (k c t : Int) (x : Parts) (v : Value) (w' : World) : Prop := RecP w.heap.size ⟨f0, k, c, t, x.1, x.2.1, x.2.2⟩ v w'
/-- Where the reference stands in a record's data: its state, the record's box, the result's box, the three rows. -/
structure D6 (w0 w : World) (g h q B6 : Nat) (s f0 : ByteArray) (k c t a e : Int) (v4 v5 v6 : Value) (names : List ByteArray) (nums : List Int) (texts : List ByteArray) : Prop where
  o : Only g w0 w
  st : St w g s a e
  x : SAt w h #[.string f0, .int .u16 k, .int .u16 c, .int .u32 t, v4, v5, v6] 44
  z : SAt w q #[.string ⟨#[]⟩, .int .u16 0, .int .u16 0, .int .u32 0, .slice none 0 0, .slice none 0 0, .slice none 0 0] 44
  hb : w0.heap.size ≤ h
  qb : w0.heap.size ≤ q
  ne : h ≠ q
  b6 : w0.heap.size ≤ B6
  b7 : B6 ≤ w.heap.size
  r4 : Kd.R Kd.string 9 w w0.heap.size (fun k => k < B6) v4 names
  r5 : Kd.R (Kd.int .u32) 41 w w0.heap.size (fun _ => True) v5 nums
  r6 : Kd.R Kd.string 9 w B6 (fun _ => True) v6 texts
theorem SAt.ne6 {w : World} {h g : Nat} {cs : Array Value} {T : Nat} {s : ByteArray} {a e : Int} (hx : SAt w h cs T) (hr : St w g s a e) (hT : T ≠ 96) : h ≠ g := blk_ne hx hr hT
theorem St.far {w : World} {g h : Nat} {s : ByteArray} {a e : Int} (hr : St w g s a e) (hne : g ≠ h) (j : Nat) (u : Value) : St (w.setCell ⟨h, j, none⟩ u) g s a e := (Below.heap_setCell w _ u g hne).trans hr
section
variable {w0 w w1 : World} {g h q B6 : Nat} {s f0 : ByteArray} {k c t a e a' e' : Int} {v4 v5 v6 u : Value} {names texts l : List ByteArray} {nums ns : List Int}
theorem D6.go (d : D6 w0 w g h q B6 s f0 k c t a e v4 v5 v6 names nums texts) (ho : Only g w w1) (hs : St w1 g s a' e') : D6 w0 w1 g h q B6 s f0 k c t a' e' v4 v5 v6 names nums texts :=
  ⟨d.o.trans ho, hs, ho.at_ d.x (d.x.ne6 d.st (by decide)), ho.at_ d.z (d.z.ne6 d.st (by decide)), d.hb, d.qb, d.ne, d.b6, Nat.le_trans d.b7 ho.size, R_only6 d.r4 d.st (by decide) ho, R_only6 d.r5 d.st (by intro q hq; rw [show q = 41 by simpa [Kd.int, Kd.scalar] using hq]; decide) ho, R_only6 d.r6 d.st (by decide) ho⟩
theorem D6.drew (d : D6 w0 w g h q B6 s f0 k c t a e v4 v5 v6 names nums texts) : D6 w0 w.drew g h q B6 s f0 k c t a e v4 v5 v6 names nums texts := d.go (Only.drew (Only.refl g w)) d.st
theorem D6.putN (d : D6 w0 w g h q B6 s f0 k c t a e v4 v5 v6 names nums texts) {B : Nat} (hB : w0.heap.size ≤ B) (hr : Kd.R (Kd.int .u32) 41 w B (fun _ => True) u ns) : D6 w0 (w.setCell ⟨h, 5, none⟩ u) g h q B6 s f0 k c t a e v4 u v6 names ns texts :=
  ⟨d.o.setNew d.hb 5 u, d.st.far (Ne.symm (d.x.ne6 d.st (by decide))) 5 u, d.x.set 5 u, d.z.far (Ne.symm d.ne) 5 u, d.hb, d.qb, d.ne, d.b6, by simpa using d.b7, Kd.R_set d.r4 d.x (by decide) 5 u, Kd.R_set (Kd.R_lower hr hB) d.x (by intro q hq; rw [show q = 41 by simpa [Kd.int, Kd.scalar] using hq]; decide) 5 u, Kd.R_set d.r6 d.x (by decide) 5 u⟩
theorem D6.putL (d : D6 w0 w g h q B6 s f0 k c t a e v4 v5 (.slice none 0 0) names nums []) {B : Nat} (hB : w0.heap.size ≤ B) (hr : Kd.R Kd.string 9 w B (fun _ => True) u l) : D6 w0 (w.setCell ⟨h, 4, none⟩ u) g h q w.heap.size s f0 k c t a e u v5 (.slice none 0 0) l nums [] :=
  ⟨d.o.setNew d.hb 4 u, d.st.far (Ne.symm (d.x.ne6 d.st (by decide))) 4 u, d.x.set 4 u, d.z.far (Ne.symm d.ne) 4 u, d.hb, d.qb, d.ne, d.o.size, by simp, Kd.R_set (Kd.R_mono (Kd.R_bound (Kd.R_lower hr hB)) (fun _ hk => hk.2.2.1)) d.x (by decide) 4 u, Kd.R_set d.r5 d.x (by intro q hq; rw [show q = 41 by simpa [Kd.int, Kd.scalar] using hq]; decide) 4 u, Kd.R_nil _ _ _ _ _⟩
theorem D6.tgrown (d : D6 w0 w g h q B6 s f0 k c t a e v4 v5 v6 names nums texts) (hr : Kd.R Kd.string 9 w1 B6 (fun _ => True) u l) {row : Option Nat} (hg : w.grownBy w1 row) (hrow : ∀ k, row = some k → B6 ≤ k ∧ k ≠ g ∧ k ≠ h ∧ k ≠ q ∧ ∀ cs, w.heap[k]? ≠ some (.cells cs 41 (0, 0))) :
    D6 w0 (w1.setCell ⟨h, 6, none⟩ u) g h q B6 s f0 k c t a e v4 v5 u names nums l := by
  have ne0 : ∀ k, k = g ∨ k = h ∨ k = q → some k ≠ row := fun k hk he => by
    have := hrow k he.symm
    omega
  have hx1 := blk_grown d.x hg (ne0 h (by simp))
  have hz1 := blk_grown d.z hg (ne0 q (by simp))
  have hs1 := blk_grown d.st hg (ne0 g (by simp))
  have h4 := Kd.R_grown d.r4 hg (fun k hk he => by have := hrow k he.symm; omega)
  have h5 := Kd.R_drop (Kd.R_grown (Kd.R_mono (Kd.R_bound d.r5) (ok' := fun k => True ∧ some k ≠ row) (fun k hk => ⟨trivial, fun he => by
    obtain ⟨q', hq', cs, hc⟩ := hk.2.2.2
    rw [show q' = 41 by simpa [Kd.int, Kd.scalar] using hq'] at hc
    exact (hrow k he.symm).2.2.2.2 cs hc⟩)) hg (fun k hk => hk.2))
  exact ⟨(d.o.of_grown hg (fun k hk => Nat.le_trans d.b6 (hrow k hk).1)).setNew d.hb 6 u, St.far hs1 (Ne.symm (d.x.ne6 d.st (by decide))) 6 u, SAt.set hx1 6 u, SAt.far hz1 (Ne.symm d.ne) 6 u, d.hb, d.qb, d.ne, d.b6, by have := hg.size; have := d.b7; simp; omega, Kd.R_set h4 hx1 (by decide) 6 u, Kd.R_set h5 hx1 (by intro q hq; rw [show q = 41 by simpa [Kd.int, Kd.scalar] using hq]; decide) 6 u, Kd.R_set hr hx1 (by decide) 6 u⟩
theorem D6.app (d : D6 w0 w g h q B6 s f0 k c t a e v4 v5 v6 names nums texts) (hr : Kd.R Kd.string 9 w1 B6 (fun _ => True) u l) (hg : w.grownBy w1 v6.ownBlock) : D6 w0 (w1.setCell ⟨h, 6, none⟩ u) g h q B6 s f0 k c t a e v4 v5 u names nums l :=
  d.tgrown hr hg (fun j hj => ⟨Kd.R_base d.r6 j hj, fun he => Kd.R_ne d.r6 d.st (by decide) (by rw [hj, he]), fun he => Kd.R_ne d.r6 d.x (by decide) (by rw [hj, he]), fun he => Kd.R_ne d.r6 d.z (by decide) (by rw [hj, he]), fun cs hc => Kd.R_ne d.r6 hc (by decide) hj.symm⟩)
theorem D6.lit (d : D6 w0 w g h q B6 s f0 k c t a e v4 v5 v6 names nums texts) (hr : Kd.R Kd.string 9 w1 B6 (fun _ => True) u l) (hg : w.grownBy w1 none) : D6 w0 (w1.setCell ⟨h, 6, none⟩ u) g h q B6 s f0 k c t a e v4 v5 u names nums l :=
  d.tgrown hr hg (fun j hj => by cases hj)
theorem D6.seta (d : D6 w0 w g h q B6 s f0 k c t a e v4 v5 v6 names nums texts) (b : Int) : D6 w0 (w.setCell ⟨g, 1, none⟩ (.int .i64 b)) g h q B6 s f0 k c t b e v4 v5 v6 names nums texts := d.go (Only.set (Only.refl g w) 1 _) (d.st.set1 b)
theorem D6.sete (d : D6 w0 w g h q B6 s f0 k c t a e v4 v5 v6 names nums texts) (b : Int) : D6 w0 (w.setCell ⟨g, 2, none⟩ (.int .i64 b)) g h q B6 s f0 k c t a b v4 v5 v6 names nums texts := d.go (Only.set (Only.refl g w) 2 _) (d.st.set2 b)
theorem D6.l0 (d : D6 w0 w g h q B6 s f0 k c t a e v4 v5 v6 names nums texts) : w.cell? ⟨h, 0, none⟩ = some (.string f0) := d.x.is 0 rfl
theorem D6.l1 (d : D6 w0 w g h q B6 s f0 k c t a e v4 v5 v6 names nums texts) : w.cell? ⟨h, 1, none⟩ = some (.int .u16 k) := d.x.is 1 rfl
theorem D6.l2 (d : D6 w0 w g h q B6 s f0 k c t a e v4 v5 v6 names nums texts) : w.cell? ⟨h, 2, none⟩ = some (.int .u16 c) := d.x.is 2 rfl
theorem D6.l3 (d : D6 w0 w g h q B6 s f0 k c t a e v4 v5 v6 names nums texts) : w.cell? ⟨h, 3, none⟩ = some (.int .u32 t) := d.x.is 3 rfl
theorem D6.l4 (d : D6 w0 w g h q B6 s f0 k c t a e v4 v5 v6 names nums texts) : w.cell? ⟨h, 4, none⟩ = some (v4) := d.x.is 4 rfl
theorem D6.l5 (d : D6 w0 w g h q B6 s f0 k c t a e v4 v5 v6 names nums texts) : w.cell? ⟨h, 5, none⟩ = some (v5) := d.x.is 5 rfl
theorem D6.l6 (d : D6 w0 w g h q B6 s f0 k c t a e v4 v5 v6 names nums texts) : w.cell? ⟨h, 6, none⟩ = some (v6) := d.x.is 6 rfl
theorem D6.y0 (d : D6 w0 w g h q B6 s f0 k c t a e v4 v5 v6 names nums texts) : w.cell? ⟨q, 0, none⟩ = some (.string ⟨#[]⟩) := d.z.is 0 rfl
theorem D6.y1 (d : D6 w0 w g h q B6 s f0 k c t a e v4 v5 v6 names nums texts) : w.cell? ⟨q, 1, none⟩ = some (.int .u16 0) := d.z.is 1 rfl
theorem D6.y2 (d : D6 w0 w g h q B6 s f0 k c t a e v4 v5 v6 names nums texts) : w.cell? ⟨q, 2, none⟩ = some (.int .u16 0) := d.z.is 2 rfl
theorem D6.y3 (d : D6 w0 w g h q B6 s f0 k c t a e v4 v5 v6 names nums texts) : w.cell? ⟨q, 3, none⟩ = some (.int .u32 0) := d.z.is 3 rfl
theorem D6.y4 (d : D6 w0 w g h q B6 s f0 k c t a e v4 v5 v6 names nums texts) : w.cell? ⟨q, 4, none⟩ = some (.slice none 0 0) := d.z.is 4 rfl
theorem D6.y5 (d : D6 w0 w g h q B6 s f0 k c t a e v4 v5 v6 names nums texts) : w.cell? ⟨q, 5, none⟩ = some (.slice none 0 0) := d.z.is 5 rfl
theorem D6.y6 (d : D6 w0 w g h q B6 s f0 k c t a e v4 v5 v6 names nums texts) : w.cell? ⟨q, 6, none⟩ = some (.slice none 0 0) := d.z.is 6 rfl
/-- A record is laid into the result's box. -/
structure Laid6 (w0 w : World) (g q : Nat) (s : ByteArray) (a e : Int) (cs : Array Value) : Prop where
  o : Only g w0 w
  st : St w g s a e
  z : SAt w q cs 44
  qb : w0.heap.size ≤ q
theorem Laid6.set {cs : Array Value} (d : Laid6 w0 w g q s a e cs) (j : Nat) (u : Value) : Laid6 w0 (w.setCell ⟨q, j, none⟩ u) g q s a e (cs.setIfInBounds j u) :=
  ⟨d.o.setNew d.qb j u, d.st.far (Ne.symm (d.z.ne6 d.st (by decide))) j u, d.z.set j u, d.qb⟩
theorem D6.laid (d : D6 w0 w g h q B6 s f0 k c t a e v4 v5 v6 names nums texts) :
    ∃ w9, w9 = ((((((w.setCell ⟨q, 0, none⟩ (.string f0)).setCell ⟨q, 1, none⟩ (.int .u16 k)).setCell ⟨q, 2, none⟩ (.int .u16 c)).setCell ⟨q, 3, none⟩ (.int .u32 t)).setCell ⟨q, 4, none⟩ v4).setCell ⟨q, 5, none⟩ v5).setCell ⟨q, 6, none⟩ v6 ∧
      Laid6 w0 w9 g q s a e #[.string f0, .int .u16 k, .int .u16 c, .int .u32 t, v4, v5, v6] ∧ PartP6 w0 f0 k c t (names, nums, texts) (.agg #[.string f0, .int .u16 k, .int .u16 c, .int .u32 t, v4, v5, v6]) w9 := by
  have L0 : Laid6 w0 w g q s a e #[.string ⟨#[]⟩, .int .u16 0, .int .u16 0, .int .u32 0, .slice none 0 0, .slice none 0 0, .slice none 0 0] := ⟨d.o, d.st, d.z, d.qb⟩
  have L1 := L0.set 0 (.string f0)
  have L2 := L1.set 1 (.int .u16 k)
  have L3 := L2.set 2 (.int .u16 c)
  have L4 := L3.set 3 (.int .u32 t)
  have L5 := L4.set 4 v4
  have L6 := L5.set 5 v5
  have L7 := L6.set 6 v6
  have hp : RecP w0.heap.size ⟨f0, k, c, t, names, nums, texts⟩ (.agg #[.string f0, .int .u16 k, .int .u16 c, .int .u32 t, v4, v5, v6]) w := ⟨v4, v5, v6, rfl, Kd.R_mono d.r4 (fun _ _ => trivial), d.r5, Kd.R_lower d.r6 d.b6⟩
  exact ⟨_, rfl, L7, ((((((hp.set L0.z 0 (.string f0)).set L1.z 1 (.int .u16 k)).set L2.z 2 (.int .u16 c)).set L3.z 3 (.int .u32 t)).set L4.z 4 v4).set L5.z 5 v5).set L6.z 6 v6⟩
theorem D6.start (hr : St w g s a e) : D6 w ((w.alloc (.cells #[.string f0, .int .u16 k, .int .u16 c, .int .u32 t, (.slice none 0 0), (.slice none 0 0), (.slice none 0 0)] 44 (0, 0))).alloc (.cells #[.string ⟨#[]⟩, .int .u16 0, .int .u16 0, .int .u32 0, .slice none 0 0, .slice none 0 0, .slice none 0 0] 44 (0, 0))) g w.heap.size (w.heap.size + 1) w.heap.size s f0 k c t a e (.slice none 0 0) (.slice none 0 0) (.slice none 0 0) [] [] [] := by
  have hx := SAt.new w #[.string f0, .int .u16 k, .int .u16 c, .int .u32 t, (.slice none 0 0), (.slice none 0 0), (.slice none 0 0)] 44
  have hb1 := below_alloc (Below.refl w.heap.size w) (.cells #[.string f0, .int .u16 k, .int .u16 c, .int .u32 t, (.slice none 0 0), (.slice none 0 0), (.slice none 0 0)] 44 (0, 0))
  have hz := SAt.new (w.alloc (.cells #[.string f0, .int .u16 k, .int .u16 c, .int .u32 t, (.slice none 0 0), (.slice none 0 0), (.slice none 0 0)] 44 (0, 0))) #[.string ⟨#[]⟩, .int .u16 0, .int .u16 0, .int .u32 0, .slice none 0 0, .slice none 0 0, .slice none 0 0] 44
  have hb2 := below_alloc (Below.refl (w.alloc (.cells #[.string f0, .int .u16 k, .int .u16 c, .int .u32 t, (.slice none 0 0), (.slice none 0 0), (.slice none 0 0)] 44 (0, 0))).heap.size _) (.cells #[.string ⟨#[]⟩, .int .u16 0, .int .u16 0, .int .u32 0, .slice none 0 0, .slice none 0 0, .slice none 0 0] 44 (0, 0))
  have hsz : (w.alloc (.cells #[.string f0, .int .u16 k, .int .u16 c, .int .u32 t, (.slice none 0 0), (.slice none 0 0), (.slice none 0 0)] 44 (0, 0))).heap.size = w.heap.size + 1 := by simp
  rw [hsz] at hz
  exact ⟨((Only.refl g w).alloc _).alloc _, (hr.below hb1).below hb2, hx.below hb2, hz, Nat.le_refl _, by omega, by omega, Nat.le_refl _, by simp; omega, Kd.R_nil _ _ _ _ _, Kd.R_nil _ _ _ _ _, Kd.R_nil _ _ _ _ _⟩
end
theorem getF_in {s : ByteArray} {a : Int} (h0 : 0 ≤ a) (h1 : a < s.size) : getF s a 1 ≠ none := by
  unfold getF partF
  rw [if_neg (by omega), if_neg (by omega)]
  simp
theorem partF_in {s : ByteArray} {a n : Int} (h0 : 0 ≤ a) (h1 : 0 ≤ n) (h2 : a + n ≤ s.size) : partF s a n = some (s.extract a.toNat (a + n).toNat) := by
  unfold partF
  rw [if_neg (by omega)]
theorem shapeOf_tx (k : Int) : (shapeOf k).2.2 = if (shapeOf k).1 + (shapeOf k).2.1 = 0 then 1 else 0 := by
  unfold shapeOf
  (repeat' split) <;> simp_all
/-- What a read found or met. -/
def Met6 {α : Type} (R : Except Int (α × Int)) (x : α) (a e : Int) : Prop := (R = .ok (x, a) ∧ e = 0) ∨ (R = .error e ∧ e ≠ 0)
section
variable {s : ByteArray} {k en a a1 a2 e1 e2 : Int} {x1 : List Int} {x2 : List ByteArray}
theorem data6_two (h6 : ¬ k = 6) (h1 : Met6 (numsR s 2 en (shapeOf k).2.1 [] a) x1 a1 e1) (h2 : Met6 (after6 e1 (namesR s k en (shapeOf k).1 [] a1)) x2 a2 e2) :
    (e2 = 0 ∧ dataR s k en a = dataT s k en x2 x1 a2) ∨ (e2 ≠ 0 ∧ dataR s k en a = .error e2) := by
  unfold dataR
  rw [if_neg h6]
  rcases h1 with ⟨h1, rfl⟩ | ⟨h1, he⟩
  · rw [h1]
    rw [after6_ok] at h2
    simp only [dataM]
    rcases h2 with ⟨h2, rfl⟩ | ⟨h2, he⟩
    · rw [h2]
      exact .inl ⟨rfl, dataN_not h6⟩
    · rw [h2]
      exact .inr ⟨he, rfl⟩
  · rw [h1]
    rw [after6_err he] at h2
    rcases h2 with ⟨h2, -⟩ | ⟨h2, he2⟩
    · exact absurd h2 (by simp)
    · exact .inr ⟨he2, by rw [← Except.error.inj h2]⟩
theorem data6_six (hk : k = 6) (h1 : Met6 (namesR s k en 2 [] a) x2 a1 e1) (h2 : Met6 (after6 e1 (numsR s 4 en 5 [] a1)) x1 a2 e2) :
    (e2 = 0 ∧ dataR s k en a = dataE en x2 x1 ([], a2)) ∨ (e2 ≠ 0 ∧ dataR s k en a = .error e2) := by
  subst hk
  have hd : dataR s 6 en a = dataM s 6 en ([], a) := if_pos rfl
  rw [hd]
  have hm : dataM s 6 en ([], a) = (match namesR s 6 en 2 [] a with | .error c => .error c | .ok x => dataN s 6 en [] x) := rfl
  rw [hm]
  rcases h1 with ⟨h1, rfl⟩ | ⟨h1, he⟩
  · rw [h1]
    rw [after6_ok] at h2
    simp only []
    rw [dataN_six rfl, show (shapeOf 6).2.1 = 5 from rfl]
    rcases h2 with ⟨h2, rfl⟩ | ⟨h2, he⟩
    · rw [h2]
      exact .inl ⟨rfl, dataT_none (by decide) (by decide)⟩
    · rw [h2]
      exact .inr ⟨he, rfl⟩
  · rw [h1]
    rw [after6_err he] at h2
    rcases h2 with ⟨h2, -⟩ | ⟨h2, he2⟩
    · exact absurd h2 (by simp)
    · exact .inr ⟨he2, by rw [← Except.error.inj h2]⟩
theorem nums6_at {z : Int} {n : Nat} (h1 : Met6 (numsR s z en n [] a) x1 a1 e1) (ha : 0 ≤ a ∧ a ≤ s.size) : e1 = 0 → 0 ≤ a1 ∧ a1 ≤ s.size := by
  intro he
  rcases h1 with ⟨h1, -⟩ | ⟨-, h⟩
  · exact numsR_at _ h1 ha
  · exact absurd he h
theorem names6_at {n : Nat} (h1 : Met6 (after6 e1 (namesR s k en n [] a1)) x2 a2 e2) (ha : e1 = 0 → 0 ≤ a1 ∧ a1 ≤ s.size) : e2 = 0 → 0 ≤ a2 ∧ a2 ≤ s.size := by
  intro he
  rcases h1 with ⟨h1, -⟩ | ⟨-, h⟩
  · by_cases h : e1 = 0
    · subst h
      rw [after6_ok] at h1
      exact namesR_at n h1 (ha rfl)
    · rw [after6_err h] at h1
      exact absurd h1 (by simp)
  · exact absurd he h
end
set_option maxHeartbeats 8000000 in
set_option maxRecDepth 100000 in
theorem data6_calls {w : World} {g : Nat} {s f0 : ByteArray} {k c t a en : Int} (hr : St w g s a 0) (hs : s.size ≤ 1000000) (h0 : 0 ≤ a) (hae : a ≤ en) (he : en ≤ s.size) :
    Calls Try.prog 70 #[.pointer (some ⟨g, 0, none⟩), .agg #[.string f0, .int .u16 k, .int .u16 c, .int .u32 t, (.slice none 0 0), (.slice none 0 0), (.slice none 0 0)], .int .i64 en] w fun r w' => Ends6 (PartP6 w f0 k c t) (dataR s k en a) w g s r w' := by
  obtain ⟨R, hR⟩ : ∃ R, dataR s k en a = R := ⟨_, rfl⟩
  rw [hR]
  have HD := Aside0.mk (D6.start (f0 := f0) (k := k) (c := c) (t := t) hr)
  have HS := Lib.hid (show s.size ≤ 1000000 ∧ en ≤ s.size ∧ 0 ≤ en from ⟨hs, he, by omega⟩)
  have HA := Lib.hid (show 0 ≤ a ∧ a ≤ en ∧ a ≤ s.size by omega)
  obtain ⟨⟨n, m, tx⟩, hsh⟩ : ∃ x, shapeOf k = x := ⟨_, rfl⟩
  obtain ⟨s1, s2, s3⟩ := shapeOf_le k
  have e1 : (shapeOf k).1 = n := by rw [hsh]
  have e2 : (shapeOf k).2.1 = m := by rw [hsh]
  have e3 : (shapeOf k).2.2 = tx := by rw [hsh]
  have e4 := shapeOf_tx k
  rw [e1] at s1 e4
  rw [e2] at s2 e4
  rw [e3] at s3 e4
  have HSh := Lib.hid hsh
  have HNM := Lib.hid (show (shapeOf k).1 = n ∧ (shapeOf k).2.1 = m ∧ tx = (if n + m = 0 then 1 else 0) ∧ n ≤ 10 ∧ m ≤ 10 from ⟨e1, e2, e4, by omega, by omega⟩)
  have HRR := Lib.hid hR
  have p1 : (n : Int) ≤ 2 := by omega
  have p2 : (m : Int) ≤ 5 := by omega
  have p3 : en ≤ 1000000 := by omega
  have p4 : 0 ≤ en := by omega
  clear hr hs h0 hae he hsh s1 s2 s3 e1 e2 e3 e4 hR
  go_enter Try.func70, Try.ntmps70
  go_wp2_with fail
  refine (Shape5_calls k _).mono ?_
  rw [HSh.out]
  rintro e w1 ⟨rfl, rfl⟩
  generalize hW : (w.alloc _).alloc _ = w1 at *
  obtain ⟨q, hq⟩ : ∃ q, w.heap.size + 1 = q := ⟨_, rfl⟩
  obtain ⟨h, hh⟩ : ∃ h, w.heap.size = h := ⟨_, rfl⟩
  have hd := HD.out
  rw [hq, hh] at hd
  simp only [hq]
  simp only [hh]
  have HD := Aside0.mk hd
  clear hq hh hW hd
  have l0 := HD.out.l0
  have l1 := HD.out.l1
  have l2 := HD.out.l2
  have l3 := HD.out.l3
  have l4 := HD.out.l4
  have l5 := HD.out.l5
  have l6 := HD.out.l6
  have f4 := HD.out.x.frozen 4
  have f5 := HD.out.x.frozen 5
  have f6 := HD.out.x.frozen 6
  have z0 := HD.out.st.c0
  have z1 := HD.out.st.c1
  have z2 := HD.out.st.c2
  have k1 : w1.frozen? ⟨g, 1, none⟩ = false := blk_frozen HD.out.st 1
  have k2 : w1.frozen? ⟨g, 2, none⟩ = false := blk_frozen HD.out.st 2
  by_cases k6 : k = 6
  · obtain ⟨rfl, rfl⟩ : n = 2 ∧ m = 5 := by have := HNM.out; rw [k6] at this; exact ⟨this.1.symm, this.2.1.symm⟩
    have d6 : (k != 6) = false := by rw [bne_eq_false_iff_eq]; exact k6
    have d7 : (k == 6) = true := beq_iff_eq.mpr k6
    have d8 : (k == 16) = false := beq_eq_false_iff_ne.mpr (by omega)
    have d9 : (k != 16) = true := by rw [bne_iff_ne]; omega
    obtain rfl : tx = 0 := HNM.out.2.2.1
    have K6 := Lib.hid k6
    clear k6
    go_wp2_with fail
    refine (names6_any (count := 2) HD.out.st HS.out.1 (fun _ => ⟨HA.out.1, HA.out.2.2⟩) HS.out.2.1 HS.out.2.2 (by decide)).mono ?_
    rintro r w2 ⟨ho, x2, v, a1, e1, rfl, hp, hs, hm⟩
    rw [after6_ok] at hm
    obtain ⟨A4, n4, c4, rfl⟩ := R_anyslice hp
    have HM1 := Aside0.mk (show Met6 (namesR s k en 2 [] a) x2 a1 e1 from hm)
    have HD2 := Aside0.mk ((HD.out.go ho hs).putL (Nat.le_trans HD.out.o.size (Nat.le_refl _)) hp)
    have HI := Aside0.mk (names6_at (e1 := 0) (a1 := a) (s := s) (show Met6 (after6 0 (namesR s k en 2 [] a)) x2 a1 e1 by rw [after6_ok]; exact hm) (fun _ => ⟨HA.out.1, HA.out.2.2⟩))
    have HD1 := Aside0.mk (HD.out.go ho hs)
    clear l0 l1 l2 l3 l4 l5 l6 f4 f5 f6 z0 z1 z2 k1 k2
    clear ho hp hs hm HD
    have l0 := HD1.out.l0
    have l1 := HD1.out.l1
    have l2 := HD1.out.l2
    have l3 := HD1.out.l3
    have l4 := HD1.out.l4
    have l5 := HD1.out.l5
    have l6 := HD1.out.l6
    have f4 := HD1.out.x.frozen 4
    have f5 := HD1.out.x.frozen 5
    have f6 := HD1.out.x.frozen 6
    have z0 := HD1.out.st.c0
    have z1 := HD1.out.st.c1
    have z2 := HD1.out.st.c2
    have k1 : w2.frozen? ⟨g, 1, none⟩ = false := blk_frozen HD1.out.st 1
    have k2 : w2.frozen? ⟨g, 2, none⟩ = false := blk_frozen HD1.out.st 2
    go_wp2_with fail
    generalize hW : w2.setCell ⟨h, 4, none⟩ (.slice A4 n4 c4) = w3 at *
    clear l0 l1 l2 l3 l4 l5 l6 f4 f5 f6 z0 z1 z2 k1 k2
    clear HD1 hW
    refine (numbers6_any (count := 5) (z := 4) HD2.out.st HS.out.1 HI.out HS.out.2.1 HS.out.2.2 (by decide) (.inr rfl)).mono ?_
    rintro r w4 ⟨ho, x1, v, a', e, rfl, hp, hs, hm⟩
    obtain ⟨A5, n5, c5, rfl⟩ := R_anyslice hp
    have hF := data6_six K6.out HM1.out hm
    rw [HRR.out] at hF
    have HF : Aside0 ((e = 0 ∧ dataE en x2 x1 ([], a') = R) ∨ (e ≠ 0 ∧ R = .error e)) := ⟨hF.imp (fun h => ⟨h.1, h.2.symm⟩) id⟩
    have HD4 := Aside0.mk ((HD2.out.go ho hs).putN (Nat.le_trans HD2.out.o.size (Nat.le_refl _)) hp)
    have HD3 := Aside0.mk (HD2.out.go ho hs)
    clear hF hp hs hm ho HD2 HM1 HI
    have l0 := HD3.out.l0
    have l1 := HD3.out.l1
    have l2 := HD3.out.l2
    have l3 := HD3.out.l3
    have l4 := HD3.out.l4
    have l5 := HD3.out.l5
    have l6 := HD3.out.l6
    have f4 := HD3.out.x.frozen 4
    have f5 := HD3.out.x.frozen 5
    have f6 := HD3.out.x.frozen 6
    have z0 := HD3.out.st.c0
    have z1 := HD3.out.st.c1
    have z2 := HD3.out.st.c2
    have k1 : w4.frozen? ⟨g, 1, none⟩ = false := blk_frozen HD3.out.st 1
    have k2 : w4.frozen? ⟨g, 2, none⟩ = false := blk_frozen HD3.out.st 2
    go_wp2_with fail
    generalize hW : w4.setCell ⟨h, 5, none⟩ (.slice A5 n5 c5) = w5 at *
    clear l0 l1 l2 l3 l4 l5 l6 f4 f5 f6 z0 z1 z2 k1 k2
    clear HD3 hW
    have l0 := HD4.out.l0
    have l1 := HD4.out.l1
    have l2 := HD4.out.l2
    have l3 := HD4.out.l3
    have l4 := HD4.out.l4
    have l5 := HD4.out.l5
    have l6 := HD4.out.l6
    have f4 := HD4.out.x.frozen 4
    have f5 := HD4.out.x.frozen 5
    have f6 := HD4.out.x.frozen 6
    have z0 := HD4.out.st.c0
    have z1 := HD4.out.st.c1
    have z2 := HD4.out.st.c2
    have k1 : w5.frozen? ⟨g, 1, none⟩ = false := blk_frozen HD4.out.st 1
    have k2 : w5.frozen? ⟨g, 2, none⟩ = false := blk_frozen HD4.out.st 2
    by_cases c0 : e = 0
    · have hF := (HF.out.resolve_right (fun h => h.1 c0)).2
      subst c0
      have e1 : ((0 : Int) == 0) = true := rfl
      rw [dataE_eq] at hF
      by_cases c1 : a' = en
      · rw [if_pos c1] at hF
        have HG := Lib.hid hF
        have d1 : (a' != en) = false := by rw [bne_eq_false_iff_eq]; exact c1
        clear c1 hF
        refine wp_loop_once ?_
        have y0 := HD4.out.y0
        have y1 := HD4.out.y1
        have y2 := HD4.out.y2
        have y3 := HD4.out.y3
        have y4 := HD4.out.y4
        have y5 := HD4.out.y5
        have y6 := HD4.out.y6
        have g0 := HD4.out.z.frozen 0
        have g1 := HD4.out.z.frozen 1
        have g2 := HD4.out.z.frozen 2
        have g3 := HD4.out.z.frozen 3
        have g4 := HD4.out.z.frozen 4
        have g5 := HD4.out.z.frozen 5
        have g6 := HD4.out.z.frozen 6
        have nhq := HD4.out.ne
        have nqh := Ne.symm nhq
        have ngq := HD4.out.z.ne6 HD4.out.st (by decide)
        have nqg := Ne.symm ngq
        have nhg := HD4.out.x.ne6 HD4.out.st (by decide)
        have ngh := Ne.symm nhg
        go_wp2_with fail
        obtain ⟨w9, hw9, hl, hp⟩ := HD4.out.laid
        rw [← hw9]
        have r0 := hl.z.is 0 rfl
        have r1 := hl.z.is 1 rfl
        have r2 := hl.z.is 2 rfl
        have r3 := hl.z.is 3 rfl
        have r4 := hl.z.is 4 rfl
        have r5 := hl.z.is 5 rfl
        have r6 := hl.z.is 6 rfl
        refine bodyPost_ret (v := .agg #[.string f0, .int .u16 k, .int .u16 c, .int .u32 t, (.slice A4 n4 c4), (.slice A5 n5 c5), (.slice none 0 0)]) (by simp [results, Try.results70, go_sem, r0, r1, r2, r3, r4, r5, r6]) rfl ?_
        exact Ends6.ok (P := PartP6 w f0 k c t) hl.o hp hl.st HG.out.symm
      · rw [if_neg c1] at hF
        have HG := Lib.hid hF
        have d1 : (a' != en) = true := by rw [bne_iff_ne]; exact c1
        have HD2 := Aside0.mk (HD4.out.sete 50)
        clear c1 hF
        refine wp_loop_once ?_
        have y0 := HD4.out.y0
        have y1 := HD4.out.y1
        have y2 := HD4.out.y2
        have y3 := HD4.out.y3
        have y4 := HD4.out.y4
        have y5 := HD4.out.y5
        have y6 := HD4.out.y6
        have g0 := HD4.out.z.frozen 0
        have g1 := HD4.out.z.frozen 1
        have g2 := HD4.out.z.frozen 2
        have g3 := HD4.out.z.frozen 3
        have g4 := HD4.out.z.frozen 4
        have g5 := HD4.out.z.frozen 5
        have g6 := HD4.out.z.frozen 6
        have nhq := HD4.out.ne
        have nqh := Ne.symm nhq
        have ngq := HD4.out.z.ne6 HD4.out.st (by decide)
        have nqg := Ne.symm ngq
        have nhg := HD4.out.x.ne6 HD4.out.st (by decide)
        have ngh := Ne.symm nhg
        go_wp2_with fail
        obtain ⟨w9, hw9, hl, hp⟩ := HD2.out.laid
        rw [← hw9]
        have r0 := hl.z.is 0 rfl
        have r1 := hl.z.is 1 rfl
        have r2 := hl.z.is 2 rfl
        have r3 := hl.z.is 3 rfl
        have r4 := hl.z.is 4 rfl
        have r5 := hl.z.is 5 rfl
        have r6 := hl.z.is 6 rfl
        refine bodyPost_ret (v := .agg #[.string f0, .int .u16 k, .int .u16 c, .int .u32 t, (.slice A4 n4 c4), (.slice A5 n5 c5), (.slice none 0 0)]) (by simp [results, Try.results70, go_sem, r0, r1, r2, r3, r4, r5, r6]) rfl ?_
        exact Ends6.err (P := PartP6 w f0 k c t) hl.o hp hl.st HG.out.symm (by decide)
    · have hF := (HF.out.resolve_left (fun h => c0 h.1)).2
      have e1 : (e == 0) = false := beq_eq_false_iff_ne.mpr c0
      have HG := Lib.hid (And.intro hF c0)
      clear c0 hF
      refine wp_loop_once ?_
      have y0 := HD4.out.y0
      have y1 := HD4.out.y1
      have y2 := HD4.out.y2
      have y3 := HD4.out.y3
      have y4 := HD4.out.y4
      have y5 := HD4.out.y5
      have y6 := HD4.out.y6
      have g0 := HD4.out.z.frozen 0
      have g1 := HD4.out.z.frozen 1
      have g2 := HD4.out.z.frozen 2
      have g3 := HD4.out.z.frozen 3
      have g4 := HD4.out.z.frozen 4
      have g5 := HD4.out.z.frozen 5
      have g6 := HD4.out.z.frozen 6
      have nhq := HD4.out.ne
      have nqh := Ne.symm nhq
      have ngq := HD4.out.z.ne6 HD4.out.st (by decide)
      have nqg := Ne.symm ngq
      have nhg := HD4.out.x.ne6 HD4.out.st (by decide)
      have ngh := Ne.symm nhg
      go_wp2_with fail
      obtain ⟨w9, hw9, hl, hp⟩ := HD4.out.laid
      rw [← hw9]
      have r0 := hl.z.is 0 rfl
      have r1 := hl.z.is 1 rfl
      have r2 := hl.z.is 2 rfl
      have r3 := hl.z.is 3 rfl
      have r4 := hl.z.is 4 rfl
      have r5 := hl.z.is 5 rfl
      have r6 := hl.z.is 6 rfl
      refine bodyPost_ret (v := .agg #[.string f0, .int .u16 k, .int .u16 c, .int .u32 t, (.slice A4 n4 c4), (.slice A5 n5 c5), (.slice none 0 0)]) (by simp [results, Try.results70, go_sem, r0, r1, r2, r3, r4, r5, r6]) rfl ?_
      exact Ends6.err (P := PartP6 w f0 k c t) hl.o hp hl.st HG.out.1 HG.out.2
  · have d6 : (k != 6) = true := by rw [bne_iff_ne]; exact k6
    have d7 : (k == 6) = false := beq_eq_false_iff_ne.mpr k6
    have K6 := Lib.hid k6
    clear k6
    go_wp2_with fail
    refine (numbers6_any (count := m) (z := 2) HD.out.st HS.out.1 (fun _ => ⟨HA.out.1, HA.out.2.2⟩) HS.out.2.1 HS.out.2.2 HNM.out.2.2.2.2 (.inl rfl)).mono ?_
    rintro r w2 ⟨ho, x1, v, a1, e1, rfl, hp, hs, hm⟩
    rw [after6_ok] at hm
    obtain ⟨A5, n5, c5, rfl⟩ := R_anyslice hp
    have HM1 := Aside0.mk (show Met6 (numsR s 2 en m [] a) x1 a1 e1 from hm)
    have HI := Aside0.mk (nums6_at HM1.out ⟨HA.out.1, HA.out.2.2⟩)
    have HD2 := Aside0.mk ((HD.out.go ho hs).putN (Nat.le_trans HD.out.o.size (Nat.le_refl _)) hp)
    have HD1 := Aside0.mk (HD.out.go ho hs)
    clear l0 l1 l2 l3 l4 l5 l6 f4 f5 f6 z0 z1 z2 k1 k2
    clear ho hp hs hm HD
    have l0 := HD1.out.l0
    have l1 := HD1.out.l1
    have l2 := HD1.out.l2
    have l3 := HD1.out.l3
    have l4 := HD1.out.l4
    have l5 := HD1.out.l5
    have l6 := HD1.out.l6
    have f4 := HD1.out.x.frozen 4
    have f5 := HD1.out.x.frozen 5
    have f6 := HD1.out.x.frozen 6
    have z0 := HD1.out.st.c0
    have z1 := HD1.out.st.c1
    have z2 := HD1.out.st.c2
    have k1 : w2.frozen? ⟨g, 1, none⟩ = false := blk_frozen HD1.out.st 1
    have k2 : w2.frozen? ⟨g, 2, none⟩ = false := blk_frozen HD1.out.st 2
    go_wp2_with fail
    generalize hW : w2.setCell ⟨h, 5, none⟩ (.slice A5 n5 c5) = w3 at *
    clear l0 l1 l2 l3 l4 l5 l6 f4 f5 f6 z0 z1 z2 k1 k2
    clear HD1 hW
    have l0 := HD2.out.l0
    have l1 := HD2.out.l1
    have l2 := HD2.out.l2
    have l3 := HD2.out.l3
    have l4 := HD2.out.l4
    have l5 := HD2.out.l5
    have l6 := HD2.out.l6
    have f4 := HD2.out.x.frozen 4
    have f5 := HD2.out.x.frozen 5
    have f6 := HD2.out.x.frozen 6
    have z0 := HD2.out.st.c0
    have z1 := HD2.out.st.c1
    have z2 := HD2.out.st.c2
    have k1 : w3.frozen? ⟨g, 1, none⟩ = false := blk_frozen HD2.out.st 1
    have k2 : w3.frozen? ⟨g, 2, none⟩ = false := blk_frozen HD2.out.st 2
    go_wp2_with fail
    refine (names6_any (count := n) HD2.out.st HS.out.1 HI.out HS.out.2.1 HS.out.2.2 HNM.out.2.2.2.1).mono ?_
    rintro r w4 ⟨ho, x2, v, a', e, rfl, hp, hs, hm⟩
    obtain ⟨A4, n4, c4, rfl⟩ := R_anyslice hp
    have hI := names6_at hm HI.out
    have hF := data6_two K6.out (by rw [HNM.out.2.1]; exact HM1.out) (by rw [HNM.out.1]; exact hm)
    rw [HRR.out] at hF
    have HF := Aside0.mk hF
    have HM2 := Aside0.mk hm
    have HI2 := Aside0.mk hI
    have HD4 := Aside0.mk ((HD2.out.go ho hs).putL (Nat.le_trans HD2.out.o.size (Nat.le_refl _)) hp)
    have HD3 := Aside0.mk (HD2.out.go ho hs)
    clear l0 l1 l2 l3 l4 l5 l6 f4 f5 f6 z0 z1 z2 k1 k2
    clear hF hp hs hm ho hI HD2 HI
    have l0 := HD3.out.l0
    have l1 := HD3.out.l1
    have l2 := HD3.out.l2
    have l3 := HD3.out.l3
    have l4 := HD3.out.l4
    have l5 := HD3.out.l5
    have l6 := HD3.out.l6
    have f4 := HD3.out.x.frozen 4
    have f5 := HD3.out.x.frozen 5
    have f6 := HD3.out.x.frozen 6
    have z0 := HD3.out.st.c0
    have z1 := HD3.out.st.c1
    have z2 := HD3.out.st.c2
    have k1 : w4.frozen? ⟨g, 1, none⟩ = false := blk_frozen HD3.out.st 1
    have k2 : w4.frozen? ⟨g, 2, none⟩ = false := blk_frozen HD3.out.st 2
    go_wp2_with fail
    generalize hW : w4.setCell ⟨h, 4, none⟩ (.slice A4 n4 c4) = w5 at *
    clear l0 l1 l2 l3 l4 l5 l6 f4 f5 f6 z0 z1 z2 k1 k2
    clear HD3 hW
    by_cases k0 : n + m = 0
    · obtain ⟨rfl, rfl⟩ : n = 0 ∧ m = 0 := ⟨by omega, by omega⟩
      obtain ⟨rfl, rfl, rfl⟩ : x1 = [] ∧ a1 = a ∧ e1 = 0 := by
        rcases HM1.out with ⟨h1, h2⟩ | ⟨h1, -⟩
        · have := Except.ok.inj h1
          exact ⟨(Prod.mk.inj this).1.symm, (Prod.mk.inj this).2.symm, h2⟩
        · exact absurd h1 (by simp [numsR])
      obtain ⟨rfl, rfl, rfl⟩ : x2 = [] ∧ a' = a1 ∧ e = 0 := by
        rcases HM2.out with ⟨h1, h2⟩ | ⟨h1, -⟩
        · rw [after6_ok] at h1
          have := Except.ok.inj h1
          exact ⟨(Prod.mk.inj this).1.symm, (Prod.mk.inj this).2.symm, h2⟩
        · exact absurd h1 (by simp [namesR, after6])
      obtain rfl : tx = 1 := HNM.out.2.2.1
      have hF := (HF.out.resolve_right (fun h => h.1 rfl)).2
      have e0 : ((0 : Int) == 0) = true := rfl
      clear HF HM1 HM2 HI2
      by_cases k16 : k = 16
      · rw [dataT_txt k16] at hF
        have d8 : (k == 16) = true := beq_iff_eq.mpr k16
        have d9 : (k != 16) = false := by rw [bne_eq_false_iff_eq]; exact k16
        obtain ⟨RT, hRT⟩ : ∃ RT, textsR s en ((en - a').toNat + 1) [] a' = RT := ⟨_, rfl⟩
        rw [hRT] at hF
        have HF := Lib.hid hF
        have HL := Aside0.mk hRT
        clear hF hRT k16
        go_loopg [10] ((en - a').toNat + 1) (fun kq v10 w' => ∃ (txt : List ByteArray) (p : Int) (v6 : Value), Aside0 (textsR s en kq txt p = RT) ∧ Aside0 ((en - p).toNat < kq) ∧ Aside0 (0 ≤ p ∧ p ≤ en ∧ p ≤ s.size) ∧ Aside0 ((txt.length : Int) ≤ p) ∧ Aside0 (D6 w w' g h q w4.heap.size s f0 k c t p 0 (.slice A4 n4 c4) (.slice A5 n5 c5) v6 [] [] txt))
        case atStart => exact ⟨[], a', (.slice none 0 0), HL, ⟨Nat.lt_succ_self _⟩, ⟨HA.out⟩, ⟨by have := HA.out; simp; omega⟩, HD4⟩
        case round =>
          clear HL HD4 HA
          obtain ⟨txt, p, v6, HL, HK2, HA, HTl, HD4⟩ := hrel
          obtain ⟨gk, rfl⟩ : ∃ q, gk = q + 1 := ⟨gk - 1, by have := HK2.out; omega⟩
          have hl := HL.out
          unfold textsR at hl
          clear HL
          obtain ⟨A6, n6, c6, rfl⟩ := R_anyslice HD4.out.r6
          have q9 : p ≤ 1000000 := by have := HA.out; have := HS.out.1; omega
          have q8 : 0 ≤ p := HA.out.1
          have e0 : ((0 : Int) == 0) = true := rfl
          have l0 := HD4.out.l0
          have l1 := HD4.out.l1
          have l2 := HD4.out.l2
          have l3 := HD4.out.l3
          have l4 := HD4.out.l4
          have l5 := HD4.out.l5
          have l6 := HD4.out.l6
          have f4 := HD4.out.x.frozen 4
          have f5 := HD4.out.x.frozen 5
          have f6 := HD4.out.x.frozen 6
          have z0 := HD4.out.st.c0
          have z1 := HD4.out.st.c1
          have z2 := HD4.out.st.c2
          have k1 : wr.frozen? ⟨g, 1, none⟩ = false := blk_frozen HD4.out.st 1
          have k2 : wr.frozen? ⟨g, 2, none⟩ = false := blk_frozen HD4.out.st 2
          by_cases c1 : p < en
          · rw [if_pos c1] at hl
            have d1 : decide (p < en) = true := decide_eq_true c1
            obtain ⟨m1, h1⟩ : ∃ m1, getF s p 1 = some m1 := Option.ne_none_iff_exists'.1 (getF_in q8 (by have := HS.out.2.1; omega))
            rw [h1] at hl
            simp only [] at hl
            have H1 := Lib.hid h1
            obtain ⟨m10, m11, m12, m13⟩ := get1 h1
            clear h1
            go_wp2_with fail
            refine (num6_yes HD4.out.st HS.out.1 H1.out (by omega) m10).mono ?_
            rintro r w6 ⟨rfl, hs, ho⟩
            have HD5 := Aside0.mk (HD4.out.go ho hs)
            clear l0 l1 l2 l3 l4 l5 l6 f4 f5 f6 z0 z1 z2 k1 k2
            clear hs ho HD4
            have l0 := HD5.out.l0
            have l1 := HD5.out.l1
            have l2 := HD5.out.l2
            have l3 := HD5.out.l3
            have l4 := HD5.out.l4
            have l5 := HD5.out.l5
            have l6 := HD5.out.l6
            have f4 := HD5.out.x.frozen 4
            have f5 := HD5.out.x.frozen 5
            have f6 := HD5.out.x.frozen 6
            have z0 := HD5.out.st.c0
            have z1 := HD5.out.st.c1
            have z2 := HD5.out.st.c2
            have k1 : w6.frozen? ⟨g, 1, none⟩ = false := blk_frozen HD5.out.st 1
            have k2 : w6.frozen? ⟨g, 2, none⟩ = false := blk_frozen HD5.out.st 2
            by_cases c2 : en - (p + 1) < m1
            · rw [if_pos c2] at hl
              have d2 : decide (en - (p + 1) < m1) = true := decide_eq_true c2
              have hF := HF.out
              rw [← hl] at hF
              have HG := Lib.hid hF
              have HD6 := Aside0.mk (HD5.out.sete 50)
              clear hF hl c1 c2
              have y0 := HD5.out.y0
              have y1 := HD5.out.y1
              have y2 := HD5.out.y2
              have y3 := HD5.out.y3
              have y4 := HD5.out.y4
              have y5 := HD5.out.y5
              have y6 := HD5.out.y6
              have g0 := HD5.out.z.frozen 0
              have g1 := HD5.out.z.frozen 1
              have g2 := HD5.out.z.frozen 2
              have g3 := HD5.out.z.frozen 3
              have g4 := HD5.out.z.frozen 4
              have g5 := HD5.out.z.frozen 5
              have g6 := HD5.out.z.frozen 6
              have nhq := HD5.out.ne
              have nqh := Ne.symm nhq
              have ngq := HD5.out.z.ne6 HD5.out.st (by decide)
              have nqg := Ne.symm ngq
              have nhg := HD5.out.x.ne6 HD5.out.st (by decide)
              have ngh := Ne.symm nhg
              go_wp2_with fail
              obtain ⟨w9, hw9, hl, hp⟩ := HD6.out.laid
              rw [← hw9]
              have r0 := hl.z.is 0 rfl
              have r1 := hl.z.is 1 rfl
              have r2 := hl.z.is 2 rfl
              have r3 := hl.z.is 3 rfl
              have r4 := hl.z.is 4 rfl
              have r5 := hl.z.is 5 rfl
              have r6 := hl.z.is 6 rfl
              refine bodyPost_ret (v := .agg #[.string f0, .int .u16 k, .int .u16 c, .int .u32 t, (.slice A4 n4 c4), (.slice A5 n5 c5), (.slice A6 n6 c6)]) (by simp [results, Try.results70, go_sem, r0, r1, r2, r3, r4, r5, r6]) rfl ?_
              exact Ends6.err (P := PartP6 w f0 k c t) hl.o hp hl.st HG.out (by decide)
            · rw [if_neg c2] at hl
              have d2 : decide (en - (p + 1) < m1) = false := decide_eq_false c2
              have b1 : p + 1 + m1 ≤ s.size := by have := HS.out.2.1; omega
              rw [partF_in (by omega) m10 b1] at hl
              simp only [] at hl
              obtain ⟨tt, htt⟩ : ∃ tt, s.extract (p + 1).toNat (p + 1 + m1).toNat = tt := ⟨_, rfl⟩
              rw [htt] at hl
              have HL := Aside0.mk hl
              have hw1 : IntKind.i64.wrap (p + 1 + m1) = p + 1 + m1 := by rw [IntKind.wrap_i64]; have := HS.out.1; omega
              have b2 : p + 1 ≤ p + 1 + m1 := by omega
              have b3 : 0 ≤ p + 1 := by omega
              have b4 : 0 ≤ p + 1 + m1 := by omega
              have b5 : p + 1 + m1 ≤ 1000000 := by have := HS.out.1; omega
              have b6 : p + 1 + m1 ≤ en := by omega
              have HL1 := Lib.hid (show (txt.length + 1) * 16 ≤ 140737488355328 by have := HTl.out; omega)
              clear hl c2
              go_wp2_with fail
              refine dr_start (fun w' => w'.cell? ⟨h, 6, none⟩ = some (.slice A6 n6 c6) ∧ w'.cell? ⟨g, 0, none⟩ = some (.string s) ∧ w'.cell? ⟨g, 1, none⟩ = some (.int .i64 (p + 1))) [20] (by kernel_rfl) ⟨l6, z0, z1⟩ (fun hS => ?_)
              repeat (first | (refine dr_pure (by kernel_rfl) (by rfl) (fun _ _ _ h => h) (v := ?_) (a' := ?_) ?_ ?_ ?_; rotate_left 2; (focus (intro w'; go_simp; with_reducible rfl)); (focus (simp only [Act.put, List.setIfInBounds_toArray, List.set_cons_zero, List.set_cons_succ]; rfl))) | (refine dr_take (by kernel_rfl) (by rfl) (fun _ _ _ h => h) hS (v := ?_) (a' := ?_) ?_ ?_ ?_; rotate_left 2; (focus (intro w' hS'; go_simp; with_reducible rfl)); (focus (simp only [Act.put, List.setIfInBounds_toArray, List.set_cons_zero, List.set_cons_succ]; rfl))) | (refine dr_off (by kernel_rfl) (by rfl) (fun _ _ _ h => h) (a' := ?_) ?_ ?_; rotate_left; (focus (simp only [Act.put, List.setIfInBounds_toArray, List.set_cons_zero, List.set_cons_succ]; rfl))))
              have hb1 := below_alloc (Below.refl w6.drew.heap.size w6.drew) (.cells #[.string tt] 9 (0, 0))
              refine dr_val (.slice (some ⟨w6.drew.heap.size, 0, none⟩) 1 1) (w6.drew.alloc (.cells #[.string tt] 9)) (by kernel_rfl) (by kernel_rfl) (by rfl) (by go_simp; done) ⟨(SAt.below (w := w6.drew) HD5.out.x hb1).is 6 rfl, (St.below (w := w6.drew) HD5.out.st hb1).c0, (St.below (w := w6.drew) HD5.out.st hb1).c1⟩ (by simp only [Act.put, List.setIfInBounds_toArray, List.set_cons_zero, List.set_cons_succ]; rfl) (fun hS => ?_)
              refine dr_one (by kernel_rfl) (by kernel_rfl) (fun K hK => ?_)
              refine Kd.R_append_step Kd.string (w0 := w6.drew) w4.heap.size (by kernel_rfl) (.tmp 74) (.tmp 90) 40 9 (.string ⟨#[]⟩) 16 (by rfl) Try.underlying40 infoS rfl (by decide) (by decide) (.slice A6 n6 c6) txt tt [.string tt] (fun _ => True) (fun _ => False) (by rfl) (by rfl) rfl (fun _ hk => hk.elim) (fun _ _ => trivial) (Kd.R_drew HD5.out.r6) (Below.refl _ _) HD5.out.b7 HL1.out ?_
              intro v7 w7 ho3 hb3 hg3 _
              obtain ⟨A7, n7, c7, rfl⟩ := R_anyslice ho3
              have HD6 := Aside0.mk (HD5.out.drew.app ho3 hg3)
              have hst : St w7 g s (p + 1) 0 := blk_grown (w := w6.drew) HD5.out.st hg3 (Kd.R_ne (Kd.R_drew HD5.out.r6) (w := w6.drew) HD5.out.st (by decide))
              have hx : SAt w7 h _ _ := blk_grown (w := w6.drew) HD5.out.x hg3 (Kd.R_ne (Kd.R_drew HD5.out.r6) (w := w6.drew) HD5.out.x (by decide))
              have m6 : w7.cell? ⟨h, 6, none⟩ = some (.slice A6 n6 c6) := hx.is 6 rfl
              have f6' := hx.frozen 6
              refine hK.out _ _ ⟨m6, hst.c0, hst.c1⟩ (fun hS => ?_)
              clear hK K
              refine dr_norm (a' := ?_) ?_ ?_
              rotate_left
              · simp only [Act.put, List.setIfInBounds_toArray, List.set_cons_zero, List.set_cons_succ]; rfl
              repeat (first | (refine dr_pure (by kernel_rfl) (by rfl) (fun _ _ _ h => h) (v := ?_) (a' := ?_) ?_ ?_ ?_; rotate_left 2; (focus (intro w'; go_simp; with_reducible rfl)); (focus (simp only [Act.put, List.setIfInBounds_toArray, List.set_cons_zero, List.set_cons_succ]; rfl))) | (refine dr_take (by kernel_rfl) (by rfl) (fun _ _ _ h => h) hS (v := ?_) (a' := ?_) ?_ ?_ ?_; rotate_left 2; (focus (intro w' hS'; go_simp; with_reducible rfl)); (focus (simp only [Act.put, List.setIfInBounds_toArray, List.set_cons_zero, List.set_cons_succ]; rfl))) | (refine dr_off (by kernel_rfl) (by rfl) (fun _ _ _ h => h) (a' := ?_) ?_ ?_; rotate_left; (focus (simp only [Act.put, List.setIfInBounds_toArray, List.set_cons_zero, List.set_cons_succ]; rfl))))
              refine dr_store (w7.setCell ⟨h, 6, none⟩ (.slice A7 n7 c7)) (by kernel_rfl) (by kernel_rfl) (by rfl) rfl ⟨by go_simp; done⟩ ?_
              refine dr_done (by kernel_rfl) ?_
              generalize hW : w7.setCell ⟨h, 6, none⟩ (.slice A7 n7 c7) = w8 at *
              clear l0 l1 l2 l3 l4 l5 l6 f4 f5 f6 z0 z1 z2 k1 k2
              clear HD5 m6 f6' hx hst hS ho3 hb3 hg3 hW hb1
              have l0 := HD6.out.l0
              have l1 := HD6.out.l1
              have l2 := HD6.out.l2
              have l3 := HD6.out.l3
              have l4 := HD6.out.l4
              have l5 := HD6.out.l5
              have l6 := HD6.out.l6
              have f4 := HD6.out.x.frozen 4
              have f5 := HD6.out.x.frozen 5
              have f6 := HD6.out.x.frozen 6
              have z0 := HD6.out.st.c0
              have z1 := HD6.out.st.c1
              have z2 := HD6.out.st.c2
              have k1 : w8.frozen? ⟨g, 1, none⟩ = false := blk_frozen HD6.out.st 1
              have k2 : w8.frozen? ⟨g, 2, none⟩ = false := blk_frozen HD6.out.st 2
              have HD7 := Aside0.mk (HD6.out.seta (p + 1 + m1))
              go_wp2_with fail
              go_roundg gk
              case measure => omega
              case rel => exact ⟨_, p + 1 + m1, _, HL, ⟨by have := HK2.out; omega⟩, ⟨by omega⟩, ⟨by have := HTl.out; rw [List.length_append, List.length_singleton]; omega⟩, HD7⟩
          · rw [if_neg c1] at hl
            have d1 : decide (p < en) = false := decide_eq_false c1
            have hF := HF.out
            rw [← hl] at hF
            simp only [dataE_eq] at hF
            have c3 : p = en := by have := HA.out; omega
            rw [if_pos c3] at hF
            have d3 : (p != en) = false := by rw [bne_eq_false_iff_eq]; exact c3
            have HG := Lib.hid hF
            clear hF hl c1 c3
            have y0 := HD4.out.y0
            have y1 := HD4.out.y1
            have y2 := HD4.out.y2
            have y3 := HD4.out.y3
            have y4 := HD4.out.y4
            have y5 := HD4.out.y5
            have y6 := HD4.out.y6
            have g0 := HD4.out.z.frozen 0
            have g1 := HD4.out.z.frozen 1
            have g2 := HD4.out.z.frozen 2
            have g3 := HD4.out.z.frozen 3
            have g4 := HD4.out.z.frozen 4
            have g5 := HD4.out.z.frozen 5
            have g6 := HD4.out.z.frozen 6
            have nhq := HD4.out.ne
            have nqh := Ne.symm nhq
            have ngq := HD4.out.z.ne6 HD4.out.st (by decide)
            have nqg := Ne.symm ngq
            have nhg := HD4.out.x.ne6 HD4.out.st (by decide)
            have ngh := Ne.symm nhg
            go_wp2_with fail
            obtain ⟨w9, hw9, hl, hp⟩ := HD4.out.laid
            rw [← hw9]
            have r0 := hl.z.is 0 rfl
            have r1 := hl.z.is 1 rfl
            have r2 := hl.z.is 2 rfl
            have r3 := hl.z.is 3 rfl
            have r4 := hl.z.is 4 rfl
            have r5 := hl.z.is 5 rfl
            have r6 := hl.z.is 6 rfl
            refine bodyPost_ret (v := .agg #[.string f0, .int .u16 k, .int .u16 c, .int .u32 t, (.slice A4 n4 c4), (.slice A5 n5 c5), (.slice A6 n6 c6)]) (by simp [results, Try.results70, go_sem, r0, r1, r2, r3, r4, r5, r6]) rfl ?_
            exact Ends6.ok (P := PartP6 w f0 k c t) hl.o hp hl.st HG.out
      · rw [dataT_free k16 (by rw [HNM.out.1, HNM.out.2.1]), partF_in (by have := HA.out; omega) (by have := HA.out; omega) (by have := HS.out; omega)] at hF
        have d8 : (k == 16) = false := beq_eq_false_iff_ne.mpr k16
        have d9 : (k != 16) = true := by rw [bne_iff_ne]; exact k16
        obtain ⟨tt, htt⟩ : ∃ tt, s.extract a'.toNat (a' + (en - a')).toNat = tt := ⟨_, rfl⟩
        rw [htt] at hF
        simp only [] at hF
        rw [dataE_eq, if_pos rfl] at hF
        have HF := Lib.hid hF
        rw [show a' + (en - a') = en by omega] at htt
        have q1 : a' ≤ en := HA.out.2.1
        have q2 : 0 ≤ a' := HA.out.1
        have q3 : en ≤ (s.size : Int) := HS.out.2.1
        clear hF k16
        have l0 := HD4.out.l0
        have l1 := HD4.out.l1
        have l2 := HD4.out.l2
        have l3 := HD4.out.l3
        have l4 := HD4.out.l4
        have l5 := HD4.out.l5
        have l6 := HD4.out.l6
        have f4 := HD4.out.x.frozen 4
        have f5 := HD4.out.x.frozen 5
        have f6 := HD4.out.x.frozen 6
        have z0 := HD4.out.st.c0
        have z1 := HD4.out.st.c1
        have z2 := HD4.out.st.c2
        have k1 : w5.frozen? ⟨g, 1, none⟩ = false := blk_frozen HD4.out.st 1
        have k2 : w5.frozen? ⟨g, 2, none⟩ = false := blk_frozen HD4.out.st 2
        refine wp_loop_once ?_
        go_wp2_with fail
        refine dr_start (fun w' => w'.cell? ⟨g, 0, none⟩ = some (.string s) ∧ w'.cell? ⟨g, 1, none⟩ = some (.int .i64 a')) [12] (by kernel_rfl) ⟨z0, z1⟩ (fun hS => ?_)
        repeat (first | (refine dr_pure (by kernel_rfl) (by rfl) (fun _ _ _ h => h) (v := ?_) (a' := ?_) ?_ ?_ ?_; rotate_left 2; (focus (intro w'; go_simp; with_reducible rfl)); (focus (simp only [Act.put, List.setIfInBounds_toArray, List.set_cons_zero, List.set_cons_succ]; rfl))) | (refine dr_take (by kernel_rfl) (by rfl) (fun _ _ _ h => h) hS (v := ?_) (a' := ?_) ?_ ?_ ?_; rotate_left 2; (focus (intro w' hS'; go_simp; with_reducible rfl)); (focus (simp only [Act.put, List.setIfInBounds_toArray, List.set_cons_zero, List.set_cons_succ]; rfl))) | (refine dr_off (by kernel_rfl) (by rfl) (fun _ _ _ h => h) (a' := ?_) ?_ ?_; rotate_left; (focus (simp only [Act.put, List.setIfInBounds_toArray, List.set_cons_zero, List.set_cons_succ]; rfl))))
        refine dr_one (by kernel_rfl) (by kernel_rfl) (fun K hK => ?_)
        refine Kd.R_lit_step Kd.string (w0 := w5.drew) w4.heap.size 9 (by kernel_rfl) (N := 126) rfl (xs := [tt]) (inner := [.string tt]) (ok := fun _ => True) (okp := fun _ => False) (by go_simp; done) (Reps.snoc (Reps.none _ _) rfl rfl) (fun _ hk => hk.elim) trivial (Below.refl _ _) HD4.out.b7 (by simp) ?_
        intro v6 w6 ho3 hb3 hg3 _
        obtain ⟨A6, n6, c6, rfl⟩ := R_anyslice ho3
        have HD5 := Aside0.mk ((HD4.out.drew).lit ho3 hg3)
        have hst : St w6 g s a' 0 := blk_grown (w := w5.drew) HD4.out.st hg3 (by simp)
        have hx : SAt w6 h _ _ := blk_grown (w := w5.drew) HD4.out.x hg3 (by simp)
        refine hK.out _ _ ⟨hst.c0, hst.c1⟩ (fun hS => ?_)
        clear hK K
        refine dr_norm (a' := ?_) ?_ ?_
        rotate_left
        · simp only [Act.put, List.setIfInBounds_toArray, List.set_cons_zero, List.set_cons_succ]; rfl
        repeat (first | (refine dr_pure (by kernel_rfl) (by rfl) (fun _ _ _ h => h) (v := ?_) (a' := ?_) ?_ ?_ ?_; rotate_left 2; (focus (intro w'; go_simp; with_reducible rfl)); (focus (simp only [Act.put, List.setIfInBounds_toArray, List.set_cons_zero, List.set_cons_succ]; rfl))) | (refine dr_take (by kernel_rfl) (by rfl) (fun _ _ _ h => h) hS (v := ?_) (a' := ?_) ?_ ?_ ?_; rotate_left 2; (focus (intro w' hS'; go_simp; with_reducible rfl)); (focus (simp only [Act.put, List.setIfInBounds_toArray, List.set_cons_zero, List.set_cons_succ]; rfl))) | (refine dr_off (by kernel_rfl) (by rfl) (fun _ _ _ h => h) (a' := ?_) ?_ ?_; rotate_left; (focus (simp only [Act.put, List.setIfInBounds_toArray, List.set_cons_zero, List.set_cons_succ]; rfl))))
        have m6 : w6.cell? ⟨h, 6, none⟩ = some (.slice none 0 0) := hx.is 6 rfl
        have f6' := hx.frozen 6
        refine dr_store (w6.setCell ⟨h, 6, none⟩ (.slice A6 n6 c6)) (by kernel_rfl) (by kernel_rfl) (by rfl) rfl ⟨by go_simp; done⟩ ?_
        refine dr_done (by kernel_rfl) ?_
        generalize hW : w6.setCell ⟨h, 6, none⟩ (.slice A6 n6 c6) = w7 at *
        clear l0 l1 l2 l3 l4 l5 l6 f4 f5 f6 z0 z1 z2 k1 k2
        clear HD4 m6 f6' hx hst hS ho3 hb3 hg3 hW
        have l0 := HD5.out.l0
        have l1 := HD5.out.l1
        have l2 := HD5.out.l2
        have l3 := HD5.out.l3
        have l4 := HD5.out.l4
        have l5 := HD5.out.l5
        have l6 := HD5.out.l6
        have f4 := HD5.out.x.frozen 4
        have f5 := HD5.out.x.frozen 5
        have f6 := HD5.out.x.frozen 6
        have z0 := HD5.out.st.c0
        have z1 := HD5.out.st.c1
        have z2 := HD5.out.st.c2
        have k1 : w7.frozen? ⟨g, 1, none⟩ = false := blk_frozen HD5.out.st 1
        have k2 : w7.frozen? ⟨g, 2, none⟩ = false := blk_frozen HD5.out.st 2
        have d1 : (en != en) = false := by rw [bne_eq_false_iff_eq]
        have HD6 := Aside0.mk (HD5.out.seta en)
        have y0 := HD5.out.y0
        have y1 := HD5.out.y1
        have y2 := HD5.out.y2
        have y3 := HD5.out.y3
        have y4 := HD5.out.y4
        have y5 := HD5.out.y5
        have y6 := HD5.out.y6
        have g0 := HD5.out.z.frozen 0
        have g1 := HD5.out.z.frozen 1
        have g2 := HD5.out.z.frozen 2
        have g3 := HD5.out.z.frozen 3
        have g4 := HD5.out.z.frozen 4
        have g5 := HD5.out.z.frozen 5
        have g6 := HD5.out.z.frozen 6
        have nhq := HD5.out.ne
        have nqh := Ne.symm nhq
        have ngq := HD5.out.z.ne6 HD5.out.st (by decide)
        have nqg := Ne.symm ngq
        have nhg := HD5.out.x.ne6 HD5.out.st (by decide)
        have ngh := Ne.symm nhg
        go_wp2_with fail
        obtain ⟨w9, hw9, hl, hp⟩ := HD6.out.laid
        rw [← hw9]
        have r0 := hl.z.is 0 rfl
        have r1 := hl.z.is 1 rfl
        have r2 := hl.z.is 2 rfl
        have r3 := hl.z.is 3 rfl
        have r4 := hl.z.is 4 rfl
        have r5 := hl.z.is 5 rfl
        have r6 := hl.z.is 6 rfl
        refine bodyPost_ret (v := .agg #[.string f0, .int .u16 k, .int .u16 c, .int .u32 t, (.slice A4 n4 c4), (.slice A5 n5 c5), (.slice A6 n6 c6)]) (by simp [results, Try.results70, go_sem, r0, r1, r2, r3, r4, r5, r6]) rfl ?_
        exact Ends6.ok (P := PartP6 w f0 k c t) hl.o hp hl.st HF.out
    · have hF := HF.out
      by_cases k16 : k = 16
      · exact absurd (show n + m = 0 by have := HNM.out; rw [k16] at this; rw [← this.1, ← this.2.1]; rfl) k0
      rw [dataT_none k16 (by rw [HNM.out.1, HNM.out.2.1]; exact k0)] at hF
      have HF := Aside0.mk (show (e = 0 ∧ dataE en x2 x1 ([], a') = R) ∨ (e ≠ 0 ∧ R = .error e) from hF.imp (fun h => ⟨h.1, h.2.symm⟩) id)
      obtain rfl : tx = 0 := by have := HNM.out.2.2.1; rw [if_neg k0] at this; exact this
      have d8 : (k == 16) = false := beq_eq_false_iff_ne.mpr k16
      have d9 : (k != 16) = true := by rw [bne_iff_ne]; exact k16
      clear hF k16 k0
      have l0 := HD4.out.l0
      have l1 := HD4.out.l1
      have l2 := HD4.out.l2
      have l3 := HD4.out.l3
      have l4 := HD4.out.l4
      have l5 := HD4.out.l5
      have l6 := HD4.out.l6
      have f4 := HD4.out.x.frozen 4
      have f5 := HD4.out.x.frozen 5
      have f6 := HD4.out.x.frozen 6
      have z0 := HD4.out.st.c0
      have z1 := HD4.out.st.c1
      have z2 := HD4.out.st.c2
      have k1 : w5.frozen? ⟨g, 1, none⟩ = false := blk_frozen HD4.out.st 1
      have k2 : w5.frozen? ⟨g, 2, none⟩ = false := blk_frozen HD4.out.st 2
      by_cases c0 : e = 0
      · have hF := (HF.out.resolve_right (fun h => h.1 c0)).2
        subst c0
        have e1 : ((0 : Int) == 0) = true := rfl
        rw [dataE_eq] at hF
        by_cases c1 : a' = en
        · rw [if_pos c1] at hF
          have HG := Lib.hid hF
          have d1 : (a' != en) = false := by rw [bne_eq_false_iff_eq]; exact c1
          clear c1 hF
          refine wp_loop_once ?_
          have y0 := HD4.out.y0
          have y1 := HD4.out.y1
          have y2 := HD4.out.y2
          have y3 := HD4.out.y3
          have y4 := HD4.out.y4
          have y5 := HD4.out.y5
          have y6 := HD4.out.y6
          have g0 := HD4.out.z.frozen 0
          have g1 := HD4.out.z.frozen 1
          have g2 := HD4.out.z.frozen 2
          have g3 := HD4.out.z.frozen 3
          have g4 := HD4.out.z.frozen 4
          have g5 := HD4.out.z.frozen 5
          have g6 := HD4.out.z.frozen 6
          have nhq := HD4.out.ne
          have nqh := Ne.symm nhq
          have ngq := HD4.out.z.ne6 HD4.out.st (by decide)
          have nqg := Ne.symm ngq
          have nhg := HD4.out.x.ne6 HD4.out.st (by decide)
          have ngh := Ne.symm nhg
          go_wp2_with fail
          obtain ⟨w9, hw9, hl, hp⟩ := HD4.out.laid
          rw [← hw9]
          have r0 := hl.z.is 0 rfl
          have r1 := hl.z.is 1 rfl
          have r2 := hl.z.is 2 rfl
          have r3 := hl.z.is 3 rfl
          have r4 := hl.z.is 4 rfl
          have r5 := hl.z.is 5 rfl
          have r6 := hl.z.is 6 rfl
          refine bodyPost_ret (v := .agg #[.string f0, .int .u16 k, .int .u16 c, .int .u32 t, (.slice A4 n4 c4), (.slice A5 n5 c5), (.slice none 0 0)]) (by simp [results, Try.results70, go_sem, r0, r1, r2, r3, r4, r5, r6]) rfl ?_
          exact Ends6.ok (P := PartP6 w f0 k c t) hl.o hp hl.st HG.out.symm
        · rw [if_neg c1] at hF
          have HG := Lib.hid hF
          have d1 : (a' != en) = true := by rw [bne_iff_ne]; exact c1
          have HD2 := Aside0.mk (HD4.out.sete 50)
          clear c1 hF
          refine wp_loop_once ?_
          have y0 := HD4.out.y0
          have y1 := HD4.out.y1
          have y2 := HD4.out.y2
          have y3 := HD4.out.y3
          have y4 := HD4.out.y4
          have y5 := HD4.out.y5
          have y6 := HD4.out.y6
          have g0 := HD4.out.z.frozen 0
          have g1 := HD4.out.z.frozen 1
          have g2 := HD4.out.z.frozen 2
          have g3 := HD4.out.z.frozen 3
          have g4 := HD4.out.z.frozen 4
          have g5 := HD4.out.z.frozen 5
          have g6 := HD4.out.z.frozen 6
          have nhq := HD4.out.ne
          have nqh := Ne.symm nhq
          have ngq := HD4.out.z.ne6 HD4.out.st (by decide)
          have nqg := Ne.symm ngq
          have nhg := HD4.out.x.ne6 HD4.out.st (by decide)
          have ngh := Ne.symm nhg
          go_wp2_with fail
          obtain ⟨w9, hw9, hl, hp⟩ := HD2.out.laid
          rw [← hw9]
          have r0 := hl.z.is 0 rfl
          have r1 := hl.z.is 1 rfl
          have r2 := hl.z.is 2 rfl
          have r3 := hl.z.is 3 rfl
          have r4 := hl.z.is 4 rfl
          have r5 := hl.z.is 5 rfl
          have r6 := hl.z.is 6 rfl
          refine bodyPost_ret (v := .agg #[.string f0, .int .u16 k, .int .u16 c, .int .u32 t, (.slice A4 n4 c4), (.slice A5 n5 c5), (.slice none 0 0)]) (by simp [results, Try.results70, go_sem, r0, r1, r2, r3, r4, r5, r6]) rfl ?_
          exact Ends6.err (P := PartP6 w f0 k c t) hl.o hp hl.st HG.out.symm (by decide)
      · have hF := (HF.out.resolve_left (fun h => c0 h.1)).2
        have e1 : (e == 0) = false := beq_eq_false_iff_ne.mpr c0
        have HG := Lib.hid (And.intro hF c0)
        clear c0 hF
        refine wp_loop_once ?_
        have y0 := HD4.out.y0
        have y1 := HD4.out.y1
        have y2 := HD4.out.y2
        have y3 := HD4.out.y3
        have y4 := HD4.out.y4
        have y5 := HD4.out.y5
        have y6 := HD4.out.y6
        have g0 := HD4.out.z.frozen 0
        have g1 := HD4.out.z.frozen 1
        have g2 := HD4.out.z.frozen 2
        have g3 := HD4.out.z.frozen 3
        have g4 := HD4.out.z.frozen 4
        have g5 := HD4.out.z.frozen 5
        have g6 := HD4.out.z.frozen 6
        have nhq := HD4.out.ne
        have nqh := Ne.symm nhq
        have ngq := HD4.out.z.ne6 HD4.out.st (by decide)
        have nqg := Ne.symm ngq
        have nhg := HD4.out.x.ne6 HD4.out.st (by decide)
        have ngh := Ne.symm nhg
        go_wp2_with fail
        obtain ⟨w9, hw9, hl, hp⟩ := HD4.out.laid
        rw [← hw9]
        have r0 := hl.z.is 0 rfl
        have r1 := hl.z.is 1 rfl
        have r2 := hl.z.is 2 rfl
        have r3 := hl.z.is 3 rfl
        have r4 := hl.z.is 4 rfl
        have r5 := hl.z.is 5 rfl
        have r6 := hl.z.is 6 rfl
        refine bodyPost_ret (v := .agg #[.string f0, .int .u16 k, .int .u16 c, .int .u32 t, (.slice A4 n4 c4), (.slice A5 n5 c5), (.slice none 0 0)]) (by simp [results, Try.results70, go_sem, r0, r1, r2, r3, r4, r5, r6]) rfl ?_
        exact Ends6.err (P := PartP6 w f0 k c t) hl.o hp hl.st HG.out.1 HG.out.2
end Go.Proofs.Ytbbeikdbioelgaa.M
