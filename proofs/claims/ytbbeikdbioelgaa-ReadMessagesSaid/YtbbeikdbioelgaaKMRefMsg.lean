/- The reference's message: what its reads come to (plain), and what its memory is. -/
import Derived.Test.YtbbeikdbioelgaaKMRefRec
import Derived.Test.YtbbeikdbioelgaaKMRDns
set_option linter.unusedVariables false
set_option linter.unusedSimpArgs false
namespace Go.Proofs.Ytbbeikdbioelgaa.M
open Go.RowKit Go.Maps Go.Proofs.YtbbeikdbioelgaaW.PrintWords Go.Proofs.YtbbeikdbioelgaaW.PrintLast Go.Proofs.YtbbeikdbioelgaaW.PrintMore
/-- One read behind another. -/
def bindE {α β : Type} (R : Except Int (α × Int)) (F : α → Int → Except Int (β × Int)) : Except Int (β × Int) := match R with
  | .error c => .error c
  | .ok (x, a) => F x a
theorem met_bind {α β : Type} {R : Except Int (α × Int)} {F : α → Int → Except Int (β × Int)} {e0 e a f b : Int} {x : α} {y : β} (h1 : Met6 (after6 e0 R) x a e) (h2 : Met6 (after6 e (F x a)) y b f) : Met6 (after6 e0 (bindE R F)) y b f := by
  by_cases c : e0 = 0
  · subst c
    rw [after6_ok] at h1 ⊢
    rcases h1 with ⟨h1, rfl⟩ | ⟨h1, he⟩
    · rw [h1]
      rw [after6_ok] at h2
      exact h2
    · rw [h1]
      rw [after6_err he] at h2
      rcases h2 with ⟨h2, -⟩ | ⟨h2, hf⟩
      · exact absurd h2 (by simp)
      · exact .inr ⟨h2, hf⟩
  · rw [after6_err c] at h1 ⊢
    rcases h1 with ⟨h1, -⟩ | ⟨h1, he⟩
    · exact absurd h1 (by simp)
    · have := Except.error.inj h1
      subst this
      rw [after6_err c] at h2
      exact h2
theorem quesR_bind (s : ByteArray) (a : Int) : quesR s a = bindE (txtR s a) fun nm a => bindE (numR s a 2) fun t a => bindE (numR s a 2) fun c a => .ok (⟨nm, t, c⟩, a) := by
  unfold quesR txtR
  cases nameAt s a with
  | error d => rfl
  | ok x =>
    obtain ⟨b, a1⟩ := x
    simp only [bindE, numR]
    cases getF s a1 2 with
    | none => rfl
    | some t =>
      simp only []
      cases getF s (a1 + 2) 2 with
      | none => rfl
      | some c => rfl
def sumE (l a : Int) : Except Int (Unit × Int) := if 256 < l then .error 6 else .ok ((), a)
def lastE (s : ByteArray) (a : Int) : Except Int (Unit × Int) := if a < s.size then .error 7 else .ok ((), a)
theorem msgR_bind (s : ByteArray) : msgR s = bindE (numR s 0 2) fun id a => bindE (numR s a 2) fun fl a => bindE (numR s a 2) fun na a => bindE (numR s a 2) fun nb a => bindE (numR s a 2) fun nc a => bindE (numR s a 2) fun nd a => bindE (sumE (na + nb + nc + nd) a) fun _ a =>
    bindE (quessR s na.toNat [] a) fun qs a => bindE (recsR s nb.toNat [] a) fun ans a => bindE (recsR s nc.toNat [] a) fun auth a => bindE (recsR s nd.toNat [] a) fun add a => bindE (lastE s a) fun _ a => .ok (⟨id, fl, qs, ans, auth, add⟩, a) := by
  unfold msgR
  simp only [bindE, numR]
  cases getF s 0 2 with
  | none => rfl
  | some id =>
    simp only []
    rw [show (0 : Int) + 2 = 2 from rfl]
    cases getF s 2 2 with
    | none => rfl
    | some fl =>
      simp only [cntR]
      rw [show (2 : Int) + 2 = 4 from rfl]
      cases getF s 4 2 with
      | none => rfl
      | some na =>
        simp only []
        cases getF s (4 + 2) 2 with
        | none => rfl
        | some nb =>
          simp only []
          cases getF s (4 + 2 + 2) 2 with
          | none => rfl
          | some nc =>
            simp only []
            cases getF s (4 + 2 + 2 + 2) 2 with
            | none => rfl
            | some nd =>
              simp only [List.nil_append, List.cons_append, msgA, List.sum_cons, List.sum_nil, Int.add_zero, List.getD_cons_zero, sumE]
              rw [show na + (nb + (nc + nd)) = na + nb + nc + nd by omega]
              split
              · rfl
              simp only []
              cases quessR s na.toNat [] (4 + 2 + 2 + 2 + 2) with
              | error d => rfl
              | ok x =>
                obtain ⟨qs, a⟩ := x
                simp only [msgB, List.getD_cons_succ, List.getD_cons_zero]
                cases recsR s nb.toNat [] a with
                | error d => rfl
                | ok x =>
                  obtain ⟨ans, a⟩ := x
                  simp only [msgC, List.getD_cons_succ, List.getD_cons_zero]
                  cases recsR s nc.toNat [] a with
                  | error d => rfl
                  | ok x =>
                    obtain ⟨auth, a⟩ := x
                    simp only [msgD, List.getD_cons_succ, List.getD_cons_zero]
                    cases recsR s nd.toNat [] a with
                    | error d => rfl
                    | ok x =>
                      obtain ⟨add, a⟩ := x
                      simp only [msgE, lastE]
                      split <;> rfl
/-- The reference's memory: its state, the message's box, the result's box. -/
structure C6 (w0 w : World) (g m q : Nat) (s : ByteArray) (a e : Int) (cs : Array Value) : Prop where
  b : Below w0.heap.size w0 w
  st : St w g s a e
  x : SAt w m cs 26
  z : SAt w q zMsg 26
  gb : w0.heap.size ≤ g
  mb : w0.heap.size ≤ m
  qb : w0.heap.size ≤ q
  ne : m ≠ q
section
variable {w0 w w1 : World} {g m q : Nat} {s : ByteArray} {a e a' e' : Int} {cs : Array Value}
theorem C6.mg (d : C6 w0 w g m q s a e cs) : m ≠ g := d.x.ne6 d.st (by decide)
theorem C6.qg (d : C6 w0 w g m q s a e cs) : q ≠ g := d.z.ne6 d.st (by decide)
theorem C6.go (d : C6 w0 w g m q s a e cs) (ho : Only g w w1) (hs : St w1 g s a' e') : C6 w0 w1 g m q s a' e' cs :=
  ⟨ho.below d.b d.b.size d.gb, hs, ho.at_ d.x d.mg, ho.at_ d.z d.qg, d.gb, d.mb, d.qb, d.ne⟩
theorem C6.below (d : C6 w0 w g m q s a e cs) (hb : Below w.heap.size w w1) : C6 w0 w1 g m q s a e cs :=
  ⟨d.b.trans (hb.mono d.b.size), d.st.below hb, d.x.below hb, d.z.below hb, d.gb, d.mb, d.qb, d.ne⟩
theorem C6.set (d : C6 w0 w g m q s a e cs) (j : Nat) (u : Value) : C6 w0 (w.setCell ⟨m, j, none⟩ u) g m q s a e (cs.setIfInBounds j u) :=
  ⟨d.b.setCell d.mb u, d.st.far (Ne.symm d.mg) j u, d.x.set j u, d.z.far (Ne.symm d.ne) j u, d.gb, d.mb, d.qb, d.ne⟩
/-- A store into another block of the call's own. -/
theorem C6.far (d : C6 w0 w g m q s a e cs) {b : Nat} (hb : w0.heap.size ≤ b) (h1 : g ≠ b) (h2 : m ≠ b) (h3 : q ≠ b) (j : Nat) (u : Value) : C6 w0 (w.setCell ⟨b, j, none⟩ u) g m q s a e cs :=
  ⟨d.b.setCell hb u, d.st.far h1 j u, d.x.far h2 j u, d.z.far h3 j u, d.gb, d.mb, d.qb, d.ne⟩
theorem C6.grown (d : C6 w0 w g m q s a e cs) {row : Option Nat} (hg : w.grownBy w1 row) (h0 : ∀ k, row = some k → w0.heap.size ≤ k) (h1 : some g ≠ row) (h2 : some m ≠ row) (h3 : some q ≠ row) : C6 w0 w1 g m q s a e cs :=
  ⟨⟨hg.os.trans d.b.os, hg.tape.trans d.b.tape, hg.output.trans d.b.output, Nat.le_trans d.b.size hg.size, fun k hk => (hg.block k (Nat.lt_of_lt_of_le hk d.b.size) (fun he => by have := h0 k he.symm; omega)).trans (d.b.block k hk)⟩,
    blk_grown d.st hg h1, blk_grown d.x hg h2, blk_grown d.z hg h3, d.gb, d.mb, d.qb, d.ne⟩
end
/-- The message that is being read, with its four rows. -/
structure M6 (w0 w : World) (g m q B4 B5 : Nat) (ok2 ok3 ok4 : Nat → Prop) (s : ByteArray) (a e id fl : Int) (v2 v3 v4 v5 : Value) (qs : List Ques) (ans auth add : List Rec) : Prop where
  c : C6 w0 w g m q s a e #[.int .u16 id, .int .u16 fl, v2, v3, v4, v5]
  r2 : Kd.R kQues 39 w w0.heap.size ok2 v2 qs
  r3 : Kd.R kRec 44 w w0.heap.size ok3 v3 ans
  r4 : Kd.R kRec 44 w B4 ok4 v4 auth
  r5 : Kd.R kRec 44 w B5 (fun _ => True) v5 add
  b4 : w0.heap.size ≤ B4
  s4 : B4 ≤ w.heap.size
  b5 : w0.heap.size ≤ B5
  s5 : B5 ≤ w.heap.size
section
variable {w0 w w1 : World} {g m q B4 B5 : Nat} {ok2 ok3 ok4 : Nat → Prop} {s : ByteArray} {a e a' e' id fl id' fl' : Int} {v2 v3 v4 v5 u : Value} {qs l2 : List Ques} {ans auth add l : List Rec}
theorem M6.go (d : M6 w0 w g m q B4 B5 ok2 ok3 ok4 s a e id fl v2 v3 v4 v5 qs ans auth add) (ho : Only g w w1) (hs : St w1 g s a' e') : M6 w0 w1 g m q B4 B5 ok2 ok3 ok4 s a' e' id fl v2 v3 v4 v5 qs ans auth add :=
  ⟨d.c.go ho hs, R_only6 d.r2 d.c.st (by decide) ho, R_only6 d.r3 d.c.st (by decide) ho, R_only6 d.r4 d.c.st (by decide) ho, R_only6 d.r5 d.c.st (by decide) ho, d.b4, Nat.le_trans d.s4 ho.size, d.b5, Nat.le_trans d.s5 ho.size⟩
theorem M6.below (d : M6 w0 w g m q B4 B5 ok2 ok3 ok4 s a e id fl v2 v3 v4 v5 qs ans auth add) (hb : Below w.heap.size w w1) : M6 w0 w1 g m q B4 B5 ok2 ok3 ok4 s a e id fl v2 v3 v4 v5 qs ans auth add :=
  ⟨d.c.below hb, Kd.R_below d.r2 hb, Kd.R_below d.r3 hb, Kd.R_below d.r4 hb, Kd.R_below d.r5 hb, d.b4, Nat.le_trans d.s4 hb.size, d.b5, Nat.le_trans d.s5 hb.size⟩
theorem M6.drew (d : M6 w0 w g m q B4 B5 ok2 ok3 ok4 s a e id fl v2 v3 v4 v5 qs ans auth add) : M6 w0 w.drew g m q B4 B5 ok2 ok3 ok4 s a e id fl v2 v3 v4 v5 qs ans auth add := d.below (below_drew (Below.refl _ _))
theorem M6.sete (d : M6 w0 w g m q B4 B5 ok2 ok3 ok4 s a e id fl v2 v3 v4 v5 qs ans auth add) (b : Int) : M6 w0 (w.setCell ⟨g, 2, none⟩ (.int .i64 b)) g m q B4 B5 ok2 ok3 ok4 s a b id fl v2 v3 v4 v5 qs ans auth add := d.go (Only.set (Only.refl g w) 2 _) (d.c.st.set2 b)
/-- One of the two heads is stored. -/
theorem M6.head (d : M6 w0 w g m q B4 B5 ok2 ok3 ok4 s a e id fl v2 v3 v4 v5 qs ans auth add) (j : Nat) (hc : (#[.int .u16 id, .int .u16 fl, v2, v3, v4, v5] : Array Value).setIfInBounds j u = #[.int .u16 id', .int .u16 fl', v2, v3, v4, v5]) : M6 w0 (w.setCell ⟨m, j, none⟩ u) g m q B4 B5 ok2 ok3 ok4 s a e id' fl' v2 v3 v4 v5 qs ans auth add :=
  ⟨by have := d.c.set j u; rw [hc] at this; exact this, Kd.R_set d.r2 d.c.x (by decide) j u, Kd.R_set d.r3 d.c.x (by decide) j u, Kd.R_set d.r4 d.c.x (by decide) j u, Kd.R_set d.r5 d.c.x (by decide) j u, d.b4, by simpa using d.s4, d.b5, by simpa using d.s5⟩
/-- A box of a question is made ahead of the row's growth. -/
theorem M6.quesBox (d : M6 w0 w g m q B4 B5 ok2 ok3 ok4 s a e id fl v2 v3 v4 v5 qs ans auth add) (o : Obj) : M6 w0 (w.alloc o) g m q B4 B5 (fun k => ok2 k ∧ k ≠ w.heap.size) ok3 ok4 s a e id fl v2 v3 v4 v5 qs ans auth add := by
  have h := d.below (below_alloc (Below.refl _ _) o)
  exact ⟨h.c, Kd.R_alloc (Kd.R_elderB d.r2 w.heap.size (Nat.le_refl _)) o, h.r3, h.r4, h.r5, h.b4, h.s4, h.b5, h.s5⟩
theorem M6.quesSet (d : M6 w0 w g m q B4 B5 ok2 ok3 ok4 s a e id fl v2 v3 v4 v5 qs ans auth add) {b : Nat} {cs : Array Value} (hx : SAt w b cs 39) (hb : w0.heap.size ≤ b) (h2 : ∀ k, ok2 k → k ≠ b) (j : Nat) (u : Value) : M6 w0 (w.setCell ⟨b, j, none⟩ u) g m q B4 B5 ok2 ok3 ok4 s a e id fl v2 v3 v4 v5 qs ans auth add :=
  ⟨d.c.far hb (Ne.symm (hx.ne6 d.c.st (by decide))) (blk_ne d.c.x hx (by decide)) (blk_ne d.c.z hx (by decide)) j u, Kd.R_far (p := ⟨b, j, none⟩) d.r2 h2 u, Kd.R_set d.r3 hx (by decide) j u, Kd.R_set d.r4 hx (by decide) j u, Kd.R_set d.r5 hx (by decide) j u, d.b4, by simpa using d.s4, d.b5, by simpa using d.s5⟩
/-- The questions' row has grown. -/
theorem M6.app2 (d : M6 w0 w g m q B4 B5 ok2 ok3 ok4 s a e id fl v2 v3 v4 v5 qs ans auth add) (hr : Kd.R kQues 39 w1 w0.heap.size (fun _ => True) u l2) (hg : w.grownBy w1 v2.ownBlock) : M6 w0 (w1.setCell ⟨m, 2, none⟩ u) g m q B4 B5 (fun _ => True) ok3 ok4 s a e id fl u v3 v4 v5 l2 ans auth add := by
  have hc := d.c.grown hg (Kd.R_base d.r2) (Kd.R_ne d.r2 d.c.st (by decide)) (Kd.R_ne d.r2 d.c.x (by decide)) (Kd.R_ne d.r2 d.c.z (by decide))
  have h3 := Kd.R_over d.r3 d.r2 (by decide) hg
  have h4 := Kd.R_over d.r4 d.r2 (by decide) hg
  have h5 := Kd.R_over d.r5 d.r2 (by decide) hg
  exact ⟨hc.set 2 u, Kd.R_set hr hc.x (by decide) 2 u, Kd.R_set h3 hc.x (by decide) 2 u, Kd.R_set h4 hc.x (by decide) 2 u, Kd.R_set h5 hc.x (by decide) 2 u, d.b4, by have := hg.size; have := d.s4; simp; omega, d.b5, by have := hg.size; have := d.s5; simp; omega⟩
theorem M6.app3 (d : M6 w0 w g m q B4 B5 ok2 ok3 ok4 s a e id fl v2 v3 (.slice none 0 0) (.slice none 0 0) qs ans [] []) (hr : Kd.R kRec 44 w1 w0.heap.size (fun _ => True) u l) (hg : w.grownBy w1 v3.ownBlock) : M6 w0 (w1.setCell ⟨m, 3, none⟩ u) g m q B4 B5 ok2 (fun _ => True) ok4 s a e id fl v2 u (.slice none 0 0) (.slice none 0 0) qs l [] [] := by
  have hc := d.c.grown hg (Kd.R_base d.r3) (Kd.R_ne d.r3 d.c.st (by decide)) (Kd.R_ne d.r3 d.c.x (by decide)) (Kd.R_ne d.r3 d.c.z (by decide))
  have h2 := Kd.R_over d.r2 d.r3 (by decide) hg
  exact ⟨hc.set 3 u, Kd.R_set h2 hc.x (by decide) 3 u, Kd.R_set hr hc.x (by decide) 3 u, Kd.R_nil _ _ _ _ _, Kd.R_nil _ _ _ _ _, d.b4, by have := hg.size; have := d.s4; simp; omega, d.b5, by have := hg.size; have := d.s5; simp; omega⟩
/-- From here on the further records' row grows. -/
theorem M6.next4 (d : M6 w0 w g m q B4 B5 ok2 ok3 ok4 s a e id fl v2 v3 (.slice none 0 0) (.slice none 0 0) qs ans [] []) : M6 w0 w g m q w.heap.size B5 ok2 (fun k => k < w.heap.size) (fun _ => True) s a e id fl v2 v3 (.slice none 0 0) (.slice none 0 0) qs ans [] [] :=
  ⟨d.c, d.r2, Kd.R_mono (Kd.R_bound d.r3) (fun _ hk => hk.2.2.1), Kd.R_nil _ _ _ _ _, d.r5, d.c.b.size, Nat.le_refl _, d.b5, d.s5⟩
theorem M6.app4 (d : M6 w0 w g m q B4 B5 ok2 (fun k => k < B4) ok4 s a e id fl v2 v3 v4 (.slice none 0 0) qs ans auth []) (hr : Kd.R kRec 44 w1 B4 (fun _ => True) u l) (hg : w.grownBy w1 v4.ownBlock) : M6 w0 (w1.setCell ⟨m, 4, none⟩ u) g m q B4 B5 ok2 (fun k => k < B4) (fun _ => True) s a e id fl v2 v3 u (.slice none 0 0) qs ans l [] := by
  have hc := d.c.grown hg (fun k hk => Nat.le_trans d.b4 (Kd.R_base d.r4 k hk)) (Kd.R_ne d.r4 d.c.st (by decide)) (Kd.R_ne d.r4 d.c.x (by decide)) (Kd.R_ne d.r4 d.c.z (by decide))
  have h2 := Kd.R_over d.r2 d.r4 (by decide) hg
  have h3 := Kd.R_grown d.r3 hg (fun k hk he => by have := Kd.R_base d.r4 k he.symm; omega)
  exact ⟨hc.set 4 u, Kd.R_set h2 hc.x (by decide) 4 u, Kd.R_set h3 hc.x (by decide) 4 u, Kd.R_set hr hc.x (by decide) 4 u, Kd.R_nil _ _ _ _ _, d.b4, by have := hg.size; have := d.s4; simp; omega, d.b5, by have := hg.size; have := d.s5; simp; omega⟩
theorem M6.next5 (d : M6 w0 w g m q B4 B5 ok2 (fun k => k < B4) (fun _ => True) s a e id fl v2 v3 v4 (.slice none 0 0) qs ans auth []) : M6 w0 w g m q B4 w.heap.size ok2 (fun k => k < w.heap.size) (fun k => k < w.heap.size) s a e id fl v2 v3 v4 (.slice none 0 0) qs ans auth [] :=
  ⟨d.c, d.r2, Kd.R_mono (Kd.R_bound d.r3) (fun _ hk => hk.2.2.1), Kd.R_mono (Kd.R_bound d.r4) (fun _ hk => hk.2.2.1), Kd.R_nil _ _ _ _ _, d.b4, d.s4, d.c.b.size, Nat.le_refl _⟩
theorem M6.app5 (d : M6 w0 w g m q B4 B5 ok2 (fun k => k < B5) (fun k => k < B5) s a e id fl v2 v3 v4 v5 qs ans auth add) (hr : Kd.R kRec 44 w1 B5 (fun _ => True) u l) (hg : w.grownBy w1 v5.ownBlock) : M6 w0 (w1.setCell ⟨m, 5, none⟩ u) g m q B4 B5 ok2 (fun k => k < B5) (fun k => k < B5) s a e id fl v2 v3 v4 u qs ans auth l := by
  have hc := d.c.grown hg (fun k hk => Nat.le_trans d.b5 (Kd.R_base d.r5 k hk)) (Kd.R_ne d.r5 d.c.st (by decide)) (Kd.R_ne d.r5 d.c.x (by decide)) (Kd.R_ne d.r5 d.c.z (by decide))
  have h2 := Kd.R_over d.r2 d.r5 (by decide) hg
  have h3 := Kd.R_grown d.r3 hg (fun k hk he => by have := Kd.R_base d.r5 k he.symm; omega)
  have h4 := Kd.R_grown d.r4 hg (fun k hk he => by have := Kd.R_base d.r5 k he.symm; omega)
  exact ⟨hc.set 5 u, Kd.R_set h2 hc.x (by decide) 5 u, Kd.R_set h3 hc.x (by decide) 5 u, Kd.R_set h4 hc.x (by decide) 5 u, Kd.R_set hr hc.x (by decide) 5 u, d.b4, by have := hg.size; have := d.s4; simp; omega, d.b5, by have := hg.size; have := d.s5; simp; omega⟩
theorem M6.msg (d : M6 w0 w g m q B4 B5 ok2 ok3 ok4 s a e id fl v2 v3 v4 v5 qs ans auth add) : MsgP w0.heap.size ⟨id, fl, qs, ans, auth, add⟩ (.agg #[.int .u16 id, .int .u16 fl, v2, v3, v4, v5]) w :=
  ⟨v2, v3, v4, v5, rfl, Kd.R_mono d.r2 (fun _ _ => trivial), Kd.R_mono d.r3 (fun _ _ => trivial), Kd.R_mono (Kd.R_lower d.r4 d.b4) (fun _ _ => trivial), Kd.R_lower d.r5 d.b5⟩
/-- A message is laid into the result's box. -/
structure L6 (w0 w : World) (q : Nat) (mm : Msg) (v : Value) (cs : Array Value) : Prop where
  b : Below w0.heap.size w0 w
  z : SAt w q cs 26
  p : MsgP w0.heap.size mm v w
theorem L6.set {mm : Msg} {v : Value} {cs : Array Value} (d : L6 w0 w q mm v cs) (hq : w0.heap.size ≤ q) (j : Nat) (u : Value) : L6 w0 (w.setCell ⟨q, j, none⟩ u) q mm v (cs.setIfInBounds j u) :=
  ⟨d.b.setCell hq u, d.z.set j u, d.p.set d.z j u⟩
theorem M6.laid (d : M6 w0 w g m q B4 B5 ok2 ok3 ok4 s a e id fl v2 v3 v4 v5 qs ans auth add) :
    ∃ w9, w9 = (((((w.setCell ⟨q, 0, none⟩ (.int .u16 id)).setCell ⟨q, 1, none⟩ (.int .u16 fl)).setCell ⟨q, 2, none⟩ v2).setCell ⟨q, 3, none⟩ v3).setCell ⟨q, 4, none⟩ v4).setCell ⟨q, 5, none⟩ v5 ∧
      L6 w0 w9 q ⟨id, fl, qs, ans, auth, add⟩ (.agg #[.int .u16 id, .int .u16 fl, v2, v3, v4, v5]) #[.int .u16 id, .int .u16 fl, v2, v3, v4, v5] := by
  have L0 : L6 w0 w q ⟨id, fl, qs, ans, auth, add⟩ (.agg #[.int .u16 id, .int .u16 fl, v2, v3, v4, v5]) zMsg := ⟨d.c.b, d.c.z, d.msg⟩
  exact ⟨_, rfl, (((((L0.set d.c.qb 0 (.int .u16 id)).set d.c.qb 1 (.int .u16 fl)).set d.c.qb 2 v2).set d.c.qb 3 v3).set d.c.qb 4 v4).set d.c.qb 5 v5⟩
theorem M6.at0 (d : M6 w0 w g m q B4 B5 ok2 ok3 ok4 s a e id fl v2 v3 v4 v5 qs ans auth add) : w.cell? ⟨m, 0, none⟩ = some (.int .u16 id) := d.c.x.is 0 rfl
theorem M6.at1 (d : M6 w0 w g m q B4 B5 ok2 ok3 ok4 s a e id fl v2 v3 v4 v5 qs ans auth add) : w.cell? ⟨m, 1, none⟩ = some (.int .u16 fl) := d.c.x.is 1 rfl
theorem M6.at2 (d : M6 w0 w g m q B4 B5 ok2 ok3 ok4 s a e id fl v2 v3 v4 v5 qs ans auth add) : w.cell? ⟨m, 2, none⟩ = some v2 := d.c.x.is 2 rfl
theorem M6.at3 (d : M6 w0 w g m q B4 B5 ok2 ok3 ok4 s a e id fl v2 v3 v4 v5 qs ans auth add) : w.cell? ⟨m, 3, none⟩ = some v3 := d.c.x.is 3 rfl
theorem M6.at4 (d : M6 w0 w g m q B4 B5 ok2 ok3 ok4 s a e id fl v2 v3 v4 v5 qs ans auth add) : w.cell? ⟨m, 4, none⟩ = some v4 := d.c.x.is 4 rfl
theorem M6.at5 (d : M6 w0 w g m q B4 B5 ok2 ok3 ok4 s a e id fl v2 v3 v4 v5 qs ans auth add) : w.cell? ⟨m, 5, none⟩ = some v5 := d.c.x.is 5 rfl
end
end Go.Proofs.Ytbbeikdbioelgaa.M
