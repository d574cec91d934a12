/- Walks of package dnsread: the reader's data. -/
import Derived.Test.YtbbeikdbioelgaaMRWithin
import Derived.Test.YtbbeikdbioelgaaMShaped
set_option linter.unusedVariables false
set_option linter.unusedSimpArgs false
namespace Go.Proofs.Ytbbeikdbioelgaa.M
open Go.RowKit Go.Maps Go.Proofs.YtbbeikdbioelgaaW.PrintWords Go.Proofs.YtbbeikdbioelgaaW.PrintLast Go.Proofs.YtbbeikdbioelgaaW.PrintMore
attribute [local go_sem] max2_int min2_int max_two min_two max_three min_three max_four min_four
attribute [local go_sem ↓] Go.wp_at_zero Go.wp_at_succ
/-- Of what was, only two blocks may be others. -/
structure Two (g h : Nat) (w w' : World) : Prop where
  os : w'.os = w.os
  tape : w'.tape = w.tape
  output : w'.output = w.output
  size : w.heap.size ≤ w'.heap.size
  block : ∀ k, k < w.heap.size → k ≠ g → k ≠ h → w'.heap[k]? = w.heap[k]?
section
variable {w w1 w2 : World} {g h B : Nat}
theorem Two.refl (g h : Nat) (w : World) : Two g h w w := ⟨rfl, rfl, rfl, Nat.le_refl _, fun _ _ _ _ => rfl⟩
theorem Two.only (hw : Two g h w w1) (ho : Only g w1 w2) : Two g h w w2 :=
  ⟨ho.os.trans hw.os, ho.tape.trans hw.tape, ho.output.trans hw.output, Nat.le_trans hw.size ho.size, fun k hk hg hh => (ho.block k (Nat.lt_of_lt_of_le hk hw.size) hg).trans (hw.block k hk hg hh)⟩
theorem Two.set (hw : Two g h w w1) (j : Nat) (v : Value) : Two g h w (w1.setCell ⟨h, j, none⟩ v) :=
  ⟨hw.os, hw.tape, hw.output, by simpa using hw.size, fun k hk hg hh => (Below.heap_setCell w1 _ v k hh).trans (hw.block k hk hg hh)⟩
theorem Two.of_grown {row : Option Nat} (hw : Two g h w w1) (hg : w1.grownBy w2 row) (hr : ∀ k, row = some k → w.heap.size ≤ k) : Two g h w w2 :=
  ⟨hg.os.trans hw.os, hg.tape.trans hw.tape, hg.output.trans hw.output, Nat.le_trans hw.size hg.size, fun k hk h1 h2 => (hg.block k (Nat.lt_of_lt_of_le hk hw.size) (fun e => by have := hr k e.symm; omega)).trans (hw.block k hk h1 h2)⟩
theorem Two.drew (hw : Two g h w w1) : Two g h w w1.drew := ⟨hw.os, hw.tape, hw.output, hw.size, hw.block⟩
end
/-- A record at a block. -/
def XAt (w : World) (h : Nat) (f0 : ByteArray) (k c t : Int) (v4 v5 v6 : Value) : Prop := w.heap[h]? = some (.cells #[.string f0, .int .u16 k, .int .u16 c, .int .u32 t, v4, v5, v6] 44 (0, 0))
section
variable {w w1 : World} {g h : Nat} {s f0 : ByteArray} {a k c t : Int} {v4 v5 v6 : Value}
theorem XAt.ne (hx : XAt w h f0 k c t v4 v5 v6) (hr : RAt w g s a) : h ≠ g := by
  rintro rfl
  unfold XAt at hx
  unfold RAt at hr
  rw [hr] at hx
  have := Option.some.inj hx
  injection this with _ h2
  exact absurd h2 (by decide)
theorem XAt.only (hx : XAt w h f0 k c t v4 v5 v6) (hr : RAt w g s a) (ho : Only g w w1) : XAt w1 h f0 k c t v4 v5 v6 := ho.at_ hx (hx.ne hr)
theorem XAt.cell (hx : XAt w h f0 k c t v4 v5 v6) (j : Nat) : w.cell? ⟨h, j, none⟩ = #[.string f0, .int .u16 k, .int .u16 c, .int .u32 t, v4, v5, v6][j]? := blk_cell hx j
theorem XAt.set4 (hx : XAt w h f0 k c t v4 v5 v6) (u : Value) : XAt (w.setCell ⟨h, 4, none⟩ u) h f0 k c t u v5 v6 := by
  unfold XAt
  rw [blk_set hx 4 _]
  rfl
theorem XAt.set5 (hx : XAt w h f0 k c t v4 v5 v6) (u : Value) : XAt (w.setCell ⟨h, 5, none⟩ u) h f0 k c t v4 u v6 := by
  unfold XAt
  rw [blk_set hx 5 _]
  rfl
theorem XAt.set6 (hx : XAt w h f0 k c t v4 v5 v6) (u : Value) : XAt (w.setCell ⟨h, 6, none⟩ u) h f0 k c t v4 v5 u := by
  unfold XAt
  rw [blk_set hx 6 _]
  rfl
theorem RAt.setx (hr : RAt w g s a) (hx : XAt w h f0 k c t v4 v5 v6) (j : Nat) (u : Value) : RAt (w.setCell ⟨h, j, none⟩ u) g s a := (Below.heap_setCell w _ u g (Ne.symm (hx.ne hr))).trans hr
end
def namesR (s : ByteArray) (k en : Int) : Nat → List ByteArray → Int → Except Int (List ByteArray × Int)
  | 0, out, a => .ok (out, a)
  | n + 1, out, a =>
    match withinF s k a en with
    | .error c => .error c
    | .ok (b, a') => namesR s k en n (out ++ [strOfNums b]) a'
def textsR (s : ByteArray) (en : Int) : Nat → List ByteArray → Int → Except Int (List ByteArray × Int)
  | 0, _, _ => .error 2
  | n + 1, out, a => if a < en then
      (match getF s a 1 with
      | none => .error 2
      | some m => if en - (a + 1) < m then .error 50 else
        match partF s (a + 1) m with
        | none => .error 2
        | some t => textsR s en n (out ++ [t]) (a + 1 + m))
    else .ok (out, a)
abbrev Parts := List ByteArray × List Int × List ByteArray
/-- The last step: the data must end where it ends. -/
def dataE (en : Int) (names : List ByteArray) (nums : List Int) : List ByteArray × Int → Except Int (Parts × Int)
  | (texts, a) => if a = en then .ok ((names, nums, texts), a) else .error 50
def dataT (s : ByteArray) (k en : Int) (names : List ByteArray) (nums : List Int) (a : Int) : Except Int (Parts × Int) :=
  if k = 16 then
    match textsR s en ((en - a).toNat + 1) [] a with
    | .error c => .error c
    | .ok x => dataE en names nums x
  else if (shapeOf k).1 + (shapeOf k).2.1 = 0 then
    match partF s a (en - a) with
    | none => .error 2
    | some t => dataE en names nums ([t], en)
  else dataE en names nums ([], a)
def dataN (s : ByteArray) (k en : Int) (nums : List Int) : List ByteArray × Int → Except Int (Parts × Int)
  | (names, a) => if k = 6 then
      match numsR s 4 en (shapeOf k).2.1 [] a with
      | .error c => .error c
      | .ok (nums', a') => dataT s k en names nums' a'
    else dataT s k en names nums a
def dataM (s : ByteArray) (k en : Int) : List Int × Int → Except Int (Parts × Int)
  | (nums, a) => match namesR s k en (shapeOf k).1 [] a with
    | .error c => .error c
    | .ok x => dataN s k en nums x
/-- A record's data, by its type, which ends at a place. -/
def dataR (s : ByteArray) (k en a : Int) : Except Int (Parts × Int) :=
  if k = 6 then dataM s k en ([], a)
  else match numsR s 2 en (shapeOf k).2.1 [] a with
    | .error c => .error c
    | .ok x => dataM s k en x
structure DataEnds (R : Except Int (Parts × Int)) (w : World) (g h : Nat) (s f0 : ByteArray) (k c t : Int) (e : Ending) (w' : World) : Prop where
  bad : ∀ d, R = .error d → e = gaveUp d
  good : ∀ names nums texts a, R = .ok ((names, nums, texts), a) → e = .returned (.tuple #[]) ∧ RAt w' g s a ∧ ∃ v4 v5 v6, XAt w' h f0 k c t v4 v5 v6 ∧
    Kd.R Kd.string 9 w' w.heap.size (fun _ => True) v4 names ∧ Kd.R (Kd.int .u32) 41 w' w.heap.size (fun _ => True) v5 nums ∧ Kd.R Kd.string 9 w' w.heap.size (fun _ => True) v6 texts
  two : Two g h w w'
section
variable {R : Except Int (Parts × Int)} {w w' : World} {g h : Nat} {s f0 : ByteArray} {a k c t d : Int} {v4 v5 v6 : Value} {names texts : List ByteArray} {nums : List Int}
theorem DataEnds.err (hd : R = .error d) (ht : Two g h w w') : DataEnds R w g h s f0 k c t (gaveUp d) w' :=
  ⟨fun d' hd' => by rw [hd] at hd'; rw [Except.error.inj hd'], fun _ _ _ _ hb => by rw [hd] at hb; exact absurd hb (by simp), ht⟩
theorem DataEnds.ok (hd : R = .ok ((names, nums, texts), a)) (hr : RAt w' g s a) (hx : XAt w' h f0 k c t v4 v5 v6) (h4 : Kd.R Kd.string 9 w' w.heap.size (fun _ => True) v4 names)
    (h5 : Kd.R (Kd.int .u32) 41 w' w.heap.size (fun _ => True) v5 nums) (h6 : Kd.R Kd.string 9 w' w.heap.size (fun _ => True) v6 texts) (ht : Two g h w w') : DataEnds R w g h s f0 k c t (.returned (.tuple #[])) w' :=
  ⟨fun d' hd' => by rw [hd] at hd'; exact absurd hd' (by simp), fun n' m' t' a' hb => by
    rw [hd] at hb
    obtain ⟨h1, rfl⟩ := Prod.mk.inj (Except.ok.inj hb)
    obtain ⟨rfl, h2⟩ := Prod.mk.inj h1
    obtain ⟨rfl, rfl⟩ := Prod.mk.inj h2
    exact ⟨rfl, hr, v4, v5, v6, hx, h4, h5, h6⟩, ht⟩
end
/-- A call in a region that draws, which may give up. -/
theorem goesp_ {P : Program} {ops : Array Oper} {Q : Exit → Act → World → Prop} {oi : Oper} {N : Option Tmp} {a : Act} {w : World} {K : Act → World → Prop} {f : FuncId} {fn : Func} {xs : Array Operand} {ts : Array TypeId} (hf : P.funcs[f]? = some fn) (hname : (fn.name == "runtime.NumGoroutine") = false) (hb : fn.body.isSome = true) (args : Array Value)
    (hw : Region.wanted oi (yielded ops a.tmps) = true) (hN : oi.dst = N) (hop : oi.op = .call { callee := .value (.func f), args := xs, argTypes := ts }) (hargs : xs.map a.eval = args)
    (h : Calls P f args w fun e w' => (∃ v, e = .returned v ∧ K (a.put N v) w') ∨ ∃ c, e = .panicked c ∧ Q (.panic c) a w') : if Region.wanted oi (yielded ops a.tmps) = true then Oper.wp P oi a w K Q else K (a.put N undef) w := by
  subst hN
  rw [if_pos hw]
  have he := enters_ hf hname hb args w
  unfold Oper.wp
  have hrun : (execOp a.eval oi).run P w = .ok (.enter f args) w := by
    unfold execOp
    simp [hop, resolve, Deferred.ofValue, invoke, Act.eval, hargs, he]
  rw [hrun, Oper.upon_enter]
  refine h.mono fun e w'' hh => ?_
  rcases hh with ⟨v, rfl, hk⟩ | ⟨c, rfl, hq⟩
  · exact hk
  · exact hq
theorem nameR_at (K : Nat) : ∀ {s : ByteArray} {b : List Int} {part nx a : Int} {b' : List Int} {a' : Int}, nameR K s b part nx a = .ok (b', a') → nx ≤ s.size → 0 ≤ a' ∧ a' ≤ s.size := by
  induction K with
  | zero => intro s b part nx a b' a' h _; exact absurd h (by simp [nameR])
  | succ K ih =>
    intro s b part nx a b' a' h hn
    unfold nameR at h
    cases h1 : getF s a 1 with
    | none => rw [h1] at h; exact absurd h (by simp)
    | some n =>
      rw [h1] at h
      simp only [] at h
      have g1 := get1 h1
      by_cases c1 : n = 0
      · rw [if_pos c1] at h
        have := (Prod.mk.inj (Except.ok.inj h)).2
        split at this <;> omega
      rw [if_neg c1] at h
      by_cases c2 : 191 < n
      · rw [if_pos c2] at h
        cases h2 : getF s (a + 1) 1 with
        | none => rw [h2] at h; exact absurd h (by simp)
        | some m =>
          rw [h2] at h
          simp only [] at h
          have g2 := get1 h2
          by_cases c3 : part ≤ n % 64 * 256 + m
          · rw [if_pos c3] at h; exact absurd h (by simp)
          · rw [if_neg c3] at h
            exact ih h (by split <;> omega)
      rw [if_neg c2] at h
      by_cases c4 : 63 < n
      · rw [if_pos c4] at h; exact absurd h (by simp)
      rw [if_neg c4] at h
      cases h3 : partF s (a + 1) n with
      | none => rw [h3] at h; exact absurd h (by simp)
      | some l =>
        rw [h3] at h
        simp only [] at h
        by_cases c5 : 255 < (b.length : Int) + n + 2
        · rw [if_pos c5] at h; exact absurd h (by simp)
        · rw [if_neg c5] at h
          exact ih h hn
theorem bareR_at (K : Nat) : ∀ {s : ByteArray} {b : List Int} {a : Int} {b' : List Int} {a' : Int}, bareR K s b a = .ok (b', a') → 0 ≤ a' ∧ a' ≤ s.size := by
  induction K with
  | zero => intro s b a b' a' h; exact absurd h (by simp [bareR])
  | succ K ih =>
    intro s b a b' a' h
    unfold bareR at h
    cases h1 : getF s a 1 with
    | none => rw [h1] at h; exact absurd h (by simp)
    | some n =>
      rw [h1] at h
      simp only [] at h
      have g1 := get1 h1
      by_cases c1 : n = 0
      · rw [if_pos c1] at h
        have := (Prod.mk.inj (Except.ok.inj h)).2
        omega
      rw [if_neg c1] at h
      by_cases c2 : 191 < n
      · rw [if_pos c2] at h; exact absurd h (by simp)
      rw [if_neg c2] at h
      by_cases c4 : 63 < n
      · rw [if_pos c4] at h; exact absurd h (by simp)
      rw [if_neg c4] at h
      by_cases c5 : 255 < (b.length : Int) + n + 2
      · rw [if_pos c5] at h; exact absurd h (by simp)
      rw [if_neg c5] at h
      cases h3 : partF s (a + 1) n with
      | none => rw [h3] at h; exact absurd h (by simp)
      | some l =>
        rw [h3] at h
        exact ih h
theorem within_at {s : ByteArray} {k a en : Int} {b : List Int} {a' : Int} (h : withinF s k a en = .ok (b, a')) : 0 ≤ a' ∧ a' ≤ s.size := by
  unfold withinF at h
  split at h
  · exact absurd h (by simp)
  · split at h
    · exact bareR_at _ h
    · exact nameR_at _ h (by omega)
theorem numsR_at {s : ByteArray} {sz en : Int} (K : Nat) : ∀ {out : List Int} {a : Int} {out' : List Int} {a' : Int}, numsR s sz en K out a = .ok (out', a') → 0 ≤ a ∧ a ≤ s.size → 0 ≤ a' ∧ a' ≤ s.size := by
  induction K with
  | zero =>
    intro out a out' a' h ha
    have := (Prod.mk.inj (Except.ok.inj h)).2
    omega
  | succ K ih =>
    intro out a out' a' h ha
    unfold numsR at h
    by_cases c1 : en - a < sz
    · rw [if_pos c1] at h; exact absurd h (by simp)
    rw [if_neg c1] at h
    cases h1 : getF s a sz with
    | none => rw [h1] at h; exact absurd h (by simp)
    | some n =>
      rw [h1] at h
      have := get_at h1
      exact ih h (by omega)
section
variable {s : ByteArray} {k en a : Int} {names : List ByteArray} {nums : List Int}
theorem dataN_not (h : ¬ k = 6) : dataN s k en nums (names, a) = dataT s k en names nums a := if_neg h
theorem dataN_six (h : k = 6) : dataN s k en nums (names, a) = (match numsR s 4 en (shapeOf k).2.1 [] a with | .error c => .error c | .ok (nums', a') => dataT s k en names nums' a') := if_pos h
theorem dataT_txt (h : k = 16) : dataT s k en names nums a = (match textsR s en ((en - a).toNat + 1) [] a with | .error c => .error c | .ok x => dataE en names nums x) := if_pos h
theorem dataT_free (h : ¬ k = 16) (h0 : (shapeOf k).1 + (shapeOf k).2.1 = 0) : dataT s k en names nums a = (match partF s a (en - a) with | none => .error 2 | some t => dataE en names nums ([t], en)) := (if_neg h).trans (if_pos h0)
theorem dataT_none (h : ¬ k = 16) (h0 : ¬ (shapeOf k).1 + (shapeOf k).2.1 = 0) : dataT s k en names nums a = dataE en names nums ([], a) := (if_neg h).trans (if_neg h0)
theorem dataE_eq (t : List ByteArray) : dataE en names nums (t, a) = (if a = en then .ok ((names, nums, t), a) else .error 50) := rfl
end
theorem R_anyslice {α : Type} {d : Kd α} {e base : Nat} {ok : Nat → Prop} {w : World} {v : Value} {xs : List α} (h : d.R e w base ok v xs) : ∃ A n c, v = .slice A n c := by
  obtain ⟨A, c, h⟩ := Kd.R_slice h
  exact ⟨A, _, c, h⟩
set_option maxHeartbeats 8000000 in
set_option maxRecDepth 100000 in
theorem data_reads {w : World} {g h : Nat} {s f0 : ByteArray} {a k c t en : Int} (hr : RAt w g s a) (hx : XAt w h f0 k c t (.slice none 0 0) (.slice none 0 0) (.slice none 0 0)) (hs : s.size ≤ 1000000) (h0 : 0 ≤ a) (hae : a ≤ en) (he : en ≤ s.size) :
    Calls Try.prog 83 #[.pointer (some ⟨g, 0, none⟩), .pointer (some ⟨h, 0, none⟩), .int .i64 en] w fun e w' => DataEnds (dataR s k en a) w g h s f0 k c t e w' := by
  obtain ⟨R, hR⟩ : ∃ R, dataR s k en a = R := ⟨_, rfl⟩
  rw [hR]
  unfold dataR at hR
  have HR := Aside0.mk hr
  have HX := Aside0.mk hx
  have HS := Lib.hid (show s.size ≤ 1000000 ∧ en ≤ s.size ∧ 0 ≤ en from ⟨hs, he, by omega⟩)
  have HA := Lib.hid (show 0 ≤ a ∧ a ≤ s.size by omega)
  have HT := Aside0.mk (Two.refl g h w)
  have H4 := Aside0.mk (Kd.R_nil Kd.string 9 w w.heap.size (fun _ => True))
  have H5 := Aside0.mk (Kd.R_nil (Kd.int .u32) 41 w w.heap.size (fun _ => True))
  obtain ⟨⟨n, m, tx⟩, hsh⟩ : ∃ x, shapeOf k = x := ⟨_, rfl⟩
  obtain ⟨s1, s2, s3⟩ := shapeOf_le k
  have e1 : (shapeOf k).1 = n := by rw [hsh]
  have e2 : (shapeOf k).2.1 = m := by rw [hsh]
  rw [e1] at s1
  rw [e2] at s2 hR
  have HSh := Lib.hid hsh
  have HNM := Lib.hid (show (shapeOf k).1 = n ∧ (shapeOf k).2.1 = m from ⟨e1, e2⟩)
  have p1 : (n : Int) ≤ 2 := by omega
  have p2 : (m : Int) ≤ 5 := by omega
  have p3 : en ≤ 1000000 := by omega
  have p4 : 0 ≤ en := by omega
  have HM := Lib.hid (show m ≤ 10 by omega)
  clear hr hx hs h0 hae he hsh s1 s2 s3 e1 e2
  have x1 : w.cell? ⟨h, 1, none⟩ = some (.int .u16 k) := (HX.out.cell 1).trans rfl
  by_cases k6 : k = 6
  · rw [if_pos k6] at hR
    have d6 : (k != 6) = false := by rw [bne_eq_false_iff_eq]; exact k6
    have d7 : (k == 6) = true := beq_iff_eq.mpr k6
    have K6 := Lib.hid k6
    have HE := Lib.hid hR
    have HA1 := HA
    have HR2 := HR
    have HX2 := HX
    have HT2 := HT
    have H42 := H4
    have H52 := H5
    clear k6 hR
    go_enter Try.func83, Try.ntmps83
    go_wp2_with fail
    refine (Shape_calls k _).mono ?_
    rw [HSh.out]
    rintro e w1 ⟨rfl, rfl⟩
    go_wp2_with fail
    clear x1
    have HQ := Aside0.mk (show (match namesR s k en n [] a with | .error c => .error c | .ok x => dataN s k en [] x) = R by rw [← HE.out]; unfold dataM; rw [HNM.out.1])
    obtain ⟨RN, hRN⟩ : ∃ RN, namesR s k en n [] a = RN := ⟨_, rfl⟩
    rw [hRN] at HQ
    have HL := Aside0.mk hRN
    clear hRN HE
    go_loopg [32] n (fun kq v32 w' => ∃ (i : Nat) (out : List ByteArray) (at' : Int) (v4 : Value), v32 = .int .i64 i ∧ Aside0 (namesR s k en kq out at' = RN) ∧ Aside0 (kq + i = n) ∧ Aside0 (out.length = i) ∧ Aside0 (0 ≤ at' ∧ at' ≤ s.size) ∧ Aside0 (RAt w' g s at') ∧ Aside0 (XAt w' h f0 k c t v4 (.slice none 0 0) (.slice none 0 0)) ∧ Aside0 (Two g h w w') ∧ Aside0 (Kd.R Kd.string 9 w' w.heap.size (fun _ => True) v4 out) ∧ Aside0 (Kd.R (Kd.int .u32) 41 w' w.heap.size (fun _ => True) (.slice none 0 0) []) ∧ Aside0 (i = 0 → v4 = (.slice none 0 0)))
    case atStart => exact ⟨0, [], a, (.slice none 0 0), rfl, HL, ⟨rfl⟩, ⟨rfl⟩, ⟨HA1.out⟩, HR2, HX2, HT2, H42, H52, ⟨fun _ => rfl⟩⟩
    case round =>
      clear HL HR2 HX2 HT2 H42 H52 HA1
      obtain ⟨i, out, at', v4, rfl, HL, HK, HLen, HA, HR, HX, HT, H4, H5, HZ⟩ := hrel
      have he := HL.out
      obtain ⟨A4, c4, rfl⟩ := Kd.R_slice H4.out
      clear HL
      cases gk with
      | zero =>
        obtain rfl : i = n := by have := HK.out; omega
        have hq := HQ.out
        rw [← he] at hq
        have HE := Lib.hid (show dataN s k en [] (out, at') = R from hq)
        clear he hq HQ
        have x1 : wr.cell? ⟨h, 1, none⟩ = some (.int .u16 k) := (HX.out.cell 1).trans rfl
        have hE := (dataN_six (s := s) (en := en) (nums := []) (names := out) (a := at') K6.out).symm.trans HE.out
        rw [HNM.out.2] at hE
        clear HE
        go_wp2_with fail
        refine (numbers_calls (count := m) (z := 4) HR.out HS.out.1 HA.out.1 HA.out.2 HS.out.2.1 HS.out.2.2 HM.out (.inr rfl)).mono ?_
        intro e w2 ht
        have hE := (show (match numsR s ((4 : Nat) : Int) en m [] at' with | .error c => .error c | .ok (nums', a') => dataT s k en out nums' a') = R from hE)
        cases hn : numsR s ((4 : Nat) : Int) en m [] at' with
        | error d =>
          rw [hn] at hE
          obtain rfl := ht.bad d hn
          exact ⟨rfl, DataEnds.err hE.symm (HT.out.only ht.only)⟩
        | ok x =>
          obtain ⟨nums, a1⟩ := x
          rw [hn] at hE
          simp only [] at hE
          have k16 : ¬ k = 16 := by have := K6.out; omega
          have k0 : ¬ (shapeOf k).1 + (shapeOf k).2.1 = 0 := by rw [K6.out]; decide
          rw [dataT_none k16 k0, dataE_eq] at hE
          have k0' : ¬ i + m = 0 := by rw [HNM.out.1, HNM.out.2] at k0; exact k0
          have d0 : ((i : Int) + (m : Int) == 0) = false := beq_eq_false_iff_ne.mpr (by omega)
          have d16 : (k == 16) = false := beq_eq_false_iff_ne.mpr k16
          obtain ⟨v5, rfl, hp, hr2⟩ := ht.good nums a1 hn
          obtain ⟨A5, n5, c5, rfl⟩ := R_anyslice hp
          have hx2 := HX.out.only HR.out ht.only
          have y5 : w2.cell? ⟨h, 5, none⟩ = some (.slice none 0 0) := (hx2.cell 5).trans rfl
          have f5 : w2.frozen? ⟨h, 5, none⟩ = false := blk_frozen hx2 5
          have h42 := R_only H4.out HR.out (by decide) ht.only
          have HX4 := Aside0.mk (hx2.set5 (.slice A5 n5 c5))
          have HR4 := Aside0.mk (hr2.setx hx2 5 (.slice A5 n5 c5))
          have HT4 := Aside0.mk ((HT.out.only ht.only).set 5 (.slice A5 n5 c5))
          have H54 := Aside0.mk (Kd.R_lower (Kd.R_set hp hx2 (by intro q hq; rw [show q = 41 by simpa [Kd.int, Kd.scalar] using hq]; decide) 5 (.slice A5 n5 c5)) HT.out.size)
          have H44 := Aside0.mk (Kd.R_set h42 hx2 (by decide) 5 (.slice A5 n5 c5))
          have x9 : w2.cell? ⟨h, 1, none⟩ = some (.int .u16 k) := (hx2.cell 1).trans rfl
          have H64 := Aside0.mk (Kd.R_nil Kd.string 9 (w2.setCell ⟨h, 5, none⟩ (.slice A5 n5 c5)) w.heap.size (fun _ => True))
          clear HR HX HT H4 H5 x1 k16 k0 k0' hr2 hp hx2 h42 ht hn
          have HR := HR4
          have HX := HX4
          have HT := HT4
          have H4 := H44
          have H5 := H54
          have z1 := HR.out.c1
          by_cases c9 : a1 = en
          · rw [if_pos c9] at hE
            have HE := Lib.hid hE
            have d9 : (a1 != en) = false := by rw [bne_eq_false_iff_eq]; exact c9
            clear hE c9
            go_wp2_with fail
            go_end0
            exact DataEnds.ok HE.out.symm HR.out HX.out H4.out H5.out H64.out HT.out
          · rw [if_neg c9] at hE
            have HE := Lib.hid hE
            have d9 : (a1 != en) = true := by rw [bne_iff_ne]; exact c9
            clear hE c9
            go_wp2_with fail
            exact ⟨rfl, DataEnds.err HE.out.symm HT.out⟩
      | succ gk =>
        unfold namesR at he
        have q1 : (i : Int) < (n : Int) := by have := HK.out; omega
        have hne := HX.out.ne HR.out
        have y1 : wr.cell? ⟨h, 1, none⟩ = some (.int .u16 k) := (HX.out.cell 1).trans rfl
        have y4 : wr.cell? ⟨h, 4, none⟩ = some (.slice A4 out.length c4) := (HX.out.cell 4).trans rfl
        go_wp2_with fail
        refine start_ (n := 17) (S := fun w' => w'.cell? ⟨h, 1, none⟩ = some (.int .u16 k) ∧ w'.cell? ⟨h, 4, none⟩ = some (.slice A4 out.length c4)) (ds := [16]) (Array.replicate 17 false) (by kernel_rfl) (by kernel_rfl) rfl ⟨y1, y4⟩ (fun hS => ?_)
        refine dpure 0 (some 34) rfl rfl (by kernel_rfl) (fun _ _ _ h => h) (by rfl) (v := ?_) (a' := ?_) ?_ ?_ ?_
        rotate_left 2
        · intro w'; go_simp; with_reducible rfl
        · simp only [Act.put, List.setIfInBounds_toArray, List.set_cons_zero, List.set_cons_succ]; rfl
        refine dpure 1 (some 35) rfl rfl (by kernel_rfl) (fun _ _ _ h => h) (by rfl) (v := ?_) (a' := ?_) ?_ ?_ ?_
        rotate_left 2
        · intro w'; go_simp; with_reducible rfl
        · simp only [Act.put, List.setIfInBounds_toArray, List.set_cons_zero, List.set_cons_succ]; rfl
        refine dpure 2 (some 36) rfl rfl (by kernel_rfl) (fun _ _ _ h => h) (by rfl) (v := ?_) (a' := ?_) ?_ ?_ ?_
        rotate_left 2
        · intro w'; go_simp; with_reducible rfl
        · simp only [Act.put, List.setIfInBounds_toArray, List.set_cons_zero, List.set_cons_succ]; rfl
        refine dpure 3 (some 37) rfl rfl (by kernel_rfl) (fun _ _ _ h => h) (by rfl) (v := ?_) (a' := ?_) ?_ ?_ ?_
        rotate_left 2
        · intro w'; go_simp; with_reducible rfl
        · simp only [Act.put, List.setIfInBounds_toArray, List.set_cons_zero, List.set_cons_succ]; rfl
        refine dtake 4 (some 38) rfl rfl (by kernel_rfl) (fun _ _ _ h => h) (by rfl) hS (v := ?_) (a' := ?_) ?_ ?_ ?_
        rotate_left 2
        · rintro w' ⟨s0,s1⟩; go_simp; with_reducible rfl
        · simp only [Act.put, List.setIfInBounds_toArray, List.set_cons_zero, List.set_cons_succ]; rfl
        refine dpure 5 (some 39) rfl rfl (by kernel_rfl) (fun _ _ _ h => h) (by rfl) (v := ?_) (a' := ?_) ?_ ?_ ?_
        rotate_left 2
        · intro w'; go_simp; with_reducible rfl
        · simp only [Act.put, List.setIfInBounds_toArray, List.set_cons_zero, List.set_cons_succ]; rfl
        refine dpure 6 (some 40) rfl rfl (by kernel_rfl) (fun _ _ _ h => h) (by rfl) (v := ?_) (a' := ?_) ?_ ?_ ?_
        rotate_left 2
        · intro w'; go_simp; with_reducible rfl
        · simp only [Act.put, List.setIfInBounds_toArray, List.set_cons_zero, List.set_cons_succ]; rfl
        refine dpure 7 (some 41) rfl rfl (by kernel_rfl) (fun _ _ _ h => h) (by rfl) (v := ?_) (a' := ?_) ?_ ?_ ?_
        rotate_left 2
        · intro w'; go_simp; with_reducible rfl
        · simp only [Act.put, List.setIfInBounds_toArray, List.set_cons_zero, List.set_cons_succ]; rfl
        refine dpure 8 (some 42) rfl rfl (by kernel_rfl) (fun _ _ _ h => h) (by rfl) (v := ?_) (a' := ?_) ?_ ?_ ?_
        rotate_left 2
        · intro w'; go_simp; with_reducible rfl
        · simp only [Act.put, List.setIfInBounds_toArray, List.set_cons_zero, List.set_cons_succ]; rfl
        refine dtake 9 (some 43) rfl rfl (by kernel_rfl) (fun _ _ _ h => h) (by rfl) hS (v := ?_) (a' := ?_) ?_ ?_ ?_
        rotate_left 2
        · rintro w' ⟨s0,s1⟩; go_simp; with_reducible rfl
        · simp only [Act.put, List.setIfInBounds_toArray, List.set_cons_zero, List.set_cons_succ]; rfl
        refine dpure 10 (some 44) rfl rfl (by kernel_rfl) (fun _ _ _ h => h) (by rfl) (v := ?_) (a' := ?_) ?_ ?_ ?_
        rotate_left 2
        · intro w'; go_simp; with_reducible rfl
        · simp only [Act.put, List.setIfInBounds_toArray, List.set_cons_zero, List.set_cons_succ]; rfl
        refine done1 11 (some 45) rfl rfl (by kernel_rfl) (by decide) (fun K hK => ?_)
        refine goesp_ Try.func87 (by kernel_rfl) rfl #[.pointer (some ⟨g, 0, none⟩), .int .u16 k, .int .i64 en] (by rfl) rfl rfl (by kernel_rfl) ?_
        refine (within_calls (w := wr.drew) HR.out HS.out.1 HA.out.1 HA.out.2 HS.out.2.1 HS.out.2.2).mono ?_
        intro e w2 ht
        have ho : Only g wr w2 := ⟨ht.only.os, ht.only.tape, ht.only.output, ht.only.size, ht.only.block⟩
        have hx2 := HX.out.only HR.out ho
        have ht2 := HT.out.only ho
        have h42 := R_only H4.out HR.out (by decide) ho
        have h52 := R_only H5.out HR.out (by decide) ho
        cases hw : withinF s k at' en with
        | error d =>
          rw [hw] at he
          obtain rfl := ht.bad d hw
          have hq := HQ.out
          rw [← he] at hq
          exact .inr ⟨_, rfl, rfl, DataEnds.err hq.symm ht2⟩
        | ok x =>
          obtain ⟨b, a2⟩ := x
          rw [hw] at he
          obtain ⟨rfl, hr2⟩ := ht.good b a2 hw
          have HL := Aside0.mk he
          have HA2 := Aside0.mk (within_at hw)
          refine .inl ⟨_, rfl, ?_⟩
          clear ho ht hw he
          have hne4 := fun (u : Kd.R Kd.string 9 w2 w.heap.size (fun _ => True) (.slice A4 out.length c4) out) => Kd.R_ne u hx2 (by decide)
          refine hK.out _ _ ⟨(hx2.cell 1).trans rfl, (hx2.cell 4).trans rfl⟩ (fun hS => ?_)
          clear hK K
          refine norm_ (a' := ?_) ?_ ?_
          rotate_left
          · simp only [Act.put, List.setIfInBounds_toArray, List.set_cons_zero, List.set_cons_succ]; rfl
          refine done1 12 (some 46) rfl rfl (by kernel_rfl) (by decide) (fun K hK => ?_)
          refine event_step (by kernel_rfl) (v := .slice (some ⟨w2.heap.size, 0, none⟩) 1 1) (w1 := w2.alloc (.cells #[.string (strOfNums b)] 9)) (by go_simp; done) ?_
          refine hK.out _ _ ⟨(blk_cell (blk_below hx2 (below_alloc (Below.refl _ _) _)) 1).trans rfl, (blk_cell (blk_below hx2 (below_alloc (Below.refl _ _) _)) 4).trans rfl⟩ (fun hS => ?_)
          clear hK K
          refine norm_ (a' := ?_) ?_ ?_
          rotate_left
          · simp only [Act.put, List.setIfInBounds_toArray, List.set_cons_zero, List.set_cons_succ]; rfl
          refine done1 13 (some 47) rfl rfl (by kernel_rfl) (by decide) (fun K hK => ?_)
          refine Kd.R_append_step Kd.string (w0 := w2) w.heap.size (by kernel_rfl) (.tmp 38) (.tmp 46) 40 9 (.string ⟨#[]⟩) 16 (by rfl) Try.underlying40 infoS rfl (by decide) (by decide) (.slice A4 out.length c4) out (strOfNums b) [.string (strOfNums b)] (fun _ => True) (fun _ => False) (by rfl) (by rfl) rfl (fun _ hk => hk.elim) (fun _ _ => trivial) h42 (Below.refl _ _) ht2.size (by have := HLen.out; have := HK.out; omega) ?_
          intro v3 w3 ho3 hb3 hg3 _
          obtain ⟨A3, n3, c3, rfl⟩ := R_anyslice ho3
          have hx3 : XAt w3 h f0 k c t _ _ _ := blk_grown hx2 hg3 (hne4 h42)
          have hr3 : RAt w3 g s a2 := blk_grown hr2 hg3 (Kd.R_ne h42 hr2 (by decide))
          have h53 := Kd.R_over h52 h42 (by decide) hg3
          have ht3 := ht2.of_grown hg3 (Kd.R_base h42)
          have y4' : w3.cell? ⟨h, 4, none⟩ = some (.slice A4 out.length c4) := (hx3.cell 4).trans rfl
          have f4 : w3.frozen? ⟨h, 4, none⟩ = false := blk_frozen hx3 4
          refine hK.out _ _ ⟨(hx3.cell 1).trans rfl, y4'⟩ (fun hS => ?_)
          clear hK K
          refine norm_ (a' := ?_) ?_ ?_
          rotate_left
          · simp only [Act.put, List.setIfInBounds_toArray, List.set_cons_zero, List.set_cons_succ]; rfl
          refine dpure 14 (some 48) rfl rfl (by kernel_rfl) (fun _ _ _ h => h) (by rfl) (v := ?_) (a' := ?_) ?_ ?_ ?_
          rotate_left 2
          · intro w'; go_simp; with_reducible rfl
          · simp only [Act.put, List.setIfInBounds_toArray, List.set_cons_zero, List.set_cons_succ]; rfl
          refine dpure 15 (some 49) rfl rfl (by kernel_rfl) (fun _ _ _ h => h) (by rfl) (v := ?_) (a' := ?_) ?_ ?_ ?_
          rotate_left 2
          · intro w'; go_simp; with_reducible rfl
          · simp only [Act.put, List.setIfInBounds_toArray, List.set_cons_zero, List.set_cons_succ]; rfl
          refine dlast 16 (Array.getElem?_eq_getElem (by decide)) (by kernel_rfl) (List.mem_singleton.2 rfl) ?_
          intro K hK
          refine dskip (w1 := w3.setCell ⟨h, 4, none⟩ (.slice A3 n3 c3)) (by kernel_rfl) (by kernel_rfl) ?_ ?_
          · go_simp
          refine hK.out _ _ (done_ (by kernel_rfl) ?_)
          clear hK K
          have HX4 := Aside0.mk (hx3.set4 (.slice A3 n3 c3))
          have HR4 := Aside0.mk (hr3.setx hx3 4 (.slice A3 n3 c3))
          have HT4 := Aside0.mk (ht3.set 4 (.slice A3 n3 c3))
          have H44 := Aside0.mk (Kd.R_set ho3 hx3 (by decide) 4 (.slice A3 n3 c3))
          have H54 := Aside0.mk (Kd.R_set h53 hx3 (by decide) 4 (.slice A3 n3 c3))
          clear hx3 hr3 h53 ht3 ho3 hb3 hg3 hx2 ht2 h42 h52 hr2 hne4 y4' y1 y4 hne f4
          go_wp2_with fail
          go_roundg gk
          case measure => omega
          case rel => exact ⟨i + 1, _, a2, _, by go_num, HL, ⟨by have := HK.out; omega⟩, ⟨by have := HLen.out; rw [List.length_append, List.length_singleton]; omega⟩, HA2, HR4, HX4, HT4, H44, H54, ⟨fun h => absurd h (by omega)⟩⟩
  · rw [if_neg k6] at hR
    have d6 : (k != 6) = true := by rw [bne_iff_ne]; exact k6
    have d7 : (k == 6) = false := beq_eq_false_iff_ne.mpr k6
    have K6 := Lib.hid k6
    clear k6
    go_enter Try.func83, Try.ntmps83
    go_wp2_with fail
    refine (Shape_calls k _).mono ?_
    rw [HSh.out]
    rintro e w1 ⟨rfl, rfl⟩
    go_wp2_with fail
    refine (numbers_calls (count := m) (z := 2) HR.out HS.out.1 HA.out.1 HA.out.2 HS.out.2.1 HS.out.2.2 HM.out (.inl rfl)).mono ?_
    intro e w2 ht
    cases hn : numsR s 2 en m [] a with
    | error d =>
      rw [hn] at hR
      obtain rfl := ht.bad d hn
      exact ⟨rfl, DataEnds.err hR.symm (HT.out.only ht.only)⟩
    | ok x =>
      obtain ⟨nums, a1⟩ := x
      rw [hn] at hR
      obtain ⟨v5, rfl, hp, hr2⟩ := ht.good nums a1 hn
      obtain ⟨A5, c5, rfl⟩ := Kd.R_slice hp
      have hx2 := HX.out.only HR.out ht.only
      have y5 : w2.cell? ⟨h, 5, none⟩ = some (.slice none 0 0) := (hx2.cell 5).trans rfl
      have f5 : w2.frozen? ⟨h, 5, none⟩ = false := blk_frozen hx2 5
      have HE := Lib.hid hR
      have HA1 := Lib.hid (numsR_at _ hn HA.out)
      have HX2 := Aside0.mk (hx2.set5 (.slice A5 nums.length c5))
      have HR2 := Aside0.mk (hr2.setx hx2 5 (.slice A5 nums.length c5))
      have HT2 := Aside0.mk ((HT.out.only ht.only).set 5 (.slice A5 nums.length c5))
      have H52 := Aside0.mk (Kd.R_set hp hx2 (by intro q hq; rw [show q = 41 by simpa [Kd.int, Kd.scalar] using hq]; decide) 5 (.slice A5 nums.length c5))
      have H42 := Aside0.mk (Kd.R_nil Kd.string 9 (w2.setCell ⟨h, 5, none⟩ (.slice A5 nums.length c5)) w.heap.size (fun _ => True))
      clear hr2 hx2 hp ht x1 hR hn
      go_wp2_with fail
      have HQ := Aside0.mk (show (match namesR s k en n [] a1 with | .error c => .error c | .ok x => dataN s k en nums x) = R by rw [← HE.out]; unfold dataM; rw [HNM.out.1])
      obtain ⟨RN, hRN⟩ : ∃ RN, namesR s k en n [] a1 = RN := ⟨_, rfl⟩
      rw [hRN] at HQ
      have HL := Aside0.mk hRN
      clear hRN HE
      go_loopg [32] n (fun kq v32 w' => ∃ (i : Nat) (out : List ByteArray) (at' : Int) (v4 : Value), v32 = .int .i64 i ∧ Aside0 (namesR s k en kq out at' = RN) ∧ Aside0 (kq + i = n) ∧ Aside0 (out.length = i) ∧ Aside0 (0 ≤ at' ∧ at' ≤ s.size) ∧ Aside0 (RAt w' g s at') ∧ Aside0 (XAt w' h f0 k c t v4 (.slice A5 nums.length c5) (.slice none 0 0)) ∧ Aside0 (Two g h w w') ∧ Aside0 (Kd.R Kd.string 9 w' w.heap.size (fun _ => True) v4 out) ∧ Aside0 (Kd.R (Kd.int .u32) 41 w' w.heap.size (fun _ => True) (.slice A5 nums.length c5) nums) ∧ Aside0 (i = 0 → v4 = (.slice none 0 0)))
      case atStart => exact ⟨0, [], a1, (.slice none 0 0), rfl, HL, ⟨rfl⟩, ⟨rfl⟩, ⟨HA1.out⟩, HR2, HX2, HT2, H42, H52, ⟨fun _ => rfl⟩⟩
      case round =>
        clear HL HR2 HX2 HT2 H42 H52 HA1
        obtain ⟨i, out, at', v4, rfl, HL, HK, HLen, HA, HR, HX, HT, H4, H5, HZ⟩ := hrel
        have he := HL.out
        obtain ⟨A4, c4, rfl⟩ := Kd.R_slice H4.out
        clear HL
        cases gk with
        | zero =>
          obtain rfl : i = n := by have := HK.out; omega
          have hq := HQ.out
          rw [← he] at hq
          have HE := Lib.hid (show dataN s k en nums (out, at') = R from hq)
          clear he hq HQ
          have x1 : wr.cell? ⟨h, 1, none⟩ = some (.int .u16 k) := (HX.out.cell 1).trans rfl
          have hE := (dataN_not (s := s) (en := en) (nums := nums) (names := out) (a := at') K6.out).symm.trans HE.out
          clear HE
          by_cases k16 : k = 16
          · rw [dataT_txt k16] at hE
            have d16 : (k == 16) = true := beq_iff_eq.mpr k16
            have i0 : i = 0 := by have := HNM.out.1; rw [k16] at this; exact this.symm
            have hv4 := HZ.out i0
            injection hv4 with hv1 hv2 hv3
            obtain rfl : out = [] := List.length_eq_zero_iff.1 hv2
            subst hv1
            subst hv3
            clear hv2
            obtain ⟨RT, hRT⟩ : ∃ RT, textsR s en ((en - at').toNat + 1) [] at' = RT := ⟨_, rfl⟩
            rw [hRT] at hE
            have HE := Lib.hid hE
            have HL := Aside0.mk hRT
            have H6 := Aside0.mk (Kd.R_nil Kd.string 9 wr w.heap.size (fun _ => True))
            clear hE hRT k16
            go_wp2_with fail
            clear x1 H4
            go_loopg [9] ((en - at').toNat + 1) (fun kq v9 w' => ∃ (txt : List ByteArray) (p : Int) (v6 : Value), Aside0 (textsR s en kq txt p = RT) ∧ Aside0 ((en - p).toNat < kq) ∧ Aside0 (0 ≤ p ∧ p ≤ s.size) ∧ Aside0 ((txt.length : Int) ≤ p) ∧ Aside0 (RAt w' g s p) ∧ Aside0 (XAt w' h f0 k c t (.slice none 0 0) (.slice A5 nums.length c5) v6) ∧ Aside0 (Two g h w w') ∧ Aside0 (Kd.R Kd.string 9 w' w.heap.size (fun _ => True) v6 txt) ∧ Aside0 (Kd.R (Kd.int .u32) 41 w' w.heap.size (fun _ => True) (.slice A5 nums.length c5) nums))
            case atStart => exact ⟨[], at', (.slice none 0 0), HL, ⟨Nat.lt_succ_self _⟩, HA, ⟨by have := HA.out; simp; omega⟩, HR, HX, HT, H6, H5⟩
            case round =>
              clear HL HR HX HT H5 H6 HA
              obtain ⟨txt, p, v6, HL, HK2, HA, HTl, HR, HX, HT, H6, H5⟩ := hrel
              obtain ⟨gk, rfl⟩ : ∃ q, gk = q + 1 := ⟨gk - 1, by have := HK2.out; omega⟩
              have hl := HL.out
              unfold textsR at hl
              clear HL
              have z1 := HR.out.c1
              obtain ⟨a0, a9⟩ := HA.out
              have q9 : p ≤ 1000000 := by have := HS.out.1; omega
              by_cases c1 : p < en
              · rw [if_pos c1] at hl
                have d1 : decide (p < en) = true := decide_eq_true c1
                cases h1 : getF s p 1 with
                | none =>
                  rw [h1] at hl
                  have H1 := Lib.hid h1
                  have hE := HE.out
                  rw [← hl] at hE
                  have HE := Lib.hid hE
                  clear hl h1 hE
                  go_wp2_with fail
                  refine (num_no HR.out HS.out.1 H1.out).mono ?_
                  rintro e w2 ⟨rfl, ho⟩
                  exact ⟨rfl, DataEnds.err HE.out.symm (HT.out.only ho)⟩
                | some m1 =>
                  rw [h1] at hl
                  simp only [] at hl
                  have H1 := Lib.hid h1
                  obtain ⟨m10, m11, _, m12⟩ := get1 h1
                  have hwm : IntKind.i64.wrap m1 = m1 := by rw [IntKind.wrap_i64]; omega
                  have C1 := Lib.hid c1
                  clear h1 c1
                  go_wp2_with fail
                  refine (num_yes HR.out HS.out.1 H1.out).mono ?_
                  rintro e w2 ⟨rfl, hr, ho⟩
                  have HX2 := Aside0.mk (HX.out.only HR.out ho)
                  have HT2 := Aside0.mk (HT.out.only ho)
                  have H62 := Aside0.mk (R_only H6.out HR.out (by decide) ho)
                  have H52 := Aside0.mk (R_only H5.out HR.out (by decide) ho)
                  have HR2 := Aside0.mk hr
                  have z2 := hr.c1
                  clear z1 hr ho HR HX HT H6 H5
                  by_cases c2 : en - (p + 1) < m1
                  · rw [if_pos c2] at hl
                    have d2 : decide (en - (p + 1) < m1) = true := decide_eq_true c2
                    have hE := HE.out
                    rw [← hl] at hE
                    have HE := Lib.hid hE
                    clear hl hE c2
                    go_wp2_with fail
                    exact ⟨rfl, DataEnds.err HE.out.symm HT2.out⟩
                  rw [if_neg c2] at hl
                  have d2 : decide (en - (p + 1) < m1) = false := decide_eq_false c2
                  obtain ⟨A6, n6, c6, rfl⟩ := R_anyslice H62.out
                  have y6 : w2.cell? ⟨h, 6, none⟩ = some (.slice A6 n6 c6) := (HX2.out.cell 6).trans rfl
                  clear c2
                  go_wp2_with fail
                  refine start_ (n := 13) (S := fun w' => w'.cell? ⟨h, 6, none⟩ = some (.slice A6 n6 c6)) (ds := [12]) (Array.replicate 13 false) (by kernel_rfl) (by kernel_rfl) rfl (by exact y6) (fun hS => ?_)
                  refine dpure 0 (some 87) rfl rfl (by kernel_rfl) (fun _ _ _ h => h) (by rfl) (v := ?_) (a' := ?_) ?_ ?_ ?_
                  rotate_left 2
                  · intro w'; go_simp; with_reducible rfl
                  · simp only [Act.put, List.setIfInBounds_toArray, List.set_cons_zero, List.set_cons_succ]; rfl
                  refine dpure 1 (some 88) rfl rfl (by kernel_rfl) (fun _ _ _ h => h) (by rfl) (v := ?_) (a' := ?_) ?_ ?_ ?_
                  rotate_left 2
                  · intro w'; go_simp; with_reducible rfl
                  · simp only [Act.put, List.setIfInBounds_toArray, List.set_cons_zero, List.set_cons_succ]; rfl
                  refine dpure 2 (some 89) rfl rfl (by kernel_rfl) (fun _ _ _ h => h) (by rfl) (v := ?_) (a' := ?_) ?_ ?_ ?_
                  rotate_left 2
                  · intro w'; go_simp; with_reducible rfl
                  · simp only [Act.put, List.setIfInBounds_toArray, List.set_cons_zero, List.set_cons_succ]; rfl
                  refine dpure 3 (some 90) rfl rfl (by kernel_rfl) (fun _ _ _ h => h) (by rfl) (v := ?_) (a' := ?_) ?_ ?_ ?_
                  rotate_left 2
                  · intro w'; go_simp; with_reducible rfl
                  · simp only [Act.put, List.setIfInBounds_toArray, List.set_cons_zero, List.set_cons_succ]; rfl
                  refine dtake 4 (some 91) rfl rfl (by kernel_rfl) (fun _ _ _ h => h) (by rfl) hS (v := ?_) (a' := ?_) ?_ ?_ ?_
                  rotate_left 2
                  · rintro w' s0; go_simp; with_reducible rfl
                  · simp only [Act.put, List.setIfInBounds_toArray, List.set_cons_zero, List.set_cons_succ]; rfl
                  refine dpure 5 (some 92) rfl rfl (by kernel_rfl) (fun _ _ _ h => h) (by rfl) (v := ?_) (a' := ?_) ?_ ?_ ?_
                  rotate_left 2
                  · intro w'; go_simp; with_reducible rfl
                  · simp only [Act.put, List.setIfInBounds_toArray, List.set_cons_zero, List.set_cons_succ]; rfl
                  refine dpure 6 (some 93) rfl rfl (by kernel_rfl) (fun _ _ _ h => h) (by rfl) (v := ?_) (a' := ?_) ?_ ?_ ?_
                  rotate_left 2
                  · intro w'; go_simp; with_reducible rfl
                  · simp only [Act.put, List.setIfInBounds_toArray, List.set_cons_zero, List.set_cons_succ]; rfl
                  cases h3 : partF s (p + 1) m1 with
                  | none =>
                    rw [h3] at hl
                    have hE := HE.out
                    rw [← hl] at hE
                    refine done1 7 (some 94) rfl rfl (by kernel_rfl) (by decide) (fun K hK => ?_)
                    refine goesp_ Try.func67 (by kernel_rfl) rfl #[.pointer (some ⟨g, 0, none⟩), .int .i64 m1] (by rfl) rfl rfl (by kernel_rfl) ?_
                    refine (text_no (w := w2.drew) HR2.out HS.out.1 h3).mono ?_
                    rintro e w3 ⟨rfl, ho⟩
                    exact .inr ⟨_, rfl, rfl, DataEnds.err hE.symm (HT2.out.drew.only ho)⟩
                  | some tx =>
                    rw [h3] at hl
                    have HL := Aside0.mk hl
                    have HA2 := Aside0.mk (show 0 ≤ p + 1 + m1 ∧ p + 1 + m1 ≤ s.size by have := part_at h3; omega)
                    clear hl
                    refine done1 7 (some 94) rfl rfl (by kernel_rfl) (by decide) (fun K hK => ?_)
                    refine goes_ Try.func67 (by kernel_rfl) rfl #[.pointer (some ⟨g, 0, none⟩), .int .i64 m1] (by rfl) rfl rfl (by kernel_rfl) ?_
                    refine (text_yes (w := w2.drew) HR2.out HS.out.1 h3).mono ?_
                    rintro e w4 ⟨rfl, hr2, ho⟩
                    refine ⟨_, rfl, ?_⟩
                    have hx2 := XAt.only (w := w2.drew) HX2.out HR2.out ho
                    have ht2 := HT2.out.drew.only ho
                    have h62 := R_only (w := w2.drew) (Kd.R_drew H62.out) HR2.out (by decide) ho
                    have h52 := R_only (w := w2.drew) (Kd.R_drew H52.out) HR2.out (by decide) ho
                    refine hK.out _ _ ((hx2.cell 6).trans rfl) (fun hS => ?_)
                    clear hK K
                    refine norm_ (a' := ?_) ?_ ?_
                    rotate_left
                    · simp only [Act.put, List.setIfInBounds_toArray, List.set_cons_zero, List.set_cons_succ]; rfl
                    refine done1 8 (some 95) rfl rfl (by kernel_rfl) (by decide) (fun K hK => ?_)
                    refine event_step (by kernel_rfl) (v := .slice (some ⟨w4.heap.size, 0, none⟩) 1 1) (w1 := w4.alloc (.cells #[.string tx] 9)) (by go_simp; done) ?_
                    refine hK.out _ _ ((blk_cell (blk_below hx2 (below_alloc (Below.refl _ _) _)) 6).trans rfl) (fun hS => ?_)
                    clear hK K
                    refine norm_ (a' := ?_) ?_ ?_
                    rotate_left
                    · simp only [Act.put, List.setIfInBounds_toArray, List.set_cons_zero, List.set_cons_succ]; rfl
                    refine done1 9 (some 96) rfl rfl (by kernel_rfl) (by decide) (fun K hK => ?_)
                    refine Kd.R_append_step Kd.string (w0 := w4) w.heap.size (by kernel_rfl) (.tmp 91) (.tmp 95) 40 9 (.string ⟨#[]⟩) 16 (by rfl) Try.underlying40 infoS rfl (by decide) (by decide) (.slice A6 n6 c6) txt tx [.string tx] (fun _ => True) (fun _ => False) (by rfl) (by rfl) rfl (fun _ hk => hk.elim) (fun _ _ => trivial) h62 (Below.refl _ _) ht2.size (by have := HTl.out; omega) ?_
                    intro v3 w3 ho3 hb3 hg3 _
                    obtain ⟨A3, n3, c3, rfl⟩ := R_anyslice ho3
                    have hx3 : XAt w3 h f0 k c t _ _ _ := blk_grown hx2 hg3 (Kd.R_ne h62 hx2 (by decide))
                    have hr3 : RAt w3 g s (p + 1 + m1) := blk_grown hr2 hg3 (Kd.R_ne h62 hr2 (by decide))
                    have h53 := Kd.R_over h52 h62 (by decide) hg3
                    have ht3 := ht2.of_grown hg3 (Kd.R_base h62)
                    have f6 : w3.frozen? ⟨h, 6, none⟩ = false := blk_frozen hx3 6
                    have y6' : w3.cell? ⟨h, 6, none⟩ = some (.slice A6 n6 c6) := (hx3.cell 6).trans rfl
                    refine hK.out _ _ y6' (fun hS => ?_)
                    clear hK K
                    refine norm_ (a' := ?_) ?_ ?_
                    rotate_left
                    · simp only [Act.put, List.setIfInBounds_toArray, List.set_cons_zero, List.set_cons_succ]; rfl
                    refine dpure 10 (some 97) rfl rfl (by kernel_rfl) (fun _ _ _ h => h) (by rfl) (v := ?_) (a' := ?_) ?_ ?_ ?_
                    rotate_left 2
                    · intro w'; go_simp; with_reducible rfl
                    · simp only [Act.put, List.setIfInBounds_toArray, List.set_cons_zero, List.set_cons_succ]; rfl
                    refine dpure 11 (some 98) rfl rfl (by kernel_rfl) (fun _ _ _ h => h) (by rfl) (v := ?_) (a' := ?_) ?_ ?_ ?_
                    rotate_left 2
                    · intro w'; go_simp; with_reducible rfl
                    · simp only [Act.put, List.setIfInBounds_toArray, List.set_cons_zero, List.set_cons_succ]; rfl
                    refine dlast 12 (Array.getElem?_eq_getElem (by decide)) (by kernel_rfl) (List.mem_singleton.2 rfl) ?_
                    intro K hK
                    refine dskip (w1 := w3.setCell ⟨h, 6, none⟩ (.slice A3 n3 c3)) (by kernel_rfl) (by kernel_rfl) ?_ ?_
                    · go_simp
                    refine hK.out _ _ (done_ (by kernel_rfl) ?_)
                    clear hK K
                    have HX := Aside0.mk (hx3.set6 (.slice A3 n3 c3))
                    have HR := Aside0.mk (hr3.setx hx3 6 (.slice A3 n3 c3))
                    have HT := Aside0.mk (ht3.set 6 (.slice A3 n3 c3))
                    have H6 := Aside0.mk (Kd.R_set ho3 hx3 (by decide) 6 (.slice A3 n3 c3))
                    have H5 := Aside0.mk (Kd.R_set h53 hx3 (by decide) 6 (.slice A3 n3 c3))
                    clear hx3 hr3 h53 ht3 ho3 hb3 hg3 hx2 ht2 h62 h52 hr2 f6
                    go_wp2_with fail
                    go_roundg gk
                    case measure => omega
                    case rel => exact ⟨_, p + 1 + m1, _, HL, ⟨by have := HK2.out; have := C1.out; omega⟩, HA2, ⟨by have := HTl.out; rw [List.length_append, List.length_singleton]; omega⟩, HR, HX, HT, H6, H5⟩
              · rw [if_neg c1] at hl
                have d1 : decide (p < en) = false := decide_eq_false c1
                have hE := HE.out
                rw [← hl] at hE
                simp only [dataE_eq] at hE
                have H4 := Aside0.mk (Kd.R_nil Kd.string 9 wr w.heap.size (fun _ => True))
                clear hl c1 z1
                have z1 := HR.out.c1
                by_cases c9 : p = en
                · rw [if_pos c9] at hE
                  have HE := Lib.hid hE
                  have d9 : (p != en) = false := by rw [bne_eq_false_iff_eq]; exact c9
                  clear hE c9
                  go_wp2_with fail
                  go_end0
                  exact DataEnds.ok HE.out.symm HR.out HX.out H4.out H5.out H6.out HT.out
                · rw [if_neg c9] at hE
                  have HE := Lib.hid hE
                  have d9 : (p != en) = true := by rw [bne_iff_ne]; exact c9
                  clear hE c9
                  go_wp2_with fail
                  exact ⟨rfl, DataEnds.err HE.out.symm HT.out⟩
          have d16 : (k == 16) = false := beq_eq_false_iff_ne.mpr k16
          have H6 := Aside0.mk (Kd.R_nil Kd.string 9 wr w.heap.size (fun _ => True))
          by_cases k0 : i + m = 0
          · rw [dataT_free k16 (by rw [HNM.out.1, HNM.out.2]; exact k0)] at hE
            have i0 : i = 0 := by omega
            have hv4 := HZ.out i0
            injection hv4 with hv1 hv2 hv3
            obtain rfl : out = [] := List.length_eq_zero_iff.1 hv2
            subst hv1
            subst hv3
            clear hv2
            have d0 : ((i : Int) + (m : Int) == 0) = true := beq_iff_eq.mpr (by omega)
            have hsub : IntKind.i64.wrap (en - at') = en - at' := by have := HA.out; have := HS.out; rw [IntKind.wrap_i64]; omega
            have y6 : wr.cell? ⟨h, 6, none⟩ = some (.slice none 0 0) := (HX.out.cell 6).trans rfl
            have z1 := HR.out.c1
            clear k16 k0 i0 H4
            go_wp2_with fail
            refine start_ (n := 18) (S := fun w' => w'.cell? ⟨h, 6, none⟩ = some (.slice none 0 0)) (ds := [17]) (Array.replicate 18 false) (by kernel_rfl) (by kernel_rfl) rfl (by exact y6) (fun hS => ?_)
            refine dpure 0 (some 104) rfl rfl (by kernel_rfl) (fun _ _ _ h => h) (by rfl) (v := ?_) (a' := ?_) ?_ ?_ ?_
            rotate_left 2
            · intro w'; go_simp; with_reducible rfl
            · simp only [Act.put, List.setIfInBounds_toArray, List.set_cons_zero, List.set_cons_succ]; rfl
            refine dpure 1 (some 105) rfl rfl (by kernel_rfl) (fun _ _ _ h => h) (by rfl) (v := ?_) (a' := ?_) ?_ ?_ ?_
            rotate_left 2
            · intro w'; go_simp; with_reducible rfl
            · simp only [Act.put, List.setIfInBounds_toArray, List.set_cons_zero, List.set_cons_succ]; rfl
            refine dpure 2 (some 106) rfl rfl (by kernel_rfl) (fun _ _ _ h => h) (by rfl) (v := ?_) (a' := ?_) ?_ ?_ ?_
            rotate_left 2
            · intro w'; go_simp; with_reducible rfl
            · simp only [Act.put, List.setIfInBounds_toArray, List.set_cons_zero, List.set_cons_succ]; rfl
            refine dpure 3 (some 107) rfl rfl (by kernel_rfl) (fun _ _ _ h => h) (by rfl) (v := ?_) (a' := ?_) ?_ ?_ ?_
            rotate_left 2
            · intro w'; go_simp; with_reducible rfl
            · simp only [Act.put, List.setIfInBounds_toArray, List.set_cons_zero, List.set_cons_succ]; rfl
            refine dtake 4 (some 108) rfl rfl (by kernel_rfl) (fun _ _ _ h => h) (by rfl) hS (v := ?_) (a' := ?_) ?_ ?_ ?_
            rotate_left 2
            · rintro w' s0; go_simp; with_reducible rfl
            · simp only [Act.put, List.setIfInBounds_toArray, List.set_cons_zero, List.set_cons_succ]; rfl
            refine dpure 5 (some 109) rfl rfl (by kernel_rfl) (fun _ _ _ h => h) (by rfl) (v := ?_) (a' := ?_) ?_ ?_ ?_
            rotate_left 2
            · intro w'; go_simp; with_reducible rfl
            · simp only [Act.put, List.setIfInBounds_toArray, List.set_cons_zero, List.set_cons_succ]; rfl
            refine dpure 6 (some 110) rfl rfl (by kernel_rfl) (fun _ _ _ h => h) (by rfl) (v := ?_) (a' := ?_) ?_ ?_ ?_
            rotate_left 2
            · intro w'; go_simp; with_reducible rfl
            · simp only [Act.put, List.setIfInBounds_toArray, List.set_cons_zero, List.set_cons_succ]; rfl
            refine dpure 7 (some 111) rfl rfl (by kernel_rfl) (fun _ _ _ h => h) (by rfl) (v := ?_) (a' := ?_) ?_ ?_ ?_
            rotate_left 2
            · intro w'; go_simp; with_reducible rfl
            · simp only [Act.put, List.setIfInBounds_toArray, List.set_cons_zero, List.set_cons_succ]; rfl
            refine dpure 8 (some 112) rfl rfl (by kernel_rfl) (fun _ _ _ h => h) (by rfl) (v := ?_) (a' := ?_) ?_ ?_ ?_
            rotate_left 2
            · intro w'; go_simp; with_reducible rfl
            · simp only [Act.put, List.setIfInBounds_toArray, List.set_cons_zero, List.set_cons_succ]; rfl
            refine dpure 9 (some 113) rfl rfl (by kernel_rfl) (fun _ _ _ h => h) (by rfl) (v := ?_) (a' := ?_) ?_ ?_ ?_
            rotate_left 2
            · intro w'; go_simp; with_reducible rfl
            · simp only [Act.put, List.setIfInBounds_toArray, List.set_cons_zero, List.set_cons_succ]; rfl
            refine done1 10 (some 114) rfl rfl (by kernel_rfl) (by decide) (fun K hK => ?_)
            refine event_step (by kernel_rfl) (v := .int .i64 at') (w1 := wr.drew) (by go_simp; done) ?_
            refine hK.out _ _ y6 (fun hS => ?_)
            clear hK K
            refine norm_ (a' := ?_) ?_ ?_
            rotate_left
            · simp only [Act.put, List.setIfInBounds_toArray, List.set_cons_zero, List.set_cons_succ]; rfl
            refine dpure 11 (some 115) rfl rfl (by kernel_rfl) (fun _ _ _ h => h) (by rfl) (v := .int .i64 (en - at')) (a' := ?_) ?_ ?_ ?_
            rotate_left 1
            · intro w'; go_simp; first | done | rw [hsub]
            · simp only [Act.put, List.setIfInBounds_toArray, List.set_cons_zero, List.set_cons_succ]; rfl
            cases h3 : partF s at' (en - at') with
            | none =>
              rw [h3] at hE
              refine done1 12 (some 116) rfl rfl (by kernel_rfl) (by decide) (fun K hK => ?_)
              refine goesp_ Try.func67 (by kernel_rfl) rfl #[.pointer (some ⟨g, 0, none⟩), .int .i64 (en - at')] (by rfl) rfl rfl (by kernel_rfl) ?_
              refine (text_no (w := wr.drew) HR.out HS.out.1 h3).mono ?_
              rintro e w3 ⟨rfl, ho⟩
              exact .inr ⟨_, rfl, rfl, DataEnds.err hE.symm (HT.out.drew.only ho)⟩
            | some tx =>
              rw [h3] at hE
              have HE := Lib.hid ((if_pos rfl).symm.trans hE : Except.ok (([], nums, [tx]), en) = R)
              clear hE
              refine done1 12 (some 116) rfl rfl (by kernel_rfl) (by decide) (fun K hK => ?_)
              refine goes_ Try.func67 (by kernel_rfl) rfl #[.pointer (some ⟨g, 0, none⟩), .int .i64 (en - at')] (by rfl) rfl rfl (by kernel_rfl) ?_
              refine (text_yes (w := wr.drew) HR.out HS.out.1 h3).mono ?_
              rintro e w4 ⟨rfl, hr2, ho⟩
              refine ⟨_, rfl, ?_⟩
              rw [show at' + (en - at') = en by omega] at hr2
              have hx2 := XAt.only (w := wr.drew) HX.out HR.out ho
              have ht2 := HT.out.drew.only ho
              have h62 := Kd.R_nil Kd.string 9 w4 w.heap.size (fun _ => True)
              have h52 := R_only (w := wr.drew) (Kd.R_drew H5.out) HR.out (by decide) ho
              refine hK.out _ _ ((hx2.cell 6).trans rfl) (fun hS => ?_)
              clear hK K
              refine norm_ (a' := ?_) ?_ ?_
              rotate_left
              · simp only [Act.put, List.setIfInBounds_toArray, List.set_cons_zero, List.set_cons_succ]; rfl
              refine done1 13 (some 117) rfl rfl (by kernel_rfl) (by decide) (fun K hK => ?_)
              refine event_step (by kernel_rfl) (v := .slice (some ⟨w4.heap.size, 0, none⟩) 1 1) (w1 := w4.alloc (.cells #[.string tx] 9)) (by go_simp; done) ?_
              refine hK.out _ _ ((blk_cell (blk_below hx2 (below_alloc (Below.refl _ _) _)) 6).trans rfl) (fun hS => ?_)
              clear hK K
              refine norm_ (a' := ?_) ?_ ?_
              rotate_left
              · simp only [Act.put, List.setIfInBounds_toArray, List.set_cons_zero, List.set_cons_succ]; rfl
              refine done1 14 (some 118) rfl rfl (by kernel_rfl) (by decide) (fun K hK => ?_)
              refine Kd.R_append_step Kd.string (w0 := w4) w.heap.size (by kernel_rfl) (.tmp 108) (.tmp 117) 40 9 (.string ⟨#[]⟩) 16 (by rfl) Try.underlying40 infoS rfl (by decide) (by decide) (.slice none 0 0) [] tx [.string tx] (fun _ => True) (fun _ => False) (by rfl) (by rfl) rfl (fun _ hk => hk.elim) (fun _ _ => trivial) h62 (Below.refl _ _) ht2.size (by decide) ?_
              intro v3 w3 ho3 hb3 hg3 _
              obtain ⟨A3, n3, c3, rfl⟩ := R_anyslice ho3
              have hx3 : XAt w3 h f0 k c t _ _ _ := blk_grown hx2 hg3 (Kd.R_ne h62 hx2 (by decide))
              have hr3 : RAt w3 g s (en) := blk_grown hr2 hg3 (Kd.R_ne h62 hr2 (by decide))
              have h53 := Kd.R_over h52 h62 (by decide) hg3
              have ht3 := ht2.of_grown hg3 (Kd.R_base h62)
              have f6 : w3.frozen? ⟨h, 6, none⟩ = false := blk_frozen hx3 6
              have y6' : w3.cell? ⟨h, 6, none⟩ = some (.slice none 0 0) := (hx3.cell 6).trans rfl
              refine hK.out _ _ y6' (fun hS => ?_)
              clear hK K
              refine norm_ (a' := ?_) ?_ ?_
              rotate_left
              · simp only [Act.put, List.setIfInBounds_toArray, List.set_cons_zero, List.set_cons_succ]; rfl
              refine dpure 15 (some 119) rfl rfl (by kernel_rfl) (fun _ _ _ h => h) (by rfl) (v := ?_) (a' := ?_) ?_ ?_ ?_
              rotate_left 2
              · intro w'; go_simp; with_reducible rfl
              · simp only [Act.put, List.setIfInBounds_toArray, List.set_cons_zero, List.set_cons_succ]; rfl
              refine dpure 16 (some 120) rfl rfl (by kernel_rfl) (fun _ _ _ h => h) (by rfl) (v := ?_) (a' := ?_) ?_ ?_ ?_
              rotate_left 2
              · intro w'; go_simp; with_reducible rfl
              · simp only [Act.put, List.setIfInBounds_toArray, List.set_cons_zero, List.set_cons_succ]; rfl
              refine dlast 17 (Array.getElem?_eq_getElem (by decide)) (by kernel_rfl) (List.mem_singleton.2 rfl) ?_
              intro K hK
              refine dskip (w1 := w3.setCell ⟨h, 6, none⟩ (.slice A3 n3 c3)) (by kernel_rfl) (by kernel_rfl) ?_ ?_
              · go_simp
              refine hK.out _ _ (done_ (by kernel_rfl) ?_)
              clear hK K
              have HX := Aside0.mk (hx3.set6 (.slice A3 n3 c3))
              have HR := Aside0.mk (hr3.setx hx3 6 (.slice A3 n3 c3))
              have HT := Aside0.mk (ht3.set 6 (.slice A3 n3 c3))
              have H6 := Aside0.mk (Kd.R_set ho3 hx3 (by decide) 6 (.slice A3 n3 c3))
              have H5 := Aside0.mk (Kd.R_set h53 hx3 (by decide) 6 (.slice A3 n3 c3))
              clear hx3 hr3 h53 ht3 ho3 hb3 hg3 hx2 ht2 h62 h52 hr2 f6
              have H4 := Aside0.mk (Kd.R_nil Kd.string 9 (w3.setCell ⟨h, 6, none⟩ (.slice A3 n3 c3)) w.heap.size (fun _ => True))
              have z1 := HR.out.c1
              have d9 : (en != en) = false := by rw [bne_eq_false_iff_eq]
              clear y6 y6'
              go_wp2_with fail
              go_end0
              exact DataEnds.ok HE.out.symm HR.out HX.out H4.out H5.out H6.out HT.out
          · rw [dataT_none k16 (by rw [HNM.out.1, HNM.out.2]; exact k0), dataE_eq] at hE
            have d0 : ((i : Int) + (m : Int) == 0) = false := beq_eq_false_iff_ne.mpr (by omega)
            clear k16 k0
            have z1 := HR.out.c1
            by_cases c9 : at' = en
            · rw [if_pos c9] at hE
              have HE := Lib.hid hE
              have d9 : (at' != en) = false := by rw [bne_eq_false_iff_eq]; exact c9
              clear hE c9
              go_wp2_with fail
              go_end0
              exact DataEnds.ok HE.out.symm HR.out HX.out H4.out H5.out H6.out HT.out
            · rw [if_neg c9] at hE
              have HE := Lib.hid hE
              have d9 : (at' != en) = true := by rw [bne_iff_ne]; exact c9
              clear hE c9
              go_wp2_with fail
              exact ⟨rfl, DataEnds.err HE.out.symm HT.out⟩
        | succ gk =>
          unfold namesR at he
          have q1 : (i : Int) < (n : Int) := by have := HK.out; omega
          have hne := HX.out.ne HR.out
          have y1 : wr.cell? ⟨h, 1, none⟩ = some (.int .u16 k) := (HX.out.cell 1).trans rfl
          have y4 : wr.cell? ⟨h, 4, none⟩ = some (.slice A4 out.length c4) := (HX.out.cell 4).trans rfl
          go_wp2_with fail
          refine start_ (n := 17) (S := fun w' => w'.cell? ⟨h, 1, none⟩ = some (.int .u16 k) ∧ w'.cell? ⟨h, 4, none⟩ = some (.slice A4 out.length c4)) (ds := [16]) (Array.replicate 17 false) (by kernel_rfl) (by kernel_rfl) rfl ⟨y1, y4⟩ (fun hS => ?_)
          refine dpure 0 (some 34) rfl rfl (by kernel_rfl) (fun _ _ _ h => h) (by rfl) (v := ?_) (a' := ?_) ?_ ?_ ?_
          rotate_left 2
          · intro w'; go_simp; with_reducible rfl
          · simp only [Act.put, List.setIfInBounds_toArray, List.set_cons_zero, List.set_cons_succ]; rfl
          refine dpure 1 (some 35) rfl rfl (by kernel_rfl) (fun _ _ _ h => h) (by rfl) (v := ?_) (a' := ?_) ?_ ?_ ?_
          rotate_left 2
          · intro w'; go_simp; with_reducible rfl
          · simp only [Act.put, List.setIfInBounds_toArray, List.set_cons_zero, List.set_cons_succ]; rfl
          refine dpure 2 (some 36) rfl rfl (by kernel_rfl) (fun _ _ _ h => h) (by rfl) (v := ?_) (a' := ?_) ?_ ?_ ?_
          rotate_left 2
          · intro w'; go_simp; with_reducible rfl
          · simp only [Act.put, List.setIfInBounds_toArray, List.set_cons_zero, List.set_cons_succ]; rfl
          refine dpure 3 (some 37) rfl rfl (by kernel_rfl) (fun _ _ _ h => h) (by rfl) (v := ?_) (a' := ?_) ?_ ?_ ?_
          rotate_left 2
          · intro w'; go_simp; with_reducible rfl
          · simp only [Act.put, List.setIfInBounds_toArray, List.set_cons_zero, List.set_cons_succ]; rfl
          refine dtake 4 (some 38) rfl rfl (by kernel_rfl) (fun _ _ _ h => h) (by rfl) hS (v := ?_) (a' := ?_) ?_ ?_ ?_
          rotate_left 2
          · rintro w' ⟨s0,s1⟩; go_simp; with_reducible rfl
          · simp only [Act.put, List.setIfInBounds_toArray, List.set_cons_zero, List.set_cons_succ]; rfl
          refine dpure 5 (some 39) rfl rfl (by kernel_rfl) (fun _ _ _ h => h) (by rfl) (v := ?_) (a' := ?_) ?_ ?_ ?_
          rotate_left 2
          · intro w'; go_simp; with_reducible rfl
          · simp only [Act.put, List.setIfInBounds_toArray, List.set_cons_zero, List.set_cons_succ]; rfl
          refine dpure 6 (some 40) rfl rfl (by kernel_rfl) (fun _ _ _ h => h) (by rfl) (v := ?_) (a' := ?_) ?_ ?_ ?_
          rotate_left 2
          · intro w'; go_simp; with_reducible rfl
          · simp only [Act.put, List.setIfInBounds_toArray, List.set_cons_zero, List.set_cons_succ]; rfl
          refine dpure 7 (some 41) rfl rfl (by kernel_rfl) (fun _ _ _ h => h) (by rfl) (v := ?_) (a' := ?_) ?_ ?_ ?_
          rotate_left 2
          · intro w'; go_simp; with_reducible rfl
          · simp only [Act.put, List.setIfInBounds_toArray, List.set_cons_zero, List.set_cons_succ]; rfl
          refine dpure 8 (some 42) rfl rfl (by kernel_rfl) (fun _ _ _ h => h) (by rfl) (v := ?_) (a' := ?_) ?_ ?_ ?_
          rotate_left 2
          · intro w'; go_simp; with_reducible rfl
          · simp only [Act.put, List.setIfInBounds_toArray, List.set_cons_zero, List.set_cons_succ]; rfl
          refine dtake 9 (some 43) rfl rfl (by kernel_rfl) (fun _ _ _ h => h) (by rfl) hS (v := ?_) (a' := ?_) ?_ ?_ ?_
          rotate_left 2
          · rintro w' ⟨s0,s1⟩; go_simp; with_reducible rfl
          · simp only [Act.put, List.setIfInBounds_toArray, List.set_cons_zero, List.set_cons_succ]; rfl
          refine dpure 10 (some 44) rfl rfl (by kernel_rfl) (fun _ _ _ h => h) (by rfl) (v := ?_) (a' := ?_) ?_ ?_ ?_
          rotate_left 2
          · intro w'; go_simp; with_reducible rfl
          · simp only [Act.put, List.setIfInBounds_toArray, List.set_cons_zero, List.set_cons_succ]; rfl
          refine done1 11 (some 45) rfl rfl (by kernel_rfl) (by decide) (fun K hK => ?_)
          refine goesp_ Try.func87 (by kernel_rfl) rfl #[.pointer (some ⟨g, 0, none⟩), .int .u16 k, .int .i64 en] (by rfl) rfl rfl (by kernel_rfl) ?_
          refine (within_calls (w := wr.drew) HR.out HS.out.1 HA.out.1 HA.out.2 HS.out.2.1 HS.out.2.2).mono ?_
          intro e w2 ht
          have ho : Only g wr w2 := ⟨ht.only.os, ht.only.tape, ht.only.output, ht.only.size, ht.only.block⟩
          have hx2 := HX.out.only HR.out ho
          have ht2 := HT.out.only ho
          have h42 := R_only H4.out HR.out (by decide) ho
          have h52 := R_only H5.out HR.out (by decide) ho
          cases hw : withinF s k at' en with
          | error d =>
            rw [hw] at he
            obtain rfl := ht.bad d hw
            have hq := HQ.out
            rw [← he] at hq
            exact .inr ⟨_, rfl, rfl, DataEnds.err hq.symm ht2⟩
          | ok x =>
            obtain ⟨b, a2⟩ := x
            rw [hw] at he
            obtain ⟨rfl, hr2⟩ := ht.good b a2 hw
            have HL := Aside0.mk he
            have HA2 := Aside0.mk (within_at hw)
            refine .inl ⟨_, rfl, ?_⟩
            clear ho ht hw he
            have hne4 := fun (u : Kd.R Kd.string 9 w2 w.heap.size (fun _ => True) (.slice A4 out.length c4) out) => Kd.R_ne u hx2 (by decide)
            refine hK.out _ _ ⟨(hx2.cell 1).trans rfl, (hx2.cell 4).trans rfl⟩ (fun hS => ?_)
            clear hK K
            refine norm_ (a' := ?_) ?_ ?_
            rotate_left
            · simp only [Act.put, List.setIfInBounds_toArray, List.set_cons_zero, List.set_cons_succ]; rfl
            refine done1 12 (some 46) rfl rfl (by kernel_rfl) (by decide) (fun K hK => ?_)
            refine event_step (by kernel_rfl) (v := .slice (some ⟨w2.heap.size, 0, none⟩) 1 1) (w1 := w2.alloc (.cells #[.string (strOfNums b)] 9)) (by go_simp; done) ?_
            refine hK.out _ _ ⟨(blk_cell (blk_below hx2 (below_alloc (Below.refl _ _) _)) 1).trans rfl, (blk_cell (blk_below hx2 (below_alloc (Below.refl _ _) _)) 4).trans rfl⟩ (fun hS => ?_)
            clear hK K
            refine norm_ (a' := ?_) ?_ ?_
            rotate_left
            · simp only [Act.put, List.setIfInBounds_toArray, List.set_cons_zero, List.set_cons_succ]; rfl
            refine done1 13 (some 47) rfl rfl (by kernel_rfl) (by decide) (fun K hK => ?_)
            refine Kd.R_append_step Kd.string (w0 := w2) w.heap.size (by kernel_rfl) (.tmp 38) (.tmp 46) 40 9 (.string ⟨#[]⟩) 16 (by rfl) Try.underlying40 infoS rfl (by decide) (by decide) (.slice A4 out.length c4) out (strOfNums b) [.string (strOfNums b)] (fun _ => True) (fun _ => False) (by rfl) (by rfl) rfl (fun _ hk => hk.elim) (fun _ _ => trivial) h42 (Below.refl _ _) ht2.size (by have := HLen.out; have := HK.out; omega) ?_
            intro v3 w3 ho3 hb3 hg3 _
            obtain ⟨A3, n3, c3, rfl⟩ := R_anyslice ho3
            have hx3 : XAt w3 h f0 k c t _ _ _ := blk_grown hx2 hg3 (hne4 h42)
            have hr3 : RAt w3 g s a2 := blk_grown hr2 hg3 (Kd.R_ne h42 hr2 (by decide))
            have h53 := Kd.R_over h52 h42 (by decide) hg3
            have ht3 := ht2.of_grown hg3 (Kd.R_base h42)
            have y4' : w3.cell? ⟨h, 4, none⟩ = some (.slice A4 out.length c4) := (hx3.cell 4).trans rfl
            have f4 : w3.frozen? ⟨h, 4, none⟩ = false := blk_frozen hx3 4
            refine hK.out _ _ ⟨(hx3.cell 1).trans rfl, y4'⟩ (fun hS => ?_)
            clear hK K
            refine norm_ (a' := ?_) ?_ ?_
            rotate_left
            · simp only [Act.put, List.setIfInBounds_toArray, List.set_cons_zero, List.set_cons_succ]; rfl
            refine dpure 14 (some 48) rfl rfl (by kernel_rfl) (fun _ _ _ h => h) (by rfl) (v := ?_) (a' := ?_) ?_ ?_ ?_
            rotate_left 2
            · intro w'; go_simp; with_reducible rfl
            · simp only [Act.put, List.setIfInBounds_toArray, List.set_cons_zero, List.set_cons_succ]; rfl
            refine dpure 15 (some 49) rfl rfl (by kernel_rfl) (fun _ _ _ h => h) (by rfl) (v := ?_) (a' := ?_) ?_ ?_ ?_
            rotate_left 2
            · intro w'; go_simp; with_reducible rfl
            · simp only [Act.put, List.setIfInBounds_toArray, List.set_cons_zero, List.set_cons_succ]; rfl
            refine dlast 16 (Array.getElem?_eq_getElem (by decide)) (by kernel_rfl) (List.mem_singleton.2 rfl) ?_
            intro K hK
            refine dskip (w1 := w3.setCell ⟨h, 4, none⟩ (.slice A3 n3 c3)) (by kernel_rfl) (by kernel_rfl) ?_ ?_
            · go_simp
            refine hK.out _ _ (done_ (by kernel_rfl) ?_)
            clear hK K
            have HX4 := Aside0.mk (hx3.set4 (.slice A3 n3 c3))
            have HR4 := Aside0.mk (hr3.setx hx3 4 (.slice A3 n3 c3))
            have HT4 := Aside0.mk (ht3.set 4 (.slice A3 n3 c3))
            have H44 := Aside0.mk (Kd.R_set ho3 hx3 (by decide) 4 (.slice A3 n3 c3))
            have H54 := Aside0.mk (Kd.R_set h53 hx3 (by decide) 4 (.slice A3 n3 c3))
            clear hx3 hr3 h53 ht3 ho3 hb3 hg3 hx2 ht2 h42 h52 hr2 hne4 y4' y1 y4 hne f4
            go_wp2_with fail
            go_roundg gk
            case measure => omega
            case rel => exact ⟨i + 1, _, a2, _, by go_num, HL, ⟨by have := HK.out; omega⟩, ⟨by have := HLen.out; rw [List.length_append, List.length_singleton]; omega⟩, HA2, HR4, HX4, HT4, H44, H54, ⟨fun h => absurd h (by omega)⟩⟩
end Go.Proofs.Ytbbeikdbioelgaa.M
