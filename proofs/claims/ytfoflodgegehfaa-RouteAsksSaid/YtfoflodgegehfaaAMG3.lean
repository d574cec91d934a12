/- Joined texts: walks and plain laws. -/
import Derived.Test.YtfoflodgegehfaaAMG2
set_option linter.unusedVariables false
set_option linter.unusedSimpArgs false
namespace Go.Proofs.Ytfoflodgegehfaa.M
open Go.RowKit Go.Maps Go.Proofs.YtfoflodgegehfaaW.PrintWords Go.Proofs.YtfoflodgegehfaaW.PrintLast Go.Proofs.YtfoflodgegehfaaW.PrintMore
attribute [local go_sem] max2_int min2_int max_two min_two max_three min_three max_four min_four
attribute [local go_sem ↓] Go.wp_at_zero Go.wp_at_succ
structure Two (g h : Nat) (w w' : World) : Prop where
  os : w'.os = w.os
  tape : w'.tape = w.tape
  output : w'.output = w.output
  size : w.heap.size ≤ w'.heap.size
  block : ∀ k, k < w.heap.size → k ≠ g → k ≠ h → w'.heap[k]? = w.heap[k]?
section
variable {w w1 w2 : World} {g h B : Nat}
theorem Two.refl (g h : Nat) (w : World) : Two g h w w := ⟨rfl, rfl, rfl, Nat.le_refl _, fun _ _ _ _ => rfl⟩
theorem Two.only (hw : Two g h w w1) (ho : Only g w1 w2) : Two g h w w2 :=
  ⟨ho.os.trans hw.os, ho.tape.trans hw.tape, ho.output.trans hw.output, Nat.le_trans hw.size ho.size, fun k hk hg hh => (ho.block k (Nat.lt_of_lt_of_le hk hw.size) hg).trans (hw.block k hk hg hh)⟩
theorem Two.set (hw : Two g h w w1) (j : Nat) (v : Value) : Two g h w (w1.setCell ⟨h, j, none⟩ v) :=
  ⟨hw.os, hw.tape, hw.output, by simpa using hw.size, fun k hk hg hh => (Below.heap_setCell w1 _ v k hh).trans (hw.block k hk hg hh)⟩
theorem Two.of_grown {row : Option Nat} (hw : Two g h w w1) (hg : w1.grownBy w2 row) (hr : ∀ k, row = some k → w.heap.size ≤ k) : Two g h w w2 :=
  ⟨hg.os.trans hw.os, hg.tape.trans hw.tape, hg.output.trans hw.output, Nat.le_trans hw.size hg.size, fun k hk h1 h2 => (hg.block k (Nat.lt_of_lt_of_le hk hw.size) (fun e => by have := hr k e.symm; omega)).trans (hw.block k hk h1 h2)⟩
theorem Two.drew (hw : Two g h w w1) : Two g h w w1.drew := ⟨hw.os, hw.tape, hw.output, hw.size, hw.block⟩
end
def XAt (w : World) (h : Nat) (f0 : ByteArray) (k c t : Int) (v4 v5 v6 : Value) : Prop := w.heap[h]? = some (.cells #[.string f0, .int .u16 k, .int .u16 c, .int .u32 t, v4, v5, v6] 85 (0, 0))
section
variable {w w1 : World} {g h : Nat} {s f0 : ByteArray} {a k c t : Int} {v4 v5 v6 : Value}
theorem XAt.ne (hx : XAt w h f0 k c t v4 v5 v6) (hr : RAt w g s a) : h ≠ g := by
  rintro rfl
  unfold XAt at hx
  unfold RAt at hr
  rw [hr] at hx
  have := Option.some.inj hx
  injection this with _ h2
  exact absurd h2 (by decide)
theorem XAt.only (hx : XAt w h f0 k c t v4 v5 v6) (hr : RAt w g s a) (ho : Only g w w1) : XAt w1 h f0 k c t v4 v5 v6 := ho.at_ hx (hx.ne hr)
theorem XAt.cell (hx : XAt w h f0 k c t v4 v5 v6) (j : Nat) : w.cell? ⟨h, j, none⟩ = #[.string f0, .int .u16 k, .int .u16 c, .int .u32 t, v4, v5, v6][j]? := blk_cell hx j
theorem XAt.set4 (hx : XAt w h f0 k c t v4 v5 v6) (u : Value) : XAt (w.setCell ⟨h, 4, none⟩ u) h f0 k c t u v5 v6 := by
  unfold XAt
  rw [blk_set hx 4 _]
  rfl
theorem XAt.set5 (hx : XAt w h f0 k c t v4 v5 v6) (u : Value) : XAt (w.setCell ⟨h, 5, none⟩ u) h f0 k c t v4 u v6 := by
  unfold XAt
  rw [blk_set hx 5 _]
  rfl
theorem XAt.set6 (hx : XAt w h f0 k c t v4 v5 v6) (u : Value) : XAt (w.setCell ⟨h, 6, none⟩ u) h f0 k c t v4 v5 u := by
  unfold XAt
  rw [blk_set hx 6 _]
  rfl
theorem RAt.setx (hr : RAt w g s a) (hx : XAt w h f0 k c t v4 v5 v6) (j : Nat) (u : Value) : RAt (w.setCell ⟨h, j, none⟩ u) g s a := (Below.heap_setCell w _ u g (Ne.symm (hx.ne hr))).trans hr
end
def namesR (s : ByteArray) (k en : Int) : Nat → List ByteArray → Int → Except Int (List ByteArray × Int)
  | 0, out, a => .ok (out, a)
  | n + 1, out, a =>
    match withinF s k a en with
    | .error c => .error c
    | .ok (b, a') => namesR s k en n (out ++ [strOfNums b]) a'
def textsR (s : ByteArray) (en : Int) : Nat → List ByteArray → Int → Except Int (List ByteArray × Int)
  | 0, _, _ => .error 2
  | n + 1, out, a => if a < en then
      (match getF s a 1 with
      | none => .error 2
      | some m => if en - (a + 1) < m then .error 50 else
        match partF s (a + 1) m with
        | none => .error 2
        | some t => textsR s en n (out ++ [t]) (a + 1 + m))
    else .ok (out, a)
abbrev Parts := List ByteArray × List Int × List ByteArray
def dataE (en : Int) (names : List ByteArray) (nums : List Int) : List ByteArray × Int → Except Int (Parts × Int)
  | (texts, a) => if a = en then .ok ((names, nums, texts), a) else .error 50
def dataT (s : ByteArray) (k en : Int) (names : List ByteArray) (nums : List Int) (a : Int) : Except Int (Parts × Int) :=
  if k = 16 then
    match textsR s en ((en - a).toNat + 1) [] a with
    | .error c => .error c
    | .ok x => dataE en names nums x
  else if (shapeOf k).1 + (shapeOf k).2.1 = 0 then
    match partF s a (en - a) with
    | none => .error 2
    | some t => dataE en names nums ([t], en)
  else dataE en names nums ([], a)
def dataN (s : ByteArray) (k en : Int) (nums : List Int) : List ByteArray × Int → Except Int (Parts × Int)
  | (names, a) => if k = 6 then
      match numsR s 4 en (shapeOf k).2.1 [] a with
      | .error c => .error c
      | .ok (nums', a') => dataT s k en names nums' a'
    else dataT s k en names nums a
def dataM (s : ByteArray) (k en : Int) : List Int × Int → Except Int (Parts × Int)
  | (nums, a) => match namesR s k en (shapeOf k).1 [] a with
    | .error c => .error c
    | .ok x => dataN s k en nums x
def dataR (s : ByteArray) (k en a : Int) : Except Int (Parts × Int) :=
  if k = 6 then dataM s k en ([], a)
  else match numsR s 2 en (shapeOf k).2.1 [] a with
    | .error c => .error c
    | .ok x => dataM s k en x
structure DataEnds (R : Except Int (Parts × Int)) (w : World) (g h : Nat) (s f0 : ByteArray) (k c t : Int) (e : Ending) (w' : World) : Prop where
  bad : ∀ d, R = .error d → e = gaveUp d
  good : ∀ names nums texts a, R = .ok ((names, nums, texts), a) → e = .returned (.tuple #[]) ∧ RAt w' g s a ∧ ∃ v4 v5 v6, XAt w' h f0 k c t v4 v5 v6 ∧
    Kd.R Kd.string 9 w' w.heap.size (fun _ => True) v4 names ∧ Kd.R (Kd.int .u32) 81 w' w.heap.size (fun _ => True) v5 nums ∧ Kd.R Kd.string 9 w' w.heap.size (fun _ => True) v6 texts
  two : Two g h w w'
section
variable {R : Except Int (Parts × Int)} {w w' : World} {g h : Nat} {s f0 : ByteArray} {a k c t d : Int} {v4 v5 v6 : Value} {names texts : List ByteArray} {nums : List Int}
theorem DataEnds.err (hd : R = .error d) (ht : Two g h w w') : DataEnds R w g h s f0 k c t (gaveUp d) w' :=
  ⟨fun d' hd' => by rw [hd] at hd'; rw [Except.error.inj hd'], fun _ _ _ _ hb => by rw [hd] at hb; exact absurd hb (by simp), ht⟩
theorem DataEnds.ok (hd : R = .ok ((names, nums, texts), a)) (hr : RAt w' g s a) (hx : XAt w' h f0 k c t v4 v5 v6) (h4 : Kd.R Kd.string 9 w' w.heap.size (fun _ => True) v4 names)
    (h5 : Kd.R (Kd.int .u32) 81 w' w.heap.size (fun _ => True) v5 nums) (h6 : Kd.R Kd.string 9 w' w.heap.size (fun _ => True) v6 texts) (ht : Two g h w w') : DataEnds R w g h s f0 k c t (.returned (.tuple #[])) w' :=
  ⟨fun d' hd' => by rw [hd] at hd'; exact absurd hd' (by simp), fun n' m' t' a' hb => by
    rw [hd] at hb
    obtain ⟨h1, rfl⟩ := Prod.mk.inj (Except.ok.inj hb)
    obtain ⟨rfl, h2⟩ := Prod.mk.inj h1
    obtain ⟨rfl, rfl⟩ := Prod.mk.inj h2
    exact ⟨rfl, hr, v4, v5, v6, hx, h4, h5, h6⟩, ht⟩
end
theorem goesp_ {P : Program} {ops : Array Oper} {Q : Exit → Act → World → Prop} {oi : Oper} {N : Option Tmp} {a : Act} {w : World} {K : Act → World → Prop} {f : FuncId} {fn : Func} {xs : Array Operand} {ts : Array TypeId} (hf : P.funcs[f]? = some fn) (hname : (fn.name == "runtime.NumGoroutine") = false) (hb : fn.body.isSome = true) (args : Array Value)
    (hw : Region.wanted oi (yielded ops a.tmps) = true) (hN : oi.dst = N) (hop : oi.op = .call { callee := .value (.func f), args := xs, argTypes := ts }) (hargs : xs.map a.eval = args)
    (h : Calls P f args w fun e w' => (∃ v, e = .returned v ∧ K (a.put N v) w') ∨ ∃ c, e = .panicked c ∧ Q (.panic c) a w') : if Region.wanted oi (yielded ops a.tmps) = true then Oper.wp P oi a w K Q else K (a.put N undef) w := by
  subst hN
  rw [if_pos hw]
  have he := enters_ hf hname hb args w
  unfold Oper.wp
  have hrun : (execOp a.eval oi).run P w = .ok (.enter f args) w := by
    unfold execOp
    simp [hop, resolve, Deferred.ofValue, invoke, Act.eval, hargs, he]
  rw [hrun, Oper.upon_enter]
  refine h.mono fun e w'' hh => ?_
  rcases hh with ⟨v, rfl, hk⟩ | ⟨c, rfl, hq⟩
  · exact hk
  · exact hq
theorem nameR_at (K : Nat) : ∀ {s : ByteArray} {b : List Int} {part nx a : Int} {b' : List Int} {a' : Int}, nameR K s b part nx a = .ok (b', a') → nx ≤ s.size → 0 ≤ a' ∧ a' ≤ s.size := by
  induction K with
  | zero => intro s b part nx a b' a' h _; exact absurd h (by simp [nameR])
  | succ K ih =>
    intro s b part nx a b' a' h hn
    unfold nameR at h
    cases h1 : getF s a 1 with
    | none => rw [h1] at h; exact absurd h (by simp)
    | some n =>
      rw [h1] at h
      simp only [] at h
      have g1 := get1 h1
      by_cases c1 : n = 0
      · rw [if_pos c1] at h
        have := (Prod.mk.inj (Except.ok.inj h)).2
        split at this <;> omega
      rw [if_neg c1] at h
      by_cases c2 : 191 < n
      · rw [if_pos c2] at h
        cases h2 : getF s (a + 1) 1 with
        | none => rw [h2] at h; exact absurd h (by simp)
        | some m =>
          rw [h2] at h
          simp only [] at h
          have g2 := get1 h2
          by_cases c3 : part ≤ n % 64 * 256 + m
          · rw [if_pos c3] at h; exact absurd h (by simp)
          · rw [if_neg c3] at h
            exact ih h (by split <;> omega)
      rw [if_neg c2] at h
      by_cases c4 : 63 < n
      · rw [if_pos c4] at h; exact absurd h (by simp)
      rw [if_neg c4] at h
      cases h3 : partF s (a + 1) n with
      | none => rw [h3] at h; exact absurd h (by simp)
      | some l =>
        rw [h3] at h
        simp only [] at h
        by_cases c5 : 255 < (b.length : Int) + n + 2
        · rw [if_pos c5] at h; exact absurd h (by simp)
        · rw [if_neg c5] at h
          exact ih h hn
theorem bareR_at (K : Nat) : ∀ {s : ByteArray} {b : List Int} {a : Int} {b' : List Int} {a' : Int}, bareR K s b a = .ok (b', a') → 0 ≤ a' ∧ a' ≤ s.size := by
  induction K with
  | zero => intro s b a b' a' h; exact absurd h (by simp [bareR])
  | succ K ih =>
    intro s b a b' a' h
    unfold bareR at h
    cases h1 : getF s a 1 with
    | none => rw [h1] at h; exact absurd h (by simp)
    | some n =>
      rw [h1] at h
      simp only [] at h
      have g1 := get1 h1
      by_cases c1 : n = 0
      · rw [if_pos c1] at h
        have := (Prod.mk.inj (Except.ok.inj h)).2
        omega
      rw [if_neg c1] at h
      by_cases c2 : 191 < n
      · rw [if_pos c2] at h; exact absurd h (by simp)
      rw [if_neg c2] at h
      by_cases c4 : 63 < n
      · rw [if_pos c4] at h; exact absurd h (by simp)
      rw [if_neg c4] at h
      by_cases c5 : 255 < (b.length : Int) + n + 2
      · rw [if_pos c5] at h; exact absurd h (by simp)
      rw [if_neg c5] at h
      cases h3 : partF s (a + 1) n with
      | none => rw [h3] at h; exact absurd h (by simp)
      | some l =>
        rw [h3] at h
        exact ih h
theorem within_at {s : ByteArray} {k a en : Int} {b : List Int} {a' : Int} (h : withinF s k a en = .ok (b, a')) : 0 ≤ a' ∧ a' ≤ s.size := by
  unfold withinF at h
  split at h
  · exact absurd h (by simp)
  · split at h
    · exact bareR_at _ h
    · exact nameR_at _ h (by omega)
theorem numsR_at {s : ByteArray} {sz en : Int} (K : Nat) : ∀ {out : List Int} {a : Int} {out' : List Int} {a' : Int}, numsR s sz en K out a = .ok (out', a') → 0 ≤ a ∧ a ≤ s.size → 0 ≤ a' ∧ a' ≤ s.size := by
  induction K with
  | zero =>
    intro out a out' a' h ha
    have := (Prod.mk.inj (Except.ok.inj h)).2
    omega
  | succ K ih =>
    intro out a out' a' h ha
    unfold numsR at h
    by_cases c1 : en - a < sz
    · rw [if_pos c1] at h; exact absurd h (by simp)
    rw [if_neg c1] at h
    cases h1 : getF s a sz with
    | none => rw [h1] at h; exact absurd h (by simp)
    | some n =>
      rw [h1] at h
      have := get_at h1
      exact ih h (by omega)
section
variable {s : ByteArray} {k en a : Int} {names : List ByteArray} {nums : List Int}
theorem dataN_not (h : ¬ k = 6) : dataN s k en nums (names, a) = dataT s k en names nums a := if_neg h
theorem dataN_six (h : k = 6) : dataN s k en nums (names, a) = (match numsR s 4 en (shapeOf k).2.1 [] a with | .error c => .error c | .ok (nums', a') => dataT s k en names nums' a') := if_pos h
theorem dataT_txt (h : k = 16) : dataT s k en names nums a = (match textsR s en ((en - a).toNat + 1) [] a with | .error c => .error c | .ok x => dataE en names nums x) := if_pos h
theorem dataT_free (h : ¬ k = 16) (h0 : (shapeOf k).1 + (shapeOf k).2.1 = 0) : dataT s k en names nums a = (match partF s a (en - a) with | none => .error 2 | some t => dataE en names nums ([t], en)) := (if_neg h).trans (if_pos h0)
theorem dataT_none (h : ¬ k = 16) (h0 : ¬ (shapeOf k).1 + (shapeOf k).2.1 = 0) : dataT s k en names nums a = dataE en names nums ([], a) := (if_neg h).trans (if_neg h0)
theorem dataE_eq (t : List ByteArray) : dataE en names nums (t, a) = (if a = en then .ok ((names, nums, t), a) else .error 50) := rfl
end
theorem R_anyslice {α : Type} {d : Kd α} {e base : Nat} {ok : Nat → Prop} {w : World} {v : Value} {xs : List α} (h : d.R e w base ok v xs) : ∃ A n c, v = .slice A n c := by
  obtain ⟨A, c, h⟩ := Kd.R_slice h
  exact ⟨A, _, c, h⟩
set_option maxHeartbeats 8000000 in
set_option maxRecDepth 100000 in
theorem data_reads {w : World} {g h : Nat} {s f0 : ByteArray} {a k c t en : Int} (hr : RAt w g s a) (hx : XAt w h f0 k c t (.slice none 0 0) (.slice none 0 0) (.slice none 0 0)) (hs : s.size ≤ 1000000) (h0 : 0 ≤ a) (hae : a ≤ en) (he : en ≤ s.size) :
    Calls Try.prog 79 #[.pointer (some ⟨g, 0, none⟩), .pointer (some ⟨h, 0, none⟩), .int .i64 en] w fun e w' => DataEnds (dataR s k en a) w g h s f0 k c t e w' := by
  obtain ⟨R, hR⟩ : ∃ R, dataR s k en a = R := ⟨_, rfl⟩
  rw [hR]
  unfold dataR at hR
  have HR := Aside0.mk hr
  have HX := Aside0.mk hx
  have HS := Lib.hid (show s.size ≤ 1000000 ∧ en ≤ s.size ∧ 0 ≤ en from ⟨hs, he, by omega⟩)
  have HA := Lib.hid (show 0 ≤ a ∧ a ≤ s.size by omega)
  have HT := Aside0.mk (Two.refl g h w)
  have H4 := Aside0.mk (Kd.R_nil Kd.string 9 w w.heap.size (fun _ => True))
  have H5 := Aside0.mk (Kd.R_nil (Kd.int .u32) 81 w w.heap.size (fun _ => True))
  obtain ⟨⟨n, m, tx⟩, hsh⟩ : ∃ x, shapeOf k = x := ⟨_, rfl⟩
  obtain ⟨s1, s2, s3⟩ := shapeOf_le k
  have e1 : (shapeOf k).1 = n := by rw [hsh]
  have e2 : (shapeOf k).2.1 = m := by rw [hsh]
  rw [e1] at s1
  rw [e2] at s2 hR
  have HSh := Lib.hid hsh
  have HNM := Lib.hid (show (shapeOf k).1 = n ∧ (shapeOf k).2.1 = m from ⟨e1, e2⟩)
  have p1 : (n : Int) ≤ 2 := by omega
  have p2 : (m : Int) ≤ 5 := by omega
  have p3 : en ≤ 1000000 := by omega
  have p4 : 0 ≤ en := by omega
  have HM := Lib.hid (show m ≤ 10 by omega)
  clear hr hx hs h0 hae he hsh s1 s2 s3 e1 e2
  have x1 : w.cell? ⟨h, 1, none⟩ = some (.int .u16 k) := (HX.out.cell 1).trans rfl
  by_cases k6 : k = 6
  · rw [if_pos k6] at hR
    have d6 : (k != 6) = false := by rw [bne_eq_false_iff_eq]; exact k6
    have d7 : (k == 6) = true := beq_iff_eq.mpr k6
    have K6 := Lib.hid k6
    have HE := Lib.hid hR
    have HA1 := HA
    have HR2 := HR
    have HX2 := HX
    have HT2 := HT
    have H42 := H4
    have H52 := H5
    clear k6 hR
    go_enter Try.func79, Try.ntmps79
    go_wp2_with fail
    refine (Shape_calls k _).mono ?_
    rw [HSh.out]
    rintro e w1 ⟨rfl, rfl⟩
    go_wp2_with fail
    clear x1
    have HQ := Aside0.mk (show (match namesR s k en n [] a with | .error c => .error c | .ok x => dataN s k en [] x) = R by rw [← HE.out]; unfold dataM; rw [HNM.out.1])
    obtain ⟨RN, hRN⟩ : ∃ RN, namesR s k en n [] a = RN := ⟨_, rfl⟩
    rw [hRN] at HQ
    have HL := Aside0.mk hRN
    clear hRN HE
    go_loopg [32] n (fun kq v32 w' => ∃ (i : Nat) (out : List ByteArray) (at' : Int) (v4 : Value), v32 = .int .i64 i ∧ Aside0 (namesR s k en kq out at' = RN) ∧ Aside0 (kq + i = n) ∧ Aside0 (out.length = i) ∧ Aside0 (0 ≤ at' ∧ at' ≤ s.size) ∧ Aside0 (RAt w' g s at') ∧ Aside0 (XAt w' h f0 k c t v4 (.slice none 0 0) (.slice none 0 0)) ∧ Aside0 (Two g h w w') ∧ Aside0 (Kd.R Kd.string 9 w' w.heap.size (fun _ => True) v4 out) ∧ Aside0 (Kd.R (Kd.int .u32) 81 w' w.heap.size (fun _ => True) (.slice none 0 0) []) ∧ Aside0 (i = 0 → v4 = (.slice none 0 0)))
    case atStart => exact ⟨0, [], a, (.slice none 0 0), rfl, HL, ⟨rfl⟩, ⟨rfl⟩, ⟨HA1.out⟩, HR2, HX2, HT2, H42, H52, ⟨fun _ => rfl⟩⟩
    case round =>
      clear HL HR2 HX2 HT2 H42 H52 HA1
      obtain ⟨i, out, at', v4, rfl, HL, HK, HLen, HA, HR, HX, HT, H4, H5, HZ⟩ := hrel
      have he := HL.out
      obtain ⟨A4, c4, rfl⟩ := Kd.R_slice H4.out
      clear HL
      cases gk with
      | zero =>
        obtain rfl : i = n := by have := HK.out; omega
        have hq := HQ.out
        rw [← he] at hq
        have HE := Lib.hid (show dataN s k en [] (out, at') = R from hq)
        clear he hq HQ
        have x1 : wr.cell? ⟨h, 1, none⟩ = some (.int .u16 k) := (HX.out.cell 1).trans rfl
        have hE := (dataN_six (s := s) (en := en) (nums := []) (names := out) (a := at') K6.out).symm.trans HE.out
        rw [HNM.out.2] at hE
        clear HE
        go_wp2_with fail
        refine (numbers_calls (count := m) (z := 4) HR.out HS.out.1 HA.out.1 HA.out.2 HS.out.2.1 HS.out.2.2 HM.out (.inr rfl)).mono ?_
        intro e w2 ht
        have hE := (show (match numsR s ((4 : Nat) : Int) en m [] at' with | .error c => .error c | .ok (nums', a') => dataT s k en out nums' a') = R from hE)
        cases hn : numsR s ((4 : Nat) : Int) en m [] at' with
        | error d =>
          rw [hn] at hE
          obtain rfl := ht.bad d hn
          exact ⟨rfl, DataEnds.err hE.symm (HT.out.only ht.only)⟩
        | ok x =>
          obtain ⟨nums, a1⟩ := x
          rw [hn] at hE
          simp only [] at hE
          have k16 : ¬ k = 16 := by have := K6.out; omega
          have k0 : ¬ (shapeOf k).1 + (shapeOf k).2.1 = 0 := by rw [K6.out]; decide
          rw [dataT_none k16 k0, dataE_eq] at hE
          have k0' : ¬ i + m = 0 := by rw [HNM.out.1, HNM.out.2] at k0; exact k0
          have d0 : ((i : Int) + (m : Int) == 0) = false := beq_eq_false_iff_ne.mpr (by omega)
          have d16 : (k == 16) = false := beq_eq_false_iff_ne.mpr k16
          obtain ⟨v5, rfl, hp, hr2⟩ := ht.good nums a1 hn
          obtain ⟨A5, n5, c5, rfl⟩ := R_anyslice hp
          have hx2 := HX.out.only HR.out ht.only
          have y5 : w2.cell? ⟨h, 5, none⟩ = some (.slice none 0 0) := (hx2.cell 5).trans rfl
          have f5 : w2.frozen? ⟨h, 5, none⟩ = false := blk_frozen hx2 5
          have h42 := R_only H4.out HR.out (by decide) ht.only
          have HX4 := Aside0.mk (hx2.set5 (.slice A5 n5 c5))
          have HR4 := Aside0.mk (hr2.setx hx2 5 (.slice A5 n5 c5))
          have HT4 := Aside0.mk ((HT.out.only ht.only).set 5 (.slice A5 n5 c5))
          have H54 := Aside0.mk (Kd.R_lower (Kd.R_set hp hx2 (by intro q hq; rw [show q = 81 by simpa [Kd.int, Kd.scalar] using hq]; decide) 5 (.slice A5 n5 c5)) HT.out.size)
          have H44 := Aside0.mk (Kd.R_set h42 hx2 (by decide) 5 (.slice A5 n5 c5))
          have x9 : w2.cell? ⟨h, 1, none⟩ = some (.int .u16 k) := (hx2.cell 1).trans rfl
          have H64 := Aside0.mk (Kd.R_nil Kd.string 9 (w2.setCell ⟨h, 5, none⟩ (.slice A5 n5 c5)) w.heap.size (fun _ => True))
          clear HR HX HT H4 H5 x1 k16 k0 k0' hr2 hp hx2 h42 ht hn
          have HR := HR4
          have HX := HX4
          have HT := HT4
          have H4 := H44
          have H5 := H54
          have z1 := HR.out.c1
          by_cases c9 : a1 = en
          · rw [if_pos c9] at hE
            have HE := Lib.hid hE
            have d9 : (a1 != en) = false := by rw [bne_eq_false_iff_eq]; exact c9
            clear hE c9
            go_wp2_with fail
            go_end0
            exact DataEnds.ok HE.out.symm HR.out HX.out H4.out H5.out H64.out HT.out
          · rw [if_neg c9] at hE
            have HE := Lib.hid hE
            have d9 : (a1 != en) = true := by rw [bne_iff_ne]; exact c9
            clear hE c9
            go_wp2_with fail
            exact ⟨rfl, DataEnds.err HE.out.symm HT.out⟩
      | succ gk =>
        unfold namesR at he
        have q1 : (i : Int) < (n : Int) := by have := HK.out; omega
        have hne := HX.out.ne HR.out
        have y1 : wr.cell? ⟨h, 1, none⟩ = some (.int .u16 k) := (HX.out.cell 1).trans rfl
        have y4 : wr.cell? ⟨h, 4, none⟩ = some (.slice A4 out.length c4) := (HX.out.cell 4).trans rfl
        go_wp2_with fail
        refine start_ (n := 17) (S := fun w' => w'.cell? ⟨h, 1, none⟩ = some (.int .u16 k) ∧ w'.cell? ⟨h, 4, none⟩ = some (.slice A4 out.length c4)) (ds := [16]) (Array.replicate 17 false) (by kernel_rfl) (by kernel_rfl) rfl ⟨y1, y4⟩ (fun hS => ?_)
        refine dpure 0 (some 34) rfl rfl (by kernel_rfl) (fun _ _ _ h => h) (by rfl) (v := ?_) (a' := ?_) ?_ ?_ ?_
        rotate_left 2
        · intro w'; go_simp; with_reducible rfl
        · simp only [Act.put, List.setIfInBounds_toArray, List.set_cons_zero, List.set_cons_succ]; rfl
        refine dpure 1 (some 35) rfl rfl (by kernel_rfl) (fun _ _ _ h => h) (by rfl) (v := ?_) (a' := ?_) ?_ ?_ ?_
        rotate_left 2
        · intro w'; go_simp; with_reducible rfl
        · simp only [Act.put, List.setIfInBounds_toArray, List.set_cons_zero, List.set_cons_succ]; rfl
        refine dpure 2 (some 36) rfl rfl (by kernel_rfl) (fun _ _ _ h => h) (by rfl) (v := ?_) (a' := ?_) ?_ ?_ ?_
        rotate_left 2
        · intro w'; go_simp; with_reducible rfl
        · simp only [Act.put, List.setIfInBounds_toArray, List.set_cons_zero, List.set_cons_succ]; rfl
        refine dpure 3 (some 37) rfl rfl (by kernel_rfl) (fun _ _ _ h => h) (by rfl) (v := ?_) (a' := ?_) ?_ ?_ ?_
        rotate_left 2
        · intro w'; go_simp; with_reducible rfl
        · simp only [Act.put, List.setIfInBounds_toArray, List.set_cons_zero, List.set_cons_succ]; rfl
        refine dtake 4 (some 38) rfl rfl (by kernel_rfl) (fun _ _ _ h => h) (by rfl) hS (v := ?_) (a' := ?_) ?_ ?_ ?_
        rotate_left 2
        · rintro w' ⟨s0,s1⟩; go_simp; with_reducible rfl
        · simp only [Act.put, List.setIfInBounds_toArray, List.set_cons_zero, List.set_cons_succ]; rfl
        refine dpure 5 (some 39) rfl rfl (by kernel_rfl) (fun _ _ _ h => h) (by rfl) (v := ?_) (a' := ?_) ?_ ?_ ?_
        rotate_left 2
        · intro w'; go_simp; with_reducible rfl
        · simp only [Act.put, List.setIfInBounds_toArray, List.set_cons_zero, List.set_cons_succ]; rfl
        refine dpure 6 (some 40) rfl rfl (by kernel_rfl) (fun _ _ _ h => h) (by rfl) (v := ?_) (a' := ?_) ?_ ?_ ?_
        rotate_left 2
        · intro w'; go_simp; with_reducible rfl
        · simp only [Act.put, List.setIfInBounds_toArray, List.set_cons_zero, List.set_cons_succ]; rfl
        refine dpure 7 (some 41) rfl rfl (by kernel_rfl) (fun _ _ _ h => h) (by rfl) (v := ?_) (a' := ?_) ?_ ?_ ?_
        rotate_left 2
        · intro w'; go_simp; with_reducible rfl
        · simp only [Act.put, List.setIfInBounds_toArray, List.set_cons_zero, List.set_cons_succ]; rfl
        refine dpure 8 (some 42) rfl rfl (by kernel_rfl) (fun _ _ _ h => h) (by rfl) (v := ?_) (a' := ?_) ?_ ?_ ?_
        rotate_left 2
        · intro w'; go_simp; with_reducible rfl
        · simp only [Act.put, List.setIfInBounds_toArray, List.set_cons_zero, List.set_cons_succ]; rfl
        refine dtake 9 (some 43) rfl rfl (by kernel_rfl) (fun _ _ _ h => h) (by rfl) hS (v := ?_) (a' := ?_) ?_ ?_ ?_
        rotate_left 2
        · rintro w' ⟨s0,s1⟩; go_simp; with_reducible rfl
        · simp only [Act.put, List.setIfInBounds_toArray, List.set_cons_zero, List.set_cons_succ]; rfl
        refine dpure 10 (some 44) rfl rfl (by kernel_rfl) (fun _ _ _ h => h) (by rfl) (v := ?_) (a' := ?_) ?_ ?_ ?_
        rotate_left 2
        · intro w'; go_simp; with_reducible rfl
        · simp only [Act.put, List.setIfInBounds_toArray, List.set_cons_zero, List.set_cons_succ]; rfl
        refine done1 11 (some 45) rfl rfl (by kernel_rfl) (by decide) (fun K hK => ?_)
        refine goesp_ Try.func90 (by kernel_rfl) rfl #[.pointer (some ⟨g, 0, none⟩), .int .u16 k, .int .i64 en] (by rfl) rfl rfl (by kernel_rfl) ?_
        refine (within_calls (w := wr.drew) HR.out HS.out.1 HA.out.1 HA.out.2 HS.out.2.1 HS.out.2.2).mono ?_
        intro e w2 ht
        have ho : Only g wr w2 := ⟨ht.only.os, ht.only.tape, ht.only.output, ht.only.size, ht.only.block⟩
        have hx2 := HX.out.only HR.out ho
        have ht2 := HT.out.only ho
        have h42 := R_only H4.out HR.out (by decide) ho
        have h52 := R_only H5.out HR.out (by decide) ho
        cases hw : withinF s k at' en with
        | error d =>
          rw [hw] at he
          obtain rfl := ht.bad d hw
          have hq := HQ.out
          rw [← he] at hq
          exact .inr ⟨_, rfl, rfl, DataEnds.err hq.symm ht2⟩
        | ok x =>
          obtain ⟨b, a2⟩ := x
          rw [hw] at he
          obtain ⟨rfl, hr2⟩ := ht.good b a2 hw
          have HL := Aside0.mk he
          have HA2 := Aside0.mk (within_at hw)
          refine .inl ⟨_, rfl, ?_⟩
          clear ho ht hw he
          have hne4 := fun (u : Kd.R Kd.string 9 w2 w.heap.size (fun _ => True) (.slice A4 out.length c4) out) => Kd.R_ne u hx2 (by decide)
          refine hK.out _ _ ⟨(hx2.cell 1).trans rfl, (hx2.cell 4).trans rfl⟩ (fun hS => ?_)
          clear hK K
          refine norm_ (a' := ?_) ?_ ?_
          rotate_left
          · simp only [Act.put, List.setIfInBounds_toArray, List.set_cons_zero, List.set_cons_succ]; rfl
          refine done1 12 (some 46) rfl rfl (by kernel_rfl) (by decide) (fun K hK => ?_)
          refine event_step (by kernel_rfl) (v := .slice (some ⟨w2.heap.size, 0, none⟩) 1 1) (w1 := w2.alloc (.cells #[.string (strOfNums b)] 9)) (by go_simp; done) ?_
          refine hK.out _ _ ⟨(blk_cell (blk_below hx2 (below_alloc (Below.refl _ _) _)) 1).trans rfl, (blk_cell (blk_below hx2 (below_alloc (Below.refl _ _) _)) 4).trans rfl⟩ (fun hS => ?_)
          clear hK K
          refine norm_ (a' := ?_) ?_ ?_
          rotate_left
          · simp only [Act.put, List.setIfInBounds_toArray, List.set_cons_zero, List.set_cons_succ]; rfl
          refine done1 13 (some 47) rfl rfl (by kernel_rfl) (by decide) (fun K hK => ?_)
          refine Kd.R_append_step Kd.string (w0 := w2) w.heap.size (by kernel_rfl) (.tmp 38) (.tmp 46) 82 9 (.string ⟨#[]⟩) 16 (by rfl) Try.underlying82 infoS rfl (by decide) (by decide) (.slice A4 out.length c4) out (strOfNums b) [.string (strOfNums b)] (fun _ => True) (fun _ => False) (by rfl) (by rfl) rfl (fun _ hk => hk.elim) (fun _ _ => trivial) h42 (Below.refl _ _) ht2.size (by have := HLen.out; have := HK.out; omega) ?_
          intro v3 w3 ho3 hb3 hg3 _
          obtain ⟨A3, n3, c3, rfl⟩ := R_anyslice ho3
          have hx3 : XAt w3 h f0 k c t _ _ _ := blk_grown hx2 hg3 (hne4 h42)
          have hr3 : RAt w3 g s a2 := blk_grown hr2 hg3 (Kd.R_ne h42 hr2 (by decide))
          have h53 := Kd.R_over h52 h42 (by decide) hg3
          have ht3 := ht2.of_grown hg3 (Kd.R_base h42)
          have y4' : w3.cell? ⟨h, 4, none⟩ = some (.slice A4 out.length c4) := (hx3.cell 4).trans rfl
          have f4 : w3.frozen? ⟨h, 4, none⟩ = false := blk_frozen hx3 4
          refine hK.out _ _ ⟨(hx3.cell 1).trans rfl, y4'⟩ (fun hS => ?_)
          clear hK K
          refine norm_ (a' := ?_) ?_ ?_
          rotate_left
          · simp only [Act.put, List.setIfInBounds_toArray, List.set_cons_zero, List.set_cons_succ]; rfl
          refine dpure 14 (some 48) rfl rfl (by kernel_rfl) (fun _ _ _ h => h) (by rfl) (v := ?_) (a' := ?_) ?_ ?_ ?_
          rotate_left 2
          · intro w'; go_simp; with_reducible rfl
          · simp only [Act.put, List.setIfInBounds_toArray, List.set_cons_zero, List.set_cons_succ]; rfl
          refine dpure 15 (some 49) rfl rfl (by kernel_rfl) (fun _ _ _ h => h) (by rfl) (v := ?_) (a' := ?_) ?_ ?_ ?_
          rotate_left 2
          · intro w'; go_simp; with_reducible rfl
          · simp only [Act.put, List.setIfInBounds_toArray, List.set_cons_zero, List.set_cons_succ]; rfl
          refine dlast 16 (Array.getElem?_eq_getElem (by decide)) (by kernel_rfl) (List.mem_singleton.2 rfl) ?_
          intro K hK
          refine dskip (w1 := w3.setCell ⟨h, 4, none⟩ (.slice A3 n3 c3)) (by kernel_rfl) (by kernel_rfl) ?_ ?_
          · go_simp
          refine hK.out _ _ (done_ (by kernel_rfl) ?_)
          clear hK K
          have HX4 := Aside0.mk (hx3.set4 (.slice A3 n3 c3))
          have HR4 := Aside0.mk (hr3.setx hx3 4 (.slice A3 n3 c3))
          have HT4 := Aside0.mk (ht3.set 4 (.slice A3 n3 c3))
          have H44 := Aside0.mk (Kd.R_set ho3 hx3 (by decide) 4 (.slice A3 n3 c3))
          have H54 := Aside0.mk (Kd.R_set h53 hx3 (by decide) 4 (.slice A3 n3 c3))
          clear hx3 hr3 h53 ht3 ho3 hb3 hg3 hx2 ht2 h42 h52 hr2 hne4 y4' y1 y4 hne f4
          go_wp2_with fail
          go_roundg gk
          case measure => omega
          case rel => exact ⟨i + 1, _, a2, _, by go_num, HL, ⟨by have := HK.out; omega⟩, ⟨by have := HLen.out; rw [List.length_append, List.length_singleton]; omega⟩, HA2, HR4, HX4, HT4, H44, H54, ⟨fun h => absurd h (by omega)⟩⟩
  · rw [if_neg k6] at hR
    have d6 : (k != 6) = true := by rw [bne_iff_ne]; exact k6
    have d7 : (k == 6) = false := beq_eq_false_iff_ne.mpr k6
    have K6 := Lib.hid k6
    clear k6
    go_enter Try.func79, Try.ntmps79
    go_wp2_with fail
    refine (Shape_calls k _).mono ?_
    rw [HSh.out]
    rintro e w1 ⟨rfl, rfl⟩
    go_wp2_with fail
    refine (numbers_calls (count := m) (z := 2) HR.out HS.out.1 HA.out.1 HA.out.2 HS.out.2.1 HS.out.2.2 HM.out (.inl rfl)).mono ?_
    intro e w2 ht
    cases hn : numsR s 2 en m [] a with
    | error d =>
      rw [hn] at hR
      obtain rfl := ht.bad d hn
      exact ⟨rfl, DataEnds.err hR.symm (HT.out.only ht.only)⟩
    | ok x =>
      obtain ⟨nums, a1⟩ := x
      rw [hn] at hR
      obtain ⟨v5, rfl, hp, hr2⟩ := ht.good nums a1 hn
      obtain ⟨A5, c5, rfl⟩ := Kd.R_slice hp
      have hx2 := HX.out.only HR.out ht.only
      have y5 : w2.cell? ⟨h, 5, none⟩ = some (.slice none 0 0) := (hx2.cell 5).trans rfl
      have f5 : w2.frozen? ⟨h, 5, none⟩ = false := blk_frozen hx2 5
      have HE := Lib.hid hR
      have HA1 := Lib.hid (numsR_at _ hn HA.out)
      have HX2 := Aside0.mk (hx2.set5 (.slice A5 nums.length c5))
      have HR2 := Aside0.mk (hr2.setx hx2 5 (.slice A5 nums.length c5))
      have HT2 := Aside0.mk ((HT.out.only ht.only).set 5 (.slice A5 nums.length c5))
      have H52 := Aside0.mk (Kd.R_set hp hx2 (by intro q hq; rw [show q = 81 by simpa [Kd.int, Kd.scalar] using hq]; decide) 5 (.slice A5 nums.length c5))
      have H42 := Aside0.mk (Kd.R_nil Kd.string 9 (w2.setCell ⟨h, 5, none⟩ (.slice A5 nums.length c5)) w.heap.size (fun _ => True))
      clear hr2 hx2 hp ht x1 hR hn
      go_wp2_with fail
      have HQ := Aside0.mk (show (match namesR s k en n [] a1 with | .error c => .error c | .ok x => dataN s k en nums x) = R by rw [← HE.out]; unfold dataM; rw [HNM.out.1])
      obtain ⟨RN, hRN⟩ : ∃ RN, namesR s k en n [] a1 = RN := ⟨_, rfl⟩
      rw [hRN] at HQ
      have HL := Aside0.mk hRN
      clear hRN HE
      go_loopg [32] n (fun kq v32 w' => ∃ (i : Nat) (out : List ByteArray) (at' : Int) (v4 : Value), v32 = .int .i64 i ∧ Aside0 (namesR s k en kq out at' = RN) ∧ Aside0 (kq + i = n) ∧ Aside0 (out.length = i) ∧ Aside0 (0 ≤ at' ∧ at' ≤ s.size) ∧ Aside0 (RAt w' g s at') ∧ Aside0 (XAt w' h f0 k c t v4 (.slice A5 nums.length c5) (.slice none 0 0)) ∧ Aside0 (Two g h w w') ∧ Aside0 (Kd.R Kd.string 9 w' w.heap.size (fun _ => True) v4 out) ∧ Aside0 (Kd.R (Kd.int .u32) 81 w' w.heap.size (fun _ => True) (.slice A5 nums.length c5) nums) ∧ Aside0 (i = 0 → v4 = (.slice none 0 0)))
      case atStart => exact ⟨0, [], a1, (.slice none 0 0), rfl, HL, ⟨rfl⟩, ⟨rfl⟩, ⟨HA1.out⟩, HR2, HX2, HT2, H42, H52, ⟨fun _ => rfl⟩⟩
      case round =>
        clear HL HR2 HX2 HT2 H42 H52 HA1
        obtain ⟨i, out, at', v4, rfl, HL, HK, HLen, HA, HR, HX, HT, H4, H5, HZ⟩ := hrel
        have he := HL.out
        obtain ⟨A4, c4, rfl⟩ := Kd.R_slice H4.out
        clear HL
        cases gk with
        | zero =>
          obtain rfl : i = n := by have := HK.out; omega
          have hq := HQ.out
          rw [← he] at hq
          have HE := Lib.hid (show dataN s k en nums (out, at') = R from hq)
          clear he hq HQ
          have x1 : wr.cell? ⟨h, 1, none⟩ = some (.int .u16 k) := (HX.out.cell 1).trans rfl
          have hE := (dataN_not (s := s) (en := en) (nums := nums) (names := out) (a := at') K6.out).symm.trans HE.out
          clear HE
          by_cases k16 : k = 16
          · rw [dataT_txt k16] at hE
            have d16 : (k == 16) = true := beq_iff_eq.mpr k16
            have i0 : i = 0 := by have := HNM.out.1; rw [k16] at this; exact this.symm
            have hv4 := HZ.out i0
            injection hv4 with hv1 hv2 hv3
            obtain rfl : out = [] := List.length_eq_zero_iff.1 hv2
            subst hv1
            subst hv3
            clear hv2
            obtain ⟨RT, hRT⟩ : ∃ RT, textsR s en ((en - at').toNat + 1) [] at' = RT := ⟨_, rfl⟩
            rw [hRT] at hE
            have HE := Lib.hid hE
            have HL := Aside0.mk hRT
            have H6 := Aside0.mk (Kd.R_nil Kd.string 9 wr w.heap.size (fun _ => True))
            clear hE hRT k16
            go_wp2_with fail
            clear x1 H4
            go_loopg [9] ((en - at').toNat + 1) (fun kq v9 w' => ∃ (txt : List ByteArray) (p : Int) (v6 : Value), Aside0 (textsR s en kq txt p = RT) ∧ Aside0 ((en - p).toNat < kq) ∧ Aside0 (0 ≤ p ∧ p ≤ s.size) ∧ Aside0 ((txt.length : Int) ≤ p) ∧ Aside0 (RAt w' g s p) ∧ Aside0 (XAt w' h f0 k c t (.slice none 0 0) (.slice A5 nums.length c5) v6) ∧ Aside0 (Two g h w w') ∧ Aside0 (Kd.R Kd.string 9 w' w.heap.size (fun _ => True) v6 txt) ∧ Aside0 (Kd.R (Kd.int .u32) 81 w' w.heap.size (fun _ => True) (.slice A5 nums.length c5) nums))
            case atStart => exact ⟨[], at', (.slice none 0 0), HL, ⟨Nat.lt_succ_self _⟩, HA, ⟨by have := HA.out; simp; omega⟩, HR, HX, HT, H6, H5⟩
            case round =>
              clear HL HR HX HT H5 H6 HA
              obtain ⟨txt, p, v6, HL, HK2, HA, HTl, HR, HX, HT, H6, H5⟩ := hrel
              obtain ⟨gk, rfl⟩ : ∃ q, gk = q + 1 := ⟨gk - 1, by have := HK2.out; omega⟩
              have hl := HL.out
              unfold textsR at hl
              clear HL
              have z1 := HR.out.c1
              obtain ⟨a0, a9⟩ := HA.out
              have q9 : p ≤ 1000000 := by have := HS.out.1; omega
              by_cases c1 : p < en
              · rw [if_pos c1] at hl
                have d1 : decide (p < en) = true := decide_eq_true c1
                cases h1 : getF s p 1 with
                | none =>
                  rw [h1] at hl
                  have H1 := Lib.hid h1
                  have hE := HE.out
                  rw [← hl] at hE
                  have HE := Lib.hid hE
                  clear hl h1 hE
                  go_wp2_with fail
                  refine (num_no HR.out HS.out.1 H1.out).mono ?_
                  rintro e w2 ⟨rfl, ho⟩
                  exact ⟨rfl, DataEnds.err HE.out.symm (HT.out.only ho)⟩
                | some m1 =>
                  rw [h1] at hl
                  simp only [] at hl
                  have H1 := Lib.hid h1
                  obtain ⟨m10, m11, _, m12⟩ := get1 h1
                  have hwm : IntKind.i64.wrap m1 = m1 := by rw [IntKind.wrap_i64]; omega
                  have C1 := Lib.hid c1
                  clear h1 c1
                  go_wp2_with fail
                  refine (num_yes HR.out HS.out.1 H1.out).mono ?_
                  rintro e w2 ⟨rfl, hr, ho⟩
                  have HX2 := Aside0.mk (HX.out.only HR.out ho)
                  have HT2 := Aside0.mk (HT.out.only ho)
                  have H62 := Aside0.mk (R_only H6.out HR.out (by decide) ho)
                  have H52 := Aside0.mk (R_only H5.out HR.out (by decide) ho)
                  have HR2 := Aside0.mk hr
                  have z2 := hr.c1
                  clear z1 hr ho HR HX HT H6 H5
                  by_cases c2 : en - (p + 1) < m1
                  · rw [if_pos c2] at hl
                    have d2 : decide (en - (p + 1) < m1) = true := decide_eq_true c2
                    have hE := HE.out
                    rw [← hl] at hE
                    have HE := Lib.hid hE
                    clear hl hE c2
                    go_wp2_with fail
                    exact ⟨rfl, DataEnds.err HE.out.symm HT2.out⟩
                  rw [if_neg c2] at hl
                  have d2 : decide (en - (p + 1) < m1) = false := decide_eq_false c2
                  obtain ⟨A6, n6, c6, rfl⟩ := R_anyslice H62.out
                  have y6 : w2.cell? ⟨h, 6, none⟩ = some (.slice A6 n6 c6) := (HX2.out.cell 6).trans rfl
                  clear c2
                  go_wp2_with fail
                  refine start_ (n := 13) (S := fun w' => w'.cell? ⟨h, 6, none⟩ = some (.slice A6 n6 c6)) (ds := [12]) (Array.replicate 13 false) (by kernel_rfl) (by kernel_rfl) rfl (by exact y6) (fun hS => ?_)
                  refine dpure 0 (some 87) rfl rfl (by kernel_rfl) (fun _ _ _ h => h) (by rfl) (v := ?_) (a' := ?_) ?_ ?_ ?_
                  rotate_left 2
                  · intro w'; go_simp; with_reducible rfl
                  · simp only [Act.put, List.setIfInBounds_toArray, List.set_cons_zero, List.set_cons_succ]; rfl
                  refine dpure 1 (some 88) rfl rfl (by kernel_rfl) (fun _ _ _ h => h) (by rfl) (v := ?_) (a' := ?_) ?_ ?_ ?_
                  rotate_left 2
                  · intro w'; go_simp; with_reducible rfl
                  · simp only [Act.put, List.setIfInBounds_toArray, List.set_cons_zero, List.set_cons_succ]; rfl
                  refine dpure 2 (some 89) rfl rfl (by kernel_rfl) (fun _ _ _ h => h) (by rfl) (v := ?_) (a' := ?_) ?_ ?_ ?_
                  rotate_left 2
                  · intro w'; go_simp; with_reducible rfl
                  · simp only [Act.put, List.setIfInBounds_toArray, List.set_cons_zero, List.set_cons_succ]; rfl
                  refine dpure 3 (some 90) rfl rfl (by kernel_rfl) (fun _ _ _ h => h) (by rfl) (v := ?_) (a' := ?_) ?_ ?_ ?_
                  rotate_left 2
                  · intro w'; go_simp; with_reducible rfl
                  · simp only [Act.put, List.setIfInBounds_toArray, List.set_cons_zero, List.set_cons_succ]; rfl
                  refine dtake 4 (some 91) rfl rfl (by kernel_rfl) (fun _ _ _ h => h) (by rfl) hS (v := ?_) (a' := ?_) ?_ ?_ ?_
                  rotate_left 2
                  · rintro w' s0; go_simp; with_reducible rfl
                  · simp only [Act.put, List.setIfInBounds_toArray, List.set_cons_zero, List.set_cons_succ]; rfl
                  refine dpure 5 (some 92) rfl rfl (by kernel_rfl) (fun _ _ _ h => h) (by rfl) (v := ?_) (a' := ?_) ?_ ?_ ?_
                  rotate_left 2
                  · intro w'; go_simp; with_reducible rfl
                  · simp only [Act.put, List.setIfInBounds_toArray, List.set_cons_zero, List.set_cons_succ]; rfl
                  refine dpure 6 (some 93) rfl rfl (by kernel_rfl) (fun _ _ _ h => h) (by rfl) (v := ?_) (a' := ?_) ?_ ?_ ?_
                  rotate_left 2
                  · intro w'; go_simp; with_reducible rfl
                  · simp only [Act.put, List.setIfInBounds_toArray, List.set_cons_zero, List.set_cons_succ]; rfl
                  cases h3 : partF s (p + 1) m1 with
                  | none =>
                    rw [h3] at hl
                    have hE := HE.out
                    rw [← hl] at hE
                    refine done1 7 (some 94) rfl rfl (by kernel_rfl) (by decide) (fun K hK => ?_)
                    refine goesp_ Try.func78 (by kernel_rfl) rfl #[.pointer (some ⟨g, 0, none⟩), .int .i64 m1] (by rfl) rfl rfl (by kernel_rfl) ?_
                    refine (text_no (w := w2.drew) HR2.out HS.out.1 h3).mono ?_
                    rintro e w3 ⟨rfl, ho⟩
                    exact .inr ⟨_, rfl, rfl, DataEnds.err hE.symm (HT2.out.drew.only ho)⟩
                  | some tx =>
                    rw [h3] at hl
                    have HL := Aside0.mk hl
                    have HA2 := Aside0.mk (show 0 ≤ p + 1 + m1 ∧ p + 1 + m1 ≤ s.size by have := part_at h3; omega)
                    clear hl
                    refine done1 7 (some 94) rfl rfl (by kernel_rfl) (by decide) (fun K hK => ?_)
                    refine goes_ Try.func78 (by kernel_rfl) rfl #[.pointer (some ⟨g, 0, none⟩), .int .i64 m1] (by rfl) rfl rfl (by kernel_rfl) ?_
                    refine (text_yes (w := w2.drew) HR2.out HS.out.1 h3).mono ?_
                    rintro e w4 ⟨rfl, hr2, ho⟩
                    refine ⟨_, rfl, ?_⟩
                    have hx2 := XAt.only (w := w2.drew) HX2.out HR2.out ho
                    have ht2 := HT2.out.drew.only ho
                    have h62 := R_only (w := w2.drew) (Kd.R_drew H62.out) HR2.out (by decide) ho
                    have h52 := R_only (w := w2.drew) (Kd.R_drew H52.out) HR2.out (by decide) ho
                    refine hK.out _ _ ((hx2.cell 6).trans rfl) (fun hS => ?_)
                    clear hK K
                    refine norm_ (a' := ?_) ?_ ?_
                    rotate_left
                    · simp only [Act.put, List.setIfInBounds_toArray, List.set_cons_zero, List.set_cons_succ]; rfl
                    refine done1 8 (some 95) rfl rfl (by kernel_rfl) (by decide) (fun K hK => ?_)
                    refine event_step (by kernel_rfl) (v := .slice (some ⟨w4.heap.size, 0, none⟩) 1 1) (w1 := w4.alloc (.cells #[.string tx] 9)) (by go_simp; done) ?_
                    refine hK.out _ _ ((blk_cell (blk_below hx2 (below_alloc (Below.refl _ _) _)) 6).trans rfl) (fun hS => ?_)
                    clear hK K
                    refine norm_ (a' := ?_) ?_ ?_
                    rotate_left
                    · simp only [Act.put, List.setIfInBounds_toArray, List.set_cons_zero, List.set_cons_succ]; rfl
                    refine done1 9 (some 96) rfl rfl (by kernel_rfl) (by decide) (fun K hK => ?_)
                    refine Kd.R_append_step Kd.string (w0 := w4) w.heap.size (by kernel_rfl) (.tmp 91) (.tmp 95) 82 9 (.string ⟨#[]⟩) 16 (by rfl) Try.underlying82 infoS rfl (by decide) (by decide) (.slice A6 n6 c6) txt tx [.string tx] (fun _ => True) (fun _ => False) (by rfl) (by rfl) rfl (fun _ hk => hk.elim) (fun _ _ => trivial) h62 (Below.refl _ _) ht2.size (by have := HTl.out; omega) ?_
                    intro v3 w3 ho3 hb3 hg3 _
                    obtain ⟨A3, n3, c3, rfl⟩ := R_anyslice ho3
                    have hx3 : XAt w3 h f0 k c t _ _ _ := blk_grown hx2 hg3 (Kd.R_ne h62 hx2 (by decide))
                    have hr3 : RAt w3 g s (p + 1 + m1) := blk_grown hr2 hg3 (Kd.R_ne h62 hr2 (by decide))
                    have h53 := Kd.R_over h52 h62 (by decide) hg3
                    have ht3 := ht2.of_grown hg3 (Kd.R_base h62)
                    have f6 : w3.frozen? ⟨h, 6, none⟩ = false := blk_frozen hx3 6
                    have y6' : w3.cell? ⟨h, 6, none⟩ = some (.slice A6 n6 c6) := (hx3.cell 6).trans rfl
                    refine hK.out _ _ y6' (fun hS => ?_)
                    clear hK K
                    refine norm_ (a' := ?_) ?_ ?_
                    rotate_left
                    · simp only [Act.put, List.setIfInBounds_toArray, List.set_cons_zero, List.set_cons_succ]; rfl
                    refine dpure 10 (some 97) rfl rfl (by kernel_rfl) (fun _ _ _ h => h) (by rfl) (v := ?_) (a' := ?_) ?_ ?_ ?_
                    rotate_left 2
                    · intro w'; go_simp; with_reducible rfl
                    · simp only [Act.put, List.setIfInBounds_toArray, List.set_cons_zero, List.set_cons_succ]; rfl
                    refine dpure 11 (some 98) rfl rfl (by kernel_rfl) (fun _ _ _ h => h) (by rfl) (v := ?_) (a' := ?_) ?_ ?_ ?_
                    rotate_left 2
                    · intro w'; go_simp; with_reducible rfl
                    · simp only [Act.put, List.setIfInBounds_toArray, List.set_cons_zero, List.set_cons_succ]; rfl
                    refine dlast 12 (Array.getElem?_eq_getElem (by decide)) (by kernel_rfl) (List.mem_singleton.2 rfl) ?_
                    intro K hK
                    refine dskip (w1 := w3.setCell ⟨h, 6, none⟩ (.slice A3 n3 c3)) (by kernel_rfl) (by kernel_rfl) ?_ ?_
                    · go_simp
                    refine hK.out _ _ (done_ (by kernel_rfl) ?_)
                    clear hK K
                    have HX := Aside0.mk (hx3.set6 (.slice A3 n3 c3))
                    have HR := Aside0.mk (hr3.setx hx3 6 (.slice A3 n3 c3))
                    have HT := Aside0.mk (ht3.set 6 (.slice A3 n3 c3))
                    have H6 := Aside0.mk (Kd.R_set ho3 hx3 (by decide) 6 (.slice A3 n3 c3))
                    have H5 := Aside0.mk (Kd.R_set h53 hx3 (by decide) 6 (.slice A3 n3 c3))
                    clear hx3 hr3 h53 ht3 ho3 hb3 hg3 hx2 ht2 h62 h52 hr2 f6
                    go_wp2_with fail
                    go_roundg gk
                    case measure => omega
                    case rel => exact ⟨_, p + 1 + m1, _, HL, ⟨by have := HK2.out; have := C1.out; omega⟩, HA2, ⟨by have := HTl.out; rw [List.length_append, List.length_singleton]; omega⟩, HR, HX, HT, H6, H5⟩
              · rw [if_neg c1] at hl
                have d1 : decide (p < en) = false := decide_eq_false c1
                have hE := HE.out
                rw [← hl] at hE
                simp only [dataE_eq] at hE
                have H4 := Aside0.mk (Kd.R_nil Kd.string 9 wr w.heap.size (fun _ => True))
                clear hl c1 z1
                have z1 := HR.out.c1
                by_cases c9 : p = en
                · rw [if_pos c9] at hE
                  have HE := Lib.hid hE
                  have d9 : (p != en) = false := by rw [bne_eq_false_iff_eq]; exact c9
                  clear hE c9
                  go_wp2_with fail
                  go_end0
                  exact DataEnds.ok HE.out.symm HR.out HX.out H4.out H5.out H6.out HT.out
                · rw [if_neg c9] at hE
                  have HE := Lib.hid hE
                  have d9 : (p != en) = true := by rw [bne_iff_ne]; exact c9
                  clear hE c9
                  go_wp2_with fail
                  exact ⟨rfl, DataEnds.err HE.out.symm HT.out⟩
          have d16 : (k == 16) = false := beq_eq_false_iff_ne.mpr k16
          have H6 := Aside0.mk (Kd.R_nil Kd.string 9 wr w.heap.size (fun _ => True))
          by_cases k0 : i + m = 0
          · rw [dataT_free k16 (by rw [HNM.out.1, HNM.out.2]; exact k0)] at hE
            have i0 : i = 0 := by omega
            have hv4 := HZ.out i0
            injection hv4 with hv1 hv2 hv3
            obtain rfl : out = [] := List.length_eq_zero_iff.1 hv2
            subst hv1
            subst hv3
            clear hv2
            have d0 : ((i : Int) + (m : Int) == 0) = true := beq_iff_eq.mpr (by omega)
            have hsub : IntKind.i64.wrap (en - at') = en - at' := by have := HA.out; have := HS.out; rw [IntKind.wrap_i64]; omega
            have y6 : wr.cell? ⟨h, 6, none⟩ = some (.slice none 0 0) := (HX.out.cell 6).trans rfl
            have z1 := HR.out.c1
            clear k16 k0 i0 H4
            go_wp2_with fail
            refine start_ (n := 18) (S := fun w' => w'.cell? ⟨h, 6, none⟩ = some (.slice none 0 0)) (ds := [17]) (Array.replicate 18 false) (by kernel_rfl) (by kernel_rfl) rfl (by exact y6) (fun hS => ?_)
            refine dpure 0 (some 104) rfl rfl (by kernel_rfl) (fun _ _ _ h => h) (by rfl) (v := ?_) (a' := ?_) ?_ ?_ ?_
            rotate_left 2
            · intro w'; go_simp; with_reducible rfl
            · simp only [Act.put, List.setIfInBounds_toArray, List.set_cons_zero, List.set_cons_succ]; rfl
            refine dpure 1 (some 105) rfl rfl (by kernel_rfl) (fun _ _ _ h => h) (by rfl) (v := ?_) (a' := ?_) ?_ ?_ ?_
            rotate_left 2
            · intro w'; go_simp; with_reducible rfl
            · simp only [Act.put, List.setIfInBounds_toArray, List.set_cons_zero, List.set_cons_succ]; rfl
            refine dpure 2 (some 106) rfl rfl (by kernel_rfl) (fun _ _ _ h => h) (by rfl) (v := ?_) (a' := ?_) ?_ ?_ ?_
            rotate_left 2
            · intro w'; go_simp; with_reducible rfl
            · simp only [Act.put, List.setIfInBounds_toArray, List.set_cons_zero, List.set_cons_succ]; rfl
            refine dpure 3 (some 107) rfl rfl (by kernel_rfl) (fun _ _ _ h => h) (by rfl) (v := ?_) (a' := ?_) ?_ ?_ ?_
            rotate_left 2
            · intro w'; go_simp; with_reducible rfl
            · simp only [Act.put, List.setIfInBounds_toArray, List.set_cons_zero, List.set_cons_succ]; rfl
            refine dtake 4 (some 108) rfl rfl (by kernel_rfl) (fun _ _ _ h => h) (by rfl) hS (v := ?_) (a' := ?_) ?_ ?_ ?_
            rotate_left 2
            · rintro w' s0; go_simp; with_reducible rfl
            · simp only [Act.put, List.setIfInBounds_toArray, List.set_cons_zero, List.set_cons_succ]; rfl
            refine dpure 5 (some 109) rfl rfl (by kernel_rfl) (fun _ _ _ h => h) (by rfl) (v := ?_) (a' := ?_) ?_ ?_ ?_
            rotate_left 2
            · intro w'; go_simp; with_reducible rfl
            · simp only [Act.put, List.setIfInBounds_toArray, List.set_cons_zero, List.set_cons_succ]; rfl
            refine dpure 6 (some 110) rfl rfl (by kernel_rfl) (fun _ _ _ h => h) (by rfl) (v := ?_) (a' := ?_) ?_ ?_ ?_
            rotate_left 2
            · intro w'; go_simp; with_reducible rfl
            · simp only [Act.put, List.setIfInBounds_toArray, List.set_cons_zero, List.set_cons_succ]; rfl
            refine dpure 7 (some 111) rfl rfl (by kernel_rfl) (fun _ _ _ h => h) (by rfl) (v := ?_) (a' := ?_) ?_ ?_ ?_
            rotate_left 2
            · intro w'; go_simp; with_reducible rfl
            · simp only [Act.put, List.setIfInBounds_toArray, List.set_cons_zero, List.set_cons_succ]; rfl
            refine dpure 8 (some 112) rfl rfl (by kernel_rfl) (fun _ _ _ h => h) (by rfl) (v := ?_) (a' := ?_) ?_ ?_ ?_
            rotate_left 2
            · intro w'; go_simp; with_reducible rfl
            · simp only [Act.put, List.setIfInBounds_toArray, List.set_cons_zero, List.set_cons_succ]; rfl
            refine dpure 9 (some 113) rfl rfl (by kernel_rfl) (fun _ _ _ h => h) (by rfl) (v := ?_) (a' := ?_) ?_ ?_ ?_
            rotate_left 2
            · intro w'; go_simp; with_reducible rfl
            · simp only [Act.put, List.setIfInBounds_toArray, List.set_cons_zero, List.set_cons_succ]; rfl
            refine done1 10 (some 114) rfl rfl (by kernel_rfl) (by decide) (fun K hK => ?_)
            refine event_step (by kernel_rfl) (v := .int .i64 at') (w1 := wr.drew) (by go_simp; done) ?_
            refine hK.out _ _ y6 (fun hS => ?_)
            clear hK K
            refine norm_ (a' := ?_) ?_ ?_
            rotate_left
            · simp only [Act.put, List.setIfInBounds_toArray, List.set_cons_zero, List.set_cons_succ]; rfl
            refine dpure 11 (some 115) rfl rfl (by kernel_rfl) (fun _ _ _ h => h) (by rfl) (v := .int .i64 (en - at')) (a' := ?_) ?_ ?_ ?_
            rotate_left 1
            · intro w'; go_simp; first | done | rw [hsub]
            · simp only [Act.put, List.setIfInBounds_toArray, List.set_cons_zero, List.set_cons_succ]; rfl
            cases h3 : partF s at' (en - at') with
            | none =>
              rw [h3] at hE
              refine done1 12 (some 116) rfl rfl (by kernel_rfl) (by decide) (fun K hK => ?_)
              refine goesp_ Try.func78 (by kernel_rfl) rfl #[.pointer (some ⟨g, 0, none⟩), .int .i64 (en - at')] (by rfl) rfl rfl (by kernel_rfl) ?_
              refine (text_no (w := wr.drew) HR.out HS.out.1 h3).mono ?_
              rintro e w3 ⟨rfl, ho⟩
              exact .inr ⟨_, rfl, rfl, DataEnds.err hE.symm (HT.out.drew.only ho)⟩
            | some tx =>
              rw [h3] at hE
              have HE := Lib.hid ((if_pos rfl).symm.trans hE : Except.ok (([], nums, [tx]), en) = R)
              clear hE
              refine done1 12 (some 116) rfl rfl (by kernel_rfl) (by decide) (fun K hK => ?_)
              refine goes_ Try.func78 (by kernel_rfl) rfl #[.pointer (some ⟨g, 0, none⟩), .int .i64 (en - at')] (by rfl) rfl rfl (by kernel_rfl) ?_
              refine (text_yes (w := wr.drew) HR.out HS.out.1 h3).mono ?_
              rintro e w4 ⟨rfl, hr2, ho⟩
              refine ⟨_, rfl, ?_⟩
              rw [show at' + (en - at') = en by omega] at hr2
              have hx2 := XAt.only (w := wr.drew) HX.out HR.out ho
              have ht2 := HT.out.drew.only ho
              have h62 := Kd.R_nil Kd.string 9 w4 w.heap.size (fun _ => True)
              have h52 := R_only (w := wr.drew) (Kd.R_drew H5.out) HR.out (by decide) ho
              refine hK.out _ _ ((hx2.cell 6).trans rfl) (fun hS => ?_)
              clear hK K
              refine norm_ (a' := ?_) ?_ ?_
              rotate_left
              · simp only [Act.put, List.setIfInBounds_toArray, List.set_cons_zero, List.set_cons_succ]; rfl
              refine done1 13 (some 117) rfl rfl (by kernel_rfl) (by decide) (fun K hK => ?_)
              refine event_step (by kernel_rfl) (v := .slice (some ⟨w4.heap.size, 0, none⟩) 1 1) (w1 := w4.alloc (.cells #[.string tx] 9)) (by go_simp; done) ?_
              refine hK.out _ _ ((blk_cell (blk_below hx2 (below_alloc (Below.refl _ _) _)) 6).trans rfl) (fun hS => ?_)
              clear hK K
              refine norm_ (a' := ?_) ?_ ?_
              rotate_left
              · simp only [Act.put, List.setIfInBounds_toArray, List.set_cons_zero, List.set_cons_succ]; rfl
              refine done1 14 (some 118) rfl rfl (by kernel_rfl) (by decide) (fun K hK => ?_)
              refine Kd.R_append_step Kd.string (w0 := w4) w.heap.size (by kernel_rfl) (.tmp 108) (.tmp 117) 82 9 (.string ⟨#[]⟩) 16 (by rfl) Try.underlying82 infoS rfl (by decide) (by decide) (.slice none 0 0) [] tx [.string tx] (fun _ => True) (fun _ => False) (by rfl) (by rfl) rfl (fun _ hk => hk.elim) (fun _ _ => trivial) h62 (Below.refl _ _) ht2.size (by decide) ?_
              intro v3 w3 ho3 hb3 hg3 _
              obtain ⟨A3, n3, c3, rfl⟩ := R_anyslice ho3
              have hx3 : XAt w3 h f0 k c t _ _ _ := blk_grown hx2 hg3 (Kd.R_ne h62 hx2 (by decide))
              have hr3 : RAt w3 g s (en) := blk_grown hr2 hg3 (Kd.R_ne h62 hr2 (by decide))
              have h53 := Kd.R_over h52 h62 (by decide) hg3
              have ht3 := ht2.of_grown hg3 (Kd.R_base h62)
              have f6 : w3.frozen? ⟨h, 6, none⟩ = false := blk_frozen hx3 6
              have y6' : w3.cell? ⟨h, 6, none⟩ = some (.slice none 0 0) := (hx3.cell 6).trans rfl
              refine hK.out _ _ y6' (fun hS => ?_)
              clear hK K
              refine norm_ (a' := ?_) ?_ ?_
              rotate_left
              · simp only [Act.put, List.setIfInBounds_toArray, List.set_cons_zero, List.set_cons_succ]; rfl
              refine dpure 15 (some 119) rfl rfl (by kernel_rfl) (fun _ _ _ h => h) (by rfl) (v := ?_) (a' := ?_) ?_ ?_ ?_
              rotate_left 2
              · intro w'; go_simp; with_reducible rfl
              · simp only [Act.put, List.setIfInBounds_toArray, List.set_cons_zero, List.set_cons_succ]; rfl
              refine dpure 16 (some 120) rfl rfl (by kernel_rfl) (fun _ _ _ h => h) (by rfl) (v := ?_) (a' := ?_) ?_ ?_ ?_
              rotate_left 2
              · intro w'; go_simp; with_reducible rfl
              · simp only [Act.put, List.setIfInBounds_toArray, List.set_cons_zero, List.set_cons_succ]; rfl
              refine dlast 17 (Array.getElem?_eq_getElem (by decide)) (by kernel_rfl) (List.mem_singleton.2 rfl) ?_
              intro K hK
              refine dskip (w1 := w3.setCell ⟨h, 6, none⟩ (.slice A3 n3 c3)) (by kernel_rfl) (by kernel_rfl) ?_ ?_
              · go_simp
              refine hK.out _ _ (done_ (by kernel_rfl) ?_)
              clear hK K
              have HX := Aside0.mk (hx3.set6 (.slice A3 n3 c3))
              have HR := Aside0.mk (hr3.setx hx3 6 (.slice A3 n3 c3))
              have HT := Aside0.mk (ht3.set 6 (.slice A3 n3 c3))
              have H6 := Aside0.mk (Kd.R_set ho3 hx3 (by decide) 6 (.slice A3 n3 c3))
              have H5 := Aside0.mk (Kd.R_set h53 hx3 (by decide) 6 (.slice A3 n3 c3))
              clear hx3 hr3 h53 ht3 ho3 hb3 hg3 hx2 ht2 h62 h52 hr2 f6
              have H4 := Aside0.mk (Kd.R_nil Kd.string 9 (w3.setCell ⟨h, 6, none⟩ (.slice A3 n3 c3)) w.heap.size (fun _ => True))
              have z1 := HR.out.c1
              have d9 : (en != en) = false := by rw [bne_eq_false_iff_eq]
              clear y6 y6'
              go_wp2_with fail
              go_end0
              exact DataEnds.ok HE.out.symm HR.out HX.out H4.out H5.out H6.out HT.out
          · rw [dataT_none k16 (by rw [HNM.out.1, HNM.out.2]; exact k0), dataE_eq] at hE
            have d0 : ((i : Int) + (m : Int) == 0) = false := beq_eq_false_iff_ne.mpr (by omega)
            clear k16 k0
            have z1 := HR.out.c1
            by_cases c9 : at' = en
            · rw [if_pos c9] at hE
              have HE := Lib.hid hE
              have d9 : (at' != en) = false := by rw [bne_eq_false_iff_eq]; exact c9
              clear hE c9
              go_wp2_with fail
              go_end0
              exact DataEnds.ok HE.out.symm HR.out HX.out H4.out H5.out H6.out HT.out
            · rw [if_neg c9] at hE
              have HE := Lib.hid hE
              have d9 : (at' != en) = true := by rw [bne_iff_ne]; exact c9
              clear hE c9
              go_wp2_with fail
              exact ⟨rfl, DataEnds.err HE.out.symm HT.out⟩
        | succ gk =>
          unfold namesR at he
          have q1 : (i : Int) < (n : Int) := by have := HK.out; omega
          have hne := HX.out.ne HR.out
          have y1 : wr.cell? ⟨h, 1, none⟩ = some (.int .u16 k) := (HX.out.cell 1).trans rfl
          have y4 : wr.cell? ⟨h, 4, none⟩ = some (.slice A4 out.length c4) := (HX.out.cell 4).trans rfl
          go_wp2_with fail
          refine start_ (n := 17) (S := fun w' => w'.cell? ⟨h, 1, none⟩ = some (.int .u16 k) ∧ w'.cell? ⟨h, 4, none⟩ = some (.slice A4 out.length c4)) (ds := [16]) (Array.replicate 17 false) (by kernel_rfl) (by kernel_rfl) rfl ⟨y1, y4⟩ (fun hS => ?_)
          refine dpure 0 (some 34) rfl rfl (by kernel_rfl) (fun _ _ _ h => h) (by rfl) (v := ?_) (a' := ?_) ?_ ?_ ?_
          rotate_left 2
          · intro w'; go_simp; with_reducible rfl
          · simp only [Act.put, List.setIfInBounds_toArray, List.set_cons_zero, List.set_cons_succ]; rfl
          refine dpure 1 (some 35) rfl rfl (by kernel_rfl) (fun _ _ _ h => h) (by rfl) (v := ?_) (a' := ?_) ?_ ?_ ?_
          rotate_left 2
          · intro w'; go_simp; with_reducible rfl
          · simp only [Act.put, List.setIfInBounds_toArray, List.set_cons_zero, List.set_cons_succ]; rfl
          refine dpure 2 (some 36) rfl rfl (by kernel_rfl) (fun _ _ _ h => h) (by rfl) (v := ?_) (a' := ?_) ?_ ?_ ?_
          rotate_left 2
          · intro w'; go_simp; with_reducible rfl
          · simp only [Act.put, List.setIfInBounds_toArray, List.set_cons_zero, List.set_cons_succ]; rfl
          refine dpure 3 (some 37) rfl rfl (by kernel_rfl) (fun _ _ _ h => h) (by rfl) (v := ?_) (a' := ?_) ?_ ?_ ?_
          rotate_left 2
          · intro w'; go_simp; with_reducible rfl
          · simp only [Act.put, List.setIfInBounds_toArray, List.set_cons_zero, List.set_cons_succ]; rfl
          refine dtake 4 (some 38) rfl rfl (by kernel_rfl) (fun _ _ _ h => h) (by rfl) hS (v := ?_) (a' := ?_) ?_ ?_ ?_
          rotate_left 2
          · rintro w' ⟨s0,s1⟩; go_simp; with_reducible rfl
          · simp only [Act.put, List.setIfInBounds_toArray, List.set_cons_zero, List.set_cons_succ]; rfl
          refine dpure 5 (some 39) rfl rfl (by kernel_rfl) (fun _ _ _ h => h) (by rfl) (v := ?_) (a' := ?_) ?_ ?_ ?_
          rotate_left 2
          · intro w'; go_simp; with_reducible rfl
          · simp only [Act.put, List.setIfInBounds_toArray, List.set_cons_zero, List.set_cons_succ]; rfl
          refine dpure 6 (some 40) rfl rfl (by kernel_rfl) (fun _ _ _ h => h) (by rfl) (v := ?_) (a' := ?_) ?_ ?_ ?_
          rotate_left 2
          · intro w'; go_simp; with_reducible rfl
          · simp only [Act.put, List.setIfInBounds_toArray, List.set_cons_zero, List.set_cons_succ]; rfl
          refine dpure 7 (some 41) rfl rfl (by kernel_rfl) (fun _ _ _ h => h) (by rfl) (v := ?_) (a' := ?_) ?_ ?_ ?_
          rotate_left 2
          · intro w'; go_simp; with_reducible rfl
          · simp only [Act.put, List.setIfInBounds_toArray, List.set_cons_zero, List.set_cons_succ]; rfl
          refine dpure 8 (some 42) rfl rfl (by kernel_rfl) (fun _ _ _ h => h) (by rfl) (v := ?_) (a' := ?_) ?_ ?_ ?_
          rotate_left 2
          · intro w'; go_simp; with_reducible rfl
          · simp only [Act.put, List.setIfInBounds_toArray, List.set_cons_zero, List.set_cons_succ]; rfl
          refine dtake 9 (some 43) rfl rfl (by kernel_rfl) (fun _ _ _ h => h) (by rfl) hS (v := ?_) (a' := ?_) ?_ ?_ ?_
          rotate_left 2
          · rintro w' ⟨s0,s1⟩; go_simp; with_reducible rfl
          · simp only [Act.put, List.setIfInBounds_toArray, List.set_cons_zero, List.set_cons_succ]; rfl
          refine dpure 10 (some 44) rfl rfl (by kernel_rfl) (fun _ _ _ h => h) (by rfl) (v := ?_) (a' := ?_) ?_ ?_ ?_
          rotate_left 2
          · intro w'; go_simp; with_reducible rfl
          · simp only [Act.put, List.setIfInBounds_toArray, List.set_cons_zero, List.set_cons_succ]; rfl
          refine done1 11 (some 45) rfl rfl (by kernel_rfl) (by decide) (fun K hK => ?_)
          refine goesp_ Try.func90 (by kernel_rfl) rfl #[.pointer (some ⟨g, 0, none⟩), .int .u16 k, .int .i64 en] (by rfl) rfl rfl (by kernel_rfl) ?_
          refine (within_calls (w := wr.drew) HR.out HS.out.1 HA.out.1 HA.out.2 HS.out.2.1 HS.out.2.2).mono ?_
          intro e w2 ht
          have ho : Only g wr w2 := ⟨ht.only.os, ht.only.tape, ht.only.output, ht.only.size, ht.only.block⟩
          have hx2 := HX.out.only HR.out ho
          have ht2 := HT.out.only ho
          have h42 := R_only H4.out HR.out (by decide) ho
          have h52 := R_only H5.out HR.out (by decide) ho
          cases hw : withinF s k at' en with
          | error d =>
            rw [hw] at he
            obtain rfl := ht.bad d hw
            have hq := HQ.out
            rw [← he] at hq
            exact .inr ⟨_, rfl, rfl, DataEnds.err hq.symm ht2⟩
          | ok x =>
            obtain ⟨b, a2⟩ := x
            rw [hw] at he
            obtain ⟨rfl, hr2⟩ := ht.good b a2 hw
            have HL := Aside0.mk he
            have HA2 := Aside0.mk (within_at hw)
            refine .inl ⟨_, rfl, ?_⟩
            clear ho ht hw he
            have hne4 := fun (u : Kd.R Kd.string 9 w2 w.heap.size (fun _ => True) (.slice A4 out.length c4) out) => Kd.R_ne u hx2 (by decide)
            refine hK.out _ _ ⟨(hx2.cell 1).trans rfl, (hx2.cell 4).trans rfl⟩ (fun hS => ?_)
            clear hK K
            refine norm_ (a' := ?_) ?_ ?_
            rotate_left
            · simp only [Act.put, List.setIfInBounds_toArray, List.set_cons_zero, List.set_cons_succ]; rfl
            refine done1 12 (some 46) rfl rfl (by kernel_rfl) (by decide) (fun K hK => ?_)
            refine event_step (by kernel_rfl) (v := .slice (some ⟨w2.heap.size, 0, none⟩) 1 1) (w1 := w2.alloc (.cells #[.string (strOfNums b)] 9)) (by go_simp; done) ?_
            refine hK.out _ _ ⟨(blk_cell (blk_below hx2 (below_alloc (Below.refl _ _) _)) 1).trans rfl, (blk_cell (blk_below hx2 (below_alloc (Below.refl _ _) _)) 4).trans rfl⟩ (fun hS => ?_)
            clear hK K
            refine norm_ (a' := ?_) ?_ ?_
            rotate_left
            · simp only [Act.put, List.setIfInBounds_toArray, List.set_cons_zero, List.set_cons_succ]; rfl
            refine done1 13 (some 47) rfl rfl (by kernel_rfl) (by decide) (fun K hK => ?_)
            refine Kd.R_append_step Kd.string (w0 := w2) w.heap.size (by kernel_rfl) (.tmp 38) (.tmp 46) 82 9 (.string ⟨#[]⟩) 16 (by rfl) Try.underlying82 infoS rfl (by decide) (by decide) (.slice A4 out.length c4) out (strOfNums b) [.string (strOfNums b)] (fun _ => True) (fun _ => False) (by rfl) (by rfl) rfl (fun _ hk => hk.elim) (fun _ _ => trivial) h42 (Below.refl _ _) ht2.size (by have := HLen.out; have := HK.out; omega) ?_
            intro v3 w3 ho3 hb3 hg3 _
            obtain ⟨A3, n3, c3, rfl⟩ := R_anyslice ho3
            have hx3 : XAt w3 h f0 k c t _ _ _ := blk_grown hx2 hg3 (hne4 h42)
            have hr3 : RAt w3 g s a2 := blk_grown hr2 hg3 (Kd.R_ne h42 hr2 (by decide))
            have h53 := Kd.R_over h52 h42 (by decide) hg3
            have ht3 := ht2.of_grown hg3 (Kd.R_base h42)
            have y4' : w3.cell? ⟨h, 4, none⟩ = some (.slice A4 out.length c4) := (hx3.cell 4).trans rfl
            have f4 : w3.frozen? ⟨h, 4, none⟩ = false := blk_frozen hx3 4
            refine hK.out _ _ ⟨(hx3.cell 1).trans rfl, y4'⟩ (fun hS => ?_)
            clear hK K
            refine norm_ (a' := ?_) ?_ ?_
            rotate_left
            · simp only [Act.put, List.setIfInBounds_toArray, List.set_cons_zero, List.set_cons_succ]; rfl
            refine dpure 14 (some 48) rfl rfl (by kernel_rfl) (fun _ _ _ h => h) (by rfl) (v := ?_) (a' := ?_) ?_ ?_ ?_
            rotate_left 2
            · intro w'; go_simp; with_reducible rfl
            · simp only [Act.put, List.setIfInBounds_toArray, List.set_cons_zero, List.set_cons_succ]; rfl
            refine dpure 15 (some 49) rfl rfl (by kernel_rfl) (fun _ _ _ h => h) (by rfl) (v := ?_) (a' := ?_) ?_ ?_ ?_
            rotate_left 2
            · intro w'; go_simp; with_reducible rfl
            · simp only [Act.put, List.setIfInBounds_toArray, List.set_cons_zero, List.set_cons_succ]; rfl
            refine dlast 16 (Array.getElem?_eq_getElem (by decide)) (by kernel_rfl) (List.mem_singleton.2 rfl) ?_
            intro K hK
            refine dskip (w1 := w3.setCell ⟨h, 4, none⟩ (.slice A3 n3 c3)) (by kernel_rfl) (by kernel_rfl) ?_ ?_
            · go_simp
            refine hK.out _ _ (done_ (by kernel_rfl) ?_)
            clear hK K
            have HX4 := Aside0.mk (hx3.set4 (.slice A3 n3 c3))
            have HR4 := Aside0.mk (hr3.setx hx3 4 (.slice A3 n3 c3))
            have HT4 := Aside0.mk (ht3.set 4 (.slice A3 n3 c3))
            have H44 := Aside0.mk (Kd.R_set ho3 hx3 (by decide) 4 (.slice A3 n3 c3))
            have H54 := Aside0.mk (Kd.R_set h53 hx3 (by decide) 4 (.slice A3 n3 c3))
            clear hx3 hr3 h53 ht3 ho3 hb3 hg3 hx2 ht2 h42 h52 hr2 hne4 y4' y1 y4 hne f4
            go_wp2_with fail
            go_roundg gk
            case measure => omega
            case rel => exact ⟨i + 1, _, a2, _, by go_num, HL, ⟨by have := HK.out; omega⟩, ⟨by have := HLen.out; rw [List.length_append, List.length_singleton]; omega⟩, HA2, HR4, HX4, HT4, H44, H54, ⟨fun h => absurd h (by omega)⟩⟩
end Go.Proofs.Ytfoflodgegehfaa.M
set_option linter.unusedVariables false
set_option linter.unusedSimpArgs false
namespace Go.Proofs.Ytfoflodgegehfaa.M
open Go.RowKit Go.Proofs.YtfoflodgegehfaaW.PrintWords Go.Proofs.YtfoflodgegehfaaW.PrintLast Go.Proofs.YtfoflodgegehfaaW.PrintMore
attribute [local go_sem] max2_int min2_int max_two min_two max_three min_three max_four min_four
def putL (n : Int) : Nat → List Int
  | 0 => []
  | k + 1 => n / 2 ^ (8 * k) % 256 :: putL n k
theorem copied (l : List Int) (z : Int) : l.take (min l.length (List.replicate ((l.length : Int)).toNat z).length) ++ (List.replicate ((l.length : Int)).toNat z).drop (min l.length (List.replicate ((l.length : Int)).toNat z).length) = l := by
  simp
set_option maxHeartbeats 2000000 in
set_option maxRecDepth 100000 in
theorem Put_calls (A0 : Option Addr) (c0 : Nat) (l0 : List Int) (a1 a2 : Int) (w : World) (hr0 : Kd.C (Kd.int .u8) w A0 l0.length l0) (hc0 : l0.length ≤ c0) (hl : l0.length ≤ 1000000000) (h1 : 0 ≤ a2) (h2 : a2 ≤ 8) :
    Calls Try.prog 100 #[.slice A0 l0.length c0, .int .u64 a1, .int .i64 a2] w fun e w' => ∃ v, e = .returned v ∧ Kd.R (Kd.int .u8) 5 w' w.heap.size (fun _ => True) v (l0 ++ putL a1 a2.toNat) ∧ Below w.heap.size w w' := by
  have HC := Aside0.mk hr0
  have HL := Aside0.mk hl
  have HB := Aside0.mk (Below.refl w.heap.size w)
  have p0 : (0 : Int) ≤ (l0.length : Int) := by omega
  have p1 : (l0.length : Int) ≤ (l0.length : Int) + 8 := by omega
  have p2 : ((l0.length : Int) + 8).toNat * 1 ≤ 281474976710656 := by omega
  have p3 : (l0.length : Int) ≤ 1000000000 := by omega
  obtain ⟨k, rfl⟩ := Int.eq_ofNat_of_zero_le h1
  have hk : k ≤ 8 := by omega
  have m1 : max (k : Int) 0 = k := by omega
  have m2 : min (k : Int) 8 = k := by omega
  clear hr0 hl h1
  go_enter Try.func100, Try.ntmps100
  go_wp2_with (first | ((with_reducible refine gate_dst (N := 14) rfl ?_); refine Kd.R_makeCap (Kd.int .u8) (w0 := w) w.heap.size 5 rfl (N := 14) rfl 48 _ _ rfl _ _ rfl rfl Try.underlying48 (.int .u8 0) 1 info8 rfl (by decide) (by omega) 0 (ok := fun _ => True) (okp := fun _ => False) rfl (fun _ h => h.elim) trivial p0 p1 p2 HB.out (Nat.le_refl _) ?_; intro v1 w1 ho1 hb1 hg1 hat1; have HO1 := Aside0.mk ho1; have HB1 := Aside0.mk hb1; have HC1 := Aside0.mk (Kd.C_below HC.out hb1); clear ho1 hb1 hg1 hat1) | ((with_reducible refine gate_dst (N := 17) rfl ?_); refine Kd.R_copy (enc := Value.int .u8) (h1 := fun _ => rfl) 0 (w0 := w) w.heap.size rfl (.tmp 15) (.tmp 16) 48 48 5 rfl Try.underlying48 info8s v1 _ l0 A0 l0.length c0 (fun _ => True) rfl rfl HO1.out HC1.out HB1.out (below_size HB1.out) ?_; intro w2 ho2 hb2 hg2; rw [copied] at ho2; have HO2 := Aside0.mk ho2; have HB2 := Aside0.mk hb2; clear ho2 hb2 hg2 HO1 HB1 HC1))
  go_loopg [7, 8] k (fun kq v7 v8 w' => ∃ out : List Int, v8 = .int .i64 ((kq : Int) - 1) ∧ Aside0 (kq ≤ k) ∧ Aside0 (out ++ putL a1 kq = l0 ++ putL a1 k) ∧ Aside0 (out.length + kq = l0.length + k) ∧ Aside0 (Kd.R (Kd.int .u8) 5 w' w.heap.size (fun _ => True) v7 out) ∧ Aside0 (Below w.heap.size w w'))
  case atStart => exact ⟨l0, rfl, ⟨Nat.le_refl _⟩, ⟨rfl⟩, ⟨rfl⟩, HO2, HB2⟩
  case round =>
    clear HO2 HB2
    obtain ⟨out, rfl, HK, HE, HLen, HO, HB⟩ := hrel
    cases gk with
    | zero =>
      have q0 : decide (((0 : Nat) : Int) - 1 ≥ 0) = false := by decide
      have HF := Lib.hid (show out = l0 ++ putL a1 k by have := HE.out; simpa [putL] using this)
      clear HE
      go_wp2_with fail
      go_ret
      exact ⟨_, rfl, by rw [Int.toNat_natCast, ← HF.out]; exact HO.out, HB.out⟩
    | succ j =>
      have hj : j < 8 := by have := HK.out; omega
      have q1 : ((j + 1 : Nat) : Int) - 1 = j := by omega
      rw [q1]
      clear q1
      have q2 : (0 : Int) ≤ (j : Int) := by omega
      have q3 : 0 ≤ 8 * (j : Int) := by omega
      have q4 : 8 * (j : Int) < 64 := by omega
      have HL2 := Aside0.mk (show (out.length + 1) * 1 ≤ 140737488355328 by have := HLen.out; have := HL.out; omega)
      go_wp2_with (first | ((with_reducible refine gate_builtin (b := .append) (xs := #[.tmp 26, .tmp 32]) rfl ?_); at_builtin; refine Kd.R_append (Kd.int .u8) (w0 := w) w.heap.size rfl (.tmp 26) (.tmp 32) 48 5 (.int .u8 0) 1 rfl Try.underlying48 info8 rfl (by decide) (by omega) u7 out (a1 / 2 ^ (8 * j) % 256) [.int .u8 (a1 / 2 ^ (8 * j) % 256)] (fun _ => True) (fun _ => False) rfl rfl ?aP (fun _ hk => hk.elim) ?aF ?aO ?aB ?aS ?aL ?_; (case aP => exact rfl); (case aB => exact HB.out); (case aF => exact fun _ _ => trivial); (case aO => exact HO.out); (case aS => exact below_size HB.out); (case aL => exact HL2.out); intro va1 wa1 ho1 hb1 hg1 hat1; have HO1 := Aside0.mk ho1; have HB1 := Aside0.mk hb1; clear ho1 hb1 hg1 hat1))
      go_roundg j
      case measure => omega
      case rel => exact ⟨out ++ [a1 / 2 ^ (8 * j) % 256], by first | rfl | (simp; done), ⟨by have := HK.out; omega⟩, ⟨by have e := HE.out; simpa [putL] using e⟩, ⟨by have := HLen.out; simp; omega⟩, HO1, HB1⟩
theorem putL_length (n : Int) (k : Nat) : (putL n k).length = k := by
  induction k with
  | zero => rfl
  | succ k ih => simp [putL, ih]
end Go.Proofs.Ytfoflodgegehfaa.M
set_option linter.unusedVariables false
set_option linter.unusedSimpArgs false
namespace Go.Proofs.Ytfoflodgegehfaa.M
open Go.RowKit Go.Proofs.YtfoflodgegehfaaW.PrintWords Go.Proofs.YtfoflodgegehfaaW.PrintLast Go.Proofs.YtfoflodgegehfaaW.PrintMore
attribute [local go_sem] max2_int min2_int max_two min_two max_three min_three max_four min_four
def sumS (l : List ByteArray) : Nat := (l.map (·.size)).sum
theorem sumS_nil : sumS [] = 0 := rfl
theorem sumS_cons (s : ByteArray) (l : List ByteArray) : sumS (s :: l) = s.size + sumS l := by simp [sumS]
theorem drop_get {α : Type} (z : α) (l : List α) (k : Nat) (h : k < l.length) : l.drop k = l.getD k z :: l.drop (k + 1) := by
  rw [List.drop_eq_getElem_cons h, List.getD_eq_getElem?_getD, List.getElem?_eq_getElem h]
  rfl
def sizeGo : List ByteArray → Nat → Nat
  | [], n => n
  | s :: l, n => if 131070 < n + s.size + 1 then n + s.size + 1 else sizeGo l (n + s.size + 1)
def sizeF (r : Rec) : Nat := sizeGo r.f6 (4 * r.f5.length + sumS r.f4)
set_option maxHeartbeats 2000000 in
set_option maxRecDepth 100000 in
theorem size_calls (r : Rec) (v : Value) (w : World) (hv : RecAt w v r) (hm : 4 * r.f5.length + sumS r.f4 ≤ 1000000000) (ht : ∀ j, j < r.f6.length → (r.f6.getD j ⟨#[]⟩).size ≤ 1000000000) :
    Calls Try.prog 94 #[v] w fun e w' => e = .returned (.int .i64 (sizeF r : Nat)) ∧ Below w.heap.size w w' := by
  obtain ⟨A4, c4, A5, c5, A6, c6, rfl, l4, g4, l5, g5, l6, g6⟩ := hv
  have G4 := Aside0.mk g4
  have G6 := Aside0.mk g6
  have HT := Lib.hid ht
  have m5 : (r.f5.length : Int) ≤ 1000000000 := by omega
  have M6 := g6.2.1
  have M4 := g4.2.1
  have HM := Aside0.mk hm
  clear g4 g5 g6 ht hm
  obtain ⟨R, hR⟩ : ∃ R, sizeF r = R := ⟨_, rfl⟩
  rw [hR]
  have HR := Lib.hid hR
  clear hR
  go_enter Try.func94, Try.ntmps94
  go_wp2_with (((with_reducible refine gate_dst (N := 1) rfl ?_); refine box_event rfl (N := 1) rfl (cs := #[.string r.f0, .int .u16 r.f1, .int .u16 r.f2, .int .u32 r.f3, .slice A4 r.f4.length c4, .slice A5 r.f5.length c5, .slice A6 r.f6.length c6]) (t := 85) (by first | (go_simp; done) | (go_simp; rfl)) ?_; intro g hg w1 hbox hb); obtain ⟨z0, z1⟩ : w1.cell? ⟨g, 1, none⟩ = some (.int .u16 r.f1) ∧ w1.cell? ⟨g, 4, none⟩ = some (.slice A4 r.f4.length c4) := ⟨(blk_cell hbox 1).trans rfl, (blk_cell hbox 4).trans rfl⟩; obtain ⟨z2, z3⟩ : w1.cell? ⟨g, 5, none⟩ = some (.slice A5 r.f5.length c5) ∧ w1.cell? ⟨g, 6, none⟩ = some (.slice A6 r.f6.length c6) := ⟨(blk_cell hbox 5).trans rfl, (blk_cell hbox 6).trans rfl⟩; have HB := Aside0.mk hb; clear hb hbox hg)
  go_loop [3, 15] (fun n t => ∃ (k m : Nat), t = .int .i64 k ∧ n = .int .i64 m ∧ Aside0 (k ≤ r.f4.length) ∧ Aside0 (m + sumS (r.f4.drop k) = 4 * r.f5.length + sumS r.f4)) (fun _ t => r.f4.length - (intOf t).toNat)
  case atStart => exact ⟨0, 4 * r.f5.length, rfl, by simp, ⟨Nat.zero_le _⟩, ⟨by simp⟩⟩
  case round =>
    obtain ⟨k, m, rfl, rfl, HK, HS⟩ := hrel
    by_cases hk : k < r.f4.length
    · obtain ⟨ad, rfl, hcell⟩ := at_str (Kd.C_below G4.out HB.out) k hk
      have hs := HS.out
      rw [drop_get ⟨#[]⟩ r.f4 k hk, sumS_cons] at hs
      obtain ⟨s, hs'⟩ : ∃ s, r.f4.getD k ⟨#[]⟩ = s := ⟨_, rfl⟩
      rw [hs'] at hcell hs
      have HS1 := Aside0.mk (show (m + s.size) + sumS (r.f4.drop (k + 1)) = 4 * r.f5.length + sumS r.f4 by omega)
      have q1 : (0 : Int) ≤ (k : Int) := by omega
      have q2 : (k : Int) < (r.f4.length : Int) := by omega
      have q3 : (m : Int) + (s.size : Int) ≤ 1000000000 := by have := HM.out; omega
      clear hs hs' HS
      go_wp2
      go_round
      case rel => exact ⟨k + 1, m + s.size, by go_num, by go_num, ⟨hk⟩, HS1⟩
      case measure => simp [intOf]; omega
    · have hk' : k = r.f4.length := by have := HK.out; omega
      have hs := HS.out
      rw [hk', List.drop_length, sumS_nil] at hs
      have HR1 := Lib.hid (show sizeGo r.f6 m = R by rw [← HR.out, sizeF, ← hs]; rfl)
      have q3 : (m : Int) ≤ 1000000000 := by have := HM.out; omega
      clear hk' hs HS HR
      go_wp2
      go_loop [3, 27] (fun n t => ∃ (k m : Nat), t = .int .i64 k ∧ n = .int .i64 m ∧ Aside0 (k ≤ r.f6.length) ∧ Aside0 (m ≤ 1000000000) ∧ Aside0 (sizeGo (r.f6.drop k) m = R)) (fun _ t => r.f6.length - (intOf t).toNat)
      case atStart => exact ⟨0, m, rfl, rfl, ⟨Nat.zero_le _⟩, ⟨by omega⟩, ⟨HR1.out⟩⟩
      case round =>
        clear q3
        obtain ⟨k, m, rfl, rfl, HK, HM2, HS⟩ := hrel
        by_cases hk : k < r.f6.length
        · obtain ⟨ad, rfl, hcell⟩ := at_str (Kd.C_below G6.out HB.out) k hk
          have hs := HS.out
          have hl := HT.out k hk
          rw [drop_get ⟨#[]⟩ r.f6 k hk, sizeGo] at hs
          obtain ⟨s, hs'⟩ : ∃ s, r.f6.getD k ⟨#[]⟩ = s := ⟨_, rfl⟩
          rw [hs'] at hcell hs hl
          have q1 : (0 : Int) ≤ (k : Int) := by omega
          have q2 : (k : Int) < (r.f6.length : Int) := by omega
          have q4 : (s.size : Int) + 1 ≤ 1000000001 := by omega
          have q5 : (m : Int) + ((s.size : Int) + 1) ≤ 2000000001 := by have := HM2.out; omega
          by_cases hbig : 131070 < m + s.size + 1
          · rw [if_pos hbig] at hs
            have hbig' : (131070 : Int) < (m : Int) + ((s.size : Int) + 1) := by omega
            have HF := Lib.hid hs
            clear hs hs' HS hbig hl
            go_wp2
            go_ret
            exact ⟨by rw [← HF.out]; go_num, HB.out⟩
          · rw [if_neg hbig] at hs
            have hbig' : decide ((131070 : Int) < (m : Int) + ((s.size : Int) + 1)) = false := decide_eq_false (by omega)
            have HS1 := Aside0.mk hs
            clear hs hs' HS hbig hl
            go_wp2
            go_round
            case rel => exact ⟨k + 1, m + s.size + 1, by go_num, by go_num, ⟨hk⟩, ⟨by have := of_decide_eq_false hbig'; omega⟩, HS1⟩
            case measure => simp [intOf]; omega
        · have hk' : k = r.f6.length := by have := HK.out; omega
          have hs := HS.out
          rw [hk', List.drop_length, sizeGo] at hs
          have HF := Lib.hid hs
          clear hs HS hk'
          go_wp2
          go_ret
          exact ⟨by rw [← HF.out]; rfl, HB.out⟩
def textL (r : Rec) (s : ByteArray) : List Int := (if r.f1 = 16 then [(s.size : Int) % 256] else []) ++ bytesOf s
def plainL (r : Rec) : List Int :=
  (if r.f1 = 6 then [] else r.f5.flatMap fun n => putL n 2) ++ r.f4.flatMap bytesOf ++ (if r.f1 = 6 then r.f5.flatMap fun n => putL n 4 else []) ++ r.f6.flatMap (textL r)
theorem plainL_six {r : Rec} (h : r.f1 = 6) : plainL r = (([] ++ r.f4.flatMap bytesOf) ++ r.f5.flatMap (fun n => putL n 4)) ++ r.f6.flatMap (textL r) := by unfold plainL; rw [if_pos h, if_pos h]
theorem plainL_not {r : Rec} (h : ¬ r.f1 = 6) : plainL r = (([] ++ r.f5.flatMap (fun n => putL n 2)) ++ r.f4.flatMap bytesOf) ++ r.f6.flatMap (textL r) := by unfold plainL; rw [if_neg h, if_neg h, List.append_nil]; rfl
structure Small (r : Rec) : Prop where
  names : sumS r.f4 ≤ 1000000
  nums : r.f5.length ≤ 1000000
  texts : sumS r.f6 + r.f6.length ≤ 1000000
  wf : ∀ j, j < r.f5.length → 0 ≤ r.f5.getD j 0 ∧ r.f5.getD j 0 ≤ 4294967295
theorem flat_snoc {α : Type} (z : α) (f : α → List Int) (l : List α) (k : Nat) (h : k < l.length) : (l.take (k + 1)).flatMap f = (l.take k).flatMap f ++ f (l.getD k z) := by
  rw [List.take_succ_eq_append_getElem h, List.flatMap_append, List.getD_eq_getElem?_getD, List.getElem?_eq_getElem h]
  simp
theorem flat_le {α : Type} (f : α → List Int) (g : α → Nat) (hf : ∀ x, (f x).length ≤ g x) (l : List α) (k : Nat) : ((l.take k).flatMap f).length ≤ (l.map g).sum := by
  induction l generalizing k with
  | nil => simp
  | cons a l ih =>
    cases k with
    | zero => simp
    | succ k =>
      simp only [List.take_succ_cons, List.flatMap_cons, List.length_append, List.map_cons, List.sum_cons]
      exact Nat.add_le_add (hf a) (ih k)
theorem nums_le (l : List Int) (k sz : Nat) : ((l.take k).flatMap fun n => putL n sz).length ≤ sz * l.length := by
  refine Nat.le_trans (flat_le _ (fun _ => sz) (fun x => by rw [putL_length]; exact Nat.le_refl _) l k) ?_
  induction l with
  | nil => exact Nat.zero_le _
  | cons a l ih => rw [List.map_cons, List.sum_cons, List.length_cons, Nat.mul_succ]; omega
theorem names_le (l : List ByteArray) (k : Nat) : ((l.take k).flatMap bytesOf).length ≤ sumS l := flat_le bytesOf (·.size) (fun x => by rw [bytesOf_length]; exact Nat.le_refl _) l k
theorem get_le (l : List ByteArray) (k : Nat) : (l.getD k ⟨#[]⟩).size ≤ sumS l := by
  induction l generalizing k with
  | nil => exact Nat.zero_le _
  | cons a l ih =>
    rw [sumS_cons]
    cases k with
    | zero => exact Nat.le_add_right _ _
    | succ k => exact Nat.le_trans (ih k) (Nat.le_add_left _ _)
theorem sum_succ (l : List ByteArray) : (l.map fun s => s.size + 1).sum = sumS l + l.length := by
  induction l with
  | nil => rfl
  | cons a l ih => rw [sumS_cons, List.map_cons, List.sum_cons, List.length_cons, ih]; omega
theorem texts_le (r : Rec) (k : Nat) : ((r.f6.take k).flatMap (textL r)).length ≤ sumS r.f6 + r.f6.length := by
  rw [← sum_succ]
  refine flat_le _ (fun s => s.size + 1) (fun x => ?_) r.f6 k
  show (textL r x).length ≤ x.size + 1
  unfold textL
  rw [List.length_append, bytesOf_length]
  split
  · rw [List.length_singleton]; omega
  · rw [List.length_nil]; omega
set_option maxHeartbeats 4000000 in
set_option maxRecDepth 100000 in
theorem plain_calls (r : Rec) (v : Value) (w : World) (hv : RecAt w v r) (hS : Small r) :
    Calls Try.prog 95 #[v] w fun e w' => ∃ v0, e = .returned v0 ∧ B8 w' w.heap.size (fun _ => True) v0 (plainL r) ∧ Below w.heap.size w w' := by
  obtain ⟨A4, c4, A5, c5, A6, c6, rfl, l4, g4, l5, g5, l6, g6⟩ := hv
  have G4 := Aside0.mk g4
  have G5 := Aside0.mk g5
  have G6 := Aside0.mk g6
  have HS := Aside0.mk hS
  have m5 : (r.f5.length : Int) ≤ 1000000 := by have := hS.nums; omega
  have M6 := g6.2.1
  have M4 := g4.2.1
  clear g4 g5 g6 hS
  obtain ⟨R, hR⟩ : ∃ R, plainL r = R := ⟨_, rfl⟩
  rw [hR]
  have HR := Lib.hid hR
  clear hR
  by_cases t6 : r.f1 = 6
  · have e6 : (r.f1 != 6) = false := by rw [bne_eq_false_iff_eq]; exact t6
    have e7 : (r.f1 == 6) = true := beq_iff_eq.mpr t6
    have T6 := Lib.hid t6
    clear t6
    go_enter Try.func95, Try.ntmps95
    go_wp2_with (((with_reducible refine gate_dst (N := 1) rfl ?_); refine box_event rfl (N := 1) rfl (cs := #[.string r.f0, .int .u16 r.f1, .int .u16 r.f2, .int .u32 r.f3, .slice A4 r.f4.length c4, .slice A5 r.f5.length c5, .slice A6 r.f6.length c6]) (t := 85) (by first | (go_simp; done) | (go_simp; rfl)) ?_; intro g hg w1 hbox hb); obtain ⟨z0, z1⟩ : w1.cell? ⟨g, 1, none⟩ = some (.int .u16 r.f1) ∧ w1.cell? ⟨g, 4, none⟩ = some (.slice A4 r.f4.length c4) := ⟨(blk_cell hbox 1).trans rfl, (blk_cell hbox 4).trans rfl⟩; obtain ⟨z2, z3⟩ : w1.cell? ⟨g, 5, none⟩ = some (.slice A5 r.f5.length c5) ∧ w1.cell? ⟨g, 6, none⟩ = some (.slice A6 r.f6.length c6) := ⟨(blk_cell hbox 5).trans rfl, (blk_cell hbox 6).trans rfl⟩; have HB := Aside0.mk hb; have HX := Aside0.mk hbox; clear hb hg)
    have HO := Aside0.mk (Kd.R_nil (Kd.int .u8) 5 w1 w.heap.size (fun _ => True))
    have HG := Aside0.mk (show w1.heap[g]? = w1.heap[g]? from rfl)
    have HP := Aside0.mk (show ([] : List Int).length ≤ 4000000 by simp)
    clear z0 z1 z2 z3 hbox
    go_loopw [3, 30] (fun v t wr => ∃ (k : Nat) (out : List Int), t = .int .i64 k ∧ Aside0 (k ≤ r.f4.length) ∧ Aside0 (out = [] ++ (r.f4.take k).flatMap bytesOf) ∧ Aside0 (B8 wr w.heap.size (fun _ => True) v out) ∧ Aside0 (wr.heap[g]? = w1.heap[g]?) ∧ Aside0 (Below w.heap.size w wr)) (fun _ t _ => r.f4.length - (intOf t).toNat)
    case atStart => exact ⟨0, _, rfl, ⟨Nat.zero_le _⟩, ⟨by simp⟩, HO, HG, HB⟩
    case round =>
      clear HO HG HB
      obtain ⟨k, out, rfl, HK, HE, HO, HG, HB⟩ := hrel
      by_cases hk : k < r.f4.length
      · obtain ⟨ad, rfl, hcell⟩ := at_str (Kd.C_below G4.out HB.out) k hk
        have q1 : (0 : Int) ≤ (k : Int) := by omega
        have q2 : (k : Int) < (r.f4.length : Int) := by omega
        have HE1 := Aside0.mk (flat_snoc ⟨#[]⟩ bytesOf r.f4 k hk)
        have HLn := Aside0.mk (show out.length + (r.f4.getD k ⟨#[]⟩).size ≤ 140737488355328 by rw [HE.out, List.length_append]; have h1 := names_le r.f4 k; have h2 := HS.out.names; have h3 := HP.out; have h4 := get_le r.f4 k; omega)
        obtain ⟨s, hs⟩ : ∃ s, r.f4.getD k ⟨#[]⟩ = s := ⟨_, rfl⟩
        rw [hs] at HLn
        simp only [hs] at hcell HE1
        clear hs
        go_wp2_with ((with_reducible refine gate_builtin (b := .append) (xs := #[.tmp 34, .tmp 35]) rfl ?_); at_builtin; refine app8s rfl (.tmp 34) (.tmp 35) rfl rfl rfl HO.out HB.out (below_size HB.out) HLn.out ?_; intro v1 w' ho1 hb1 hg1; have HO1 := Aside0.mk ho1; have HG1 := Aside0.mk ((hg1.block g (blk_lt (HG.out.trans HX.out)) (Kd.R_ne HO.out (HG.out.trans HX.out) (by decide))).trans HG.out); have HB1 := Aside0.mk hb1; clear ho1 hb1 hg1)
        go_roundw
        case rel => exact ⟨k + 1, _, by go_num, ⟨hk⟩, ⟨by rw [HE1.out, HE.out]; (simp only [List.append_assoc] <;> rfl)⟩, HO1, HG1, HB1⟩
        case measure => simp [intOf]; omega
      · have hk' : k = r.f4.length := by have := HK.out; omega
        have HE2 := Aside0.mk (show out = ([]) ++ r.f4.flatMap bytesOf by rw [HE.out, hk', List.take_length])
        clear hk' HE
        obtain ⟨z0, z1⟩ : wr.cell? ⟨g, 1, none⟩ = some (.int .u16 r.f1) ∧ wr.cell? ⟨g, 4, none⟩ = some (.slice A4 r.f4.length c4) := ⟨(blk_cell (HG.out.trans HX.out) 1).trans rfl, (blk_cell (HG.out.trans HX.out) 4).trans rfl⟩
        obtain ⟨z2, z3⟩ : wr.cell? ⟨g, 5, none⟩ = some (.slice A5 r.f5.length c5) ∧ wr.cell? ⟨g, 6, none⟩ = some (.slice A6 r.f6.length c6) := ⟨(blk_cell (HG.out.trans HX.out) 5).trans rfl, (blk_cell (HG.out.trans HX.out) 6).trans rfl⟩
        have HP2 := Aside0.mk (show (([]) ++ r.f4.flatMap bytesOf).length ≤ 5000000 by have h1 := names_le r.f4 r.f4.length; rw [List.take_length] at h1; have h2 := HS.out.names; have h3 := HP.out; rw [List.length_append]; omega)
        go_wp2
        rw [HE2.out] at HO
        clear HE2 out
        go_loopw [3, 44] (fun v t wr => ∃ (k : Nat) (out : List Int), t = .int .i64 k ∧ Aside0 (k ≤ r.f5.length) ∧ Aside0 (out = ([] ++ r.f4.flatMap bytesOf) ++ (r.f5.take k).flatMap (fun n => putL n 4)) ∧ Aside0 (B8 wr w.heap.size (fun _ => True) v out) ∧ Aside0 (wr.heap[g]? = w1.heap[g]?) ∧ Aside0 (Below w.heap.size w wr)) (fun _ t _ => r.f5.length - (intOf t).toNat)
        case atStart => exact ⟨0, _, rfl, ⟨Nat.zero_le _⟩, ⟨by simp⟩, HO, HG, HB⟩
        case round =>
          clear HO HG HB z0 z1 z2 z3 HP
          obtain ⟨k, out, rfl, HK, HE, HO, HG, HB⟩ := hrel
          by_cases hk : k < r.f5.length
          · have HP := HP2
            obtain ⟨ad, rfl, hcell⟩ := at_int (Kd.C_below G5.out HB.out) k hk
            have q1 : (0 : Int) ≤ (k : Int) := by omega
            have q2 : (k : Int) < (r.f5.length : Int) := by omega
            obtain ⟨n0, n1⟩ := HS.out.wf k hk
            have HE1 := Aside0.mk (flat_snoc 0 (fun n => putL n 4) r.f5 k hk)
            have HLn := Aside0.mk (show out.length ≤ 1000000000 by rw [HE.out, List.length_append]; have h1 := nums_le r.f5 k 4; have h2 := HS.out.nums; have h3 := HP.out; omega)
            obtain ⟨n, hn⟩ : ∃ n, r.f5.getD k 0 = n := ⟨_, rfl⟩
            rw [hn] at n0 n1
            simp only [hn] at hcell HE1
            clear hn
            obtain ⟨A, c, rfl, hlc, hrc⟩ := Kd.R_reads HO.out
            have HC := Aside0.mk hrc
            have HLC := Aside0.mk hlc
            clear hrc hlc
            go_wp2_with (go_at_call 100; refine (Put_calls A c out n 4 _ HC.out HLC.out HLn.out (by decide) (by decide)).mono ?_; rintro e w' ⟨v1, rfl, ho1, hb1⟩; have HO1 := Aside0.mk (Kd.R_lower ho1 (below_size HB.out)); have HG1 := Aside0.mk ((hb1.block g (blk_lt (HG.out.trans HX.out))).trans HG.out); have HB1 := Aside0.mk (HB.out.trans (hb1.mono (below_size HB.out))); clear ho1 hb1)
            go_roundw
            case rel => exact ⟨k + 1, _, by go_num, ⟨hk⟩, ⟨by rw [HE1.out, HE.out]; (simp only [List.append_assoc] <;> rfl)⟩, HO1, HG1, HB1⟩
            case measure => simp [intOf]; omega
          · have hk' : k = r.f5.length := by have := HK.out; omega
            have HE2 := Aside0.mk (show out = ([] ++ r.f4.flatMap bytesOf) ++ r.f5.flatMap (fun n => putL n 4) by rw [HE.out, hk', List.take_length])
            clear hk' HE
            obtain ⟨z0, z1⟩ : wr.cell? ⟨g, 1, none⟩ = some (.int .u16 r.f1) ∧ wr.cell? ⟨g, 4, none⟩ = some (.slice A4 r.f4.length c4) := ⟨(blk_cell (HG.out.trans HX.out) 1).trans rfl, (blk_cell (HG.out.trans HX.out) 4).trans rfl⟩
            obtain ⟨z2, z3⟩ : wr.cell? ⟨g, 5, none⟩ = some (.slice A5 r.f5.length c5) ∧ wr.cell? ⟨g, 6, none⟩ = some (.slice A6 r.f6.length c6) := ⟨(blk_cell (HG.out.trans HX.out) 5).trans rfl, (blk_cell (HG.out.trans HX.out) 6).trans rfl⟩
            have HP3 := Aside0.mk (show (([] ++ r.f4.flatMap bytesOf) ++ r.f5.flatMap (fun n => putL n 4)).length ≤ 10000000 by have h1 := nums_le r.f5 r.f5.length 4; rw [List.take_length] at h1; have h2 := HS.out.nums; have h3 := HP2.out; rw [List.length_append]; omega)
            go_wp2
            rw [HE2.out] at HO
            clear HE2 out
            go_loopw [3, 56] (fun v t wr => ∃ (k : Nat) (out : List Int), t = .int .i64 k ∧ Aside0 (k ≤ r.f6.length) ∧ Aside0 (out = ([] ++ r.f4.flatMap bytesOf) ++ r.f5.flatMap (fun n => putL n 4) ++ (r.f6.take k).flatMap (textL r)) ∧ Aside0 (B8 wr w.heap.size (fun _ => True) v out) ∧ Aside0 (wr.heap[g]? = w1.heap[g]?) ∧ Aside0 (Below w.heap.size w wr)) (fun _ t _ => r.f6.length - (intOf t).toNat)
            case atStart => exact ⟨0, _, rfl, ⟨Nat.zero_le _⟩, ⟨by simp⟩, HO, HG, HB⟩
            case round =>
              clear HO HG HB z0 z1 z2 z3
              obtain ⟨k, out, rfl, HK, HE, HO, HG, HB⟩ := hrel
              by_cases hk : k < r.f6.length
              · obtain ⟨z0, z1⟩ : wr.cell? ⟨g, 1, none⟩ = some (.int .u16 r.f1) ∧ wr.cell? ⟨g, 4, none⟩ = some (.slice A4 r.f4.length c4) := ⟨(blk_cell (HG.out.trans HX.out) 1).trans rfl, (blk_cell (HG.out.trans HX.out) 4).trans rfl⟩
                obtain ⟨z2, z3⟩ : wr.cell? ⟨g, 5, none⟩ = some (.slice A5 r.f5.length c5) ∧ wr.cell? ⟨g, 6, none⟩ = some (.slice A6 r.f6.length c6) := ⟨(blk_cell (HG.out.trans HX.out) 5).trans rfl, (blk_cell (HG.out.trans HX.out) 6).trans rfl⟩
                obtain ⟨ad, rfl, hcell⟩ := at_str (Kd.C_below G6.out HB.out) k hk
                have q1 : (0 : Int) ≤ (k : Int) := by omega
                have q2 : (k : Int) < (r.f6.length : Int) := by omega
                have HE1 := Aside0.mk (flat_snoc ⟨#[]⟩ (textL r) r.f6 k hk)
                have HLn := Aside0.mk (show out.length + (r.f6.getD k ⟨#[]⟩).size ≤ 130737488355328 by rw [HE.out, List.length_append]; have h1 := texts_le r k; have h2 := HS.out.texts; have h3 := HP3.out; have h4 := get_le r.f6 k; omega)
                obtain ⟨s, hs⟩ : ∃ s, r.f6.getD k ⟨#[]⟩ = s := ⟨_, rfl⟩
                rw [hs] at HLn
                simp only [hs] at hcell HE1
                clear hs
                by_cases t16 : r.f1 = 16
                · have e16 : (r.f1 == 16) = true := beq_iff_eq.mpr t16
                  have HE2 := Aside0.mk (show textL r s = [(s.size : Int) % 256] ++ bytesOf s by unfold textL; rw [if_pos t16])
                  clear t16
                  go_wp2_with (first | ((with_reducible refine gate_builtin (b := .append) (xs := #[.tmp 63, .tmp 67]) rfl ?_); at_builtin; refine app8 (p := (s.size : Int) % 256) rfl (.tmp 63) (.tmp 67) rfl rfl rfl HO.out HB.out (fun _ _ _ => trivial) (below_size HB.out) (by have := HLn.out; omega) ?_; intro v1 w2 ho1 hb1 hg1 _; have HO1 := Aside0.mk ho1; have HG1 := Aside0.mk ((hg1.block g (blk_lt (HG.out.trans HX.out)) (Kd.R_ne HO.out (HG.out.trans HX.out) (by decide))).trans HG.out); have HB1 := Aside0.mk hb1; clear ho1 hb1 hg1) | ((with_reducible refine gate_builtin (b := .append) (xs := #[.tmp 69, .tmp 70]) rfl ?_); at_builtin; refine app8s rfl (.tmp 69) (.tmp 70) rfl rfl rfl HO1.out HB1.out (below_size HB1.out) (by have := HLn.out; rw [List.length_append, List.length_singleton]; omega) ?_; intro v2 w' ho1 hb1 hg1; have HO2 := Aside0.mk ho1; have HG2 := Aside0.mk ((hg1.block g (blk_lt (HG1.out.trans HX.out)) (Kd.R_ne HO1.out (HG1.out.trans HX.out) (by decide))).trans HG1.out); have HB2 := Aside0.mk hb1; clear ho1 hb1 hg1))
                  go_roundw
                  case rel => exact ⟨k + 1, _, by go_num, ⟨hk⟩, ⟨by rw [HE1.out, HE.out, HE2.out]; (simp only [List.append_assoc] <;> rfl)⟩, HO2, HG2, HB2⟩
                  case measure => simp [intOf]; omega
                · have e16 : (r.f1 == 16) = false := beq_eq_false_iff_ne.mpr t16
                  have HE2 := Aside0.mk (show textL r s = bytesOf s by unfold textL; rw [if_neg t16]; rfl)
                  clear t16
                  go_wp2_with ((with_reducible refine gate_builtin (b := .append) (xs := #[.tmp 69, .tmp 70]) rfl ?_); at_builtin; refine app8s rfl (.tmp 69) (.tmp 70) rfl rfl rfl HO.out HB.out (below_size HB.out) (by have := HLn.out; omega) ?_; intro v2 w' ho1 hb1 hg1; have HO2 := Aside0.mk ho1; have HG2 := Aside0.mk ((hg1.block g (blk_lt (HG.out.trans HX.out)) (Kd.R_ne HO.out (HG.out.trans HX.out) (by decide))).trans HG.out); have HB2 := Aside0.mk hb1; clear ho1 hb1 hg1)
                  go_roundw
                  case rel => exact ⟨k + 1, _, by go_num, ⟨hk⟩, ⟨by rw [HE1.out, HE.out, HE2.out]; (simp only [List.append_assoc] <;> rfl)⟩, HO2, HG2, HB2⟩
                  case measure => simp [intOf]; omega
              · have hk' : k = r.f6.length := by have := HK.out; omega
                have HF := Aside0.mk (show out = R by rw [HE.out, hk', List.take_length, ← HR.out]; first | rw [plainL_six T6.out] | rw [plainL_not T6.out])
                clear hk' HE
                go_wp2
                go_ret
                exact ⟨_, rfl, by rw [← HF.out]; exact HO.out, HB.out⟩
  · have e6 : (r.f1 != 6) = true := by rw [bne_iff_ne]; exact t6
    have e7 : (r.f1 == 6) = false := beq_eq_false_iff_ne.mpr t6
    have T6 := Lib.hid t6
    clear t6
    go_enter Try.func95, Try.ntmps95
    go_wp2_with (((with_reducible refine gate_dst (N := 1) rfl ?_); refine box_event rfl (N := 1) rfl (cs := #[.string r.f0, .int .u16 r.f1, .int .u16 r.f2, .int .u32 r.f3, .slice A4 r.f4.length c4, .slice A5 r.f5.length c5, .slice A6 r.f6.length c6]) (t := 85) (by first | (go_simp; done) | (go_simp; rfl)) ?_; intro g hg w1 hbox hb); obtain ⟨z0, z1⟩ : w1.cell? ⟨g, 1, none⟩ = some (.int .u16 r.f1) ∧ w1.cell? ⟨g, 4, none⟩ = some (.slice A4 r.f4.length c4) := ⟨(blk_cell hbox 1).trans rfl, (blk_cell hbox 4).trans rfl⟩; obtain ⟨z2, z3⟩ : w1.cell? ⟨g, 5, none⟩ = some (.slice A5 r.f5.length c5) ∧ w1.cell? ⟨g, 6, none⟩ = some (.slice A6 r.f6.length c6) := ⟨(blk_cell hbox 5).trans rfl, (blk_cell hbox 6).trans rfl⟩; have HB := Aside0.mk hb; have HX := Aside0.mk hbox; clear hb hg)
    have HO := Aside0.mk (Kd.R_nil (Kd.int .u8) 5 w1 w.heap.size (fun _ => True))
    have HG := Aside0.mk (show w1.heap[g]? = w1.heap[g]? from rfl)
    have HP := Aside0.mk (show ([] : List Int).length ≤ 4000000 by simp)
    clear z0 z1 z2 z3 hbox
    go_loopw [3, 18] (fun v t wr => ∃ (k : Nat) (out : List Int), t = .int .i64 k ∧ Aside0 (k ≤ r.f5.length) ∧ Aside0 (out = [] ++ (r.f5.take k).flatMap (fun n => putL n 2)) ∧ Aside0 (B8 wr w.heap.size (fun _ => True) v out) ∧ Aside0 (wr.heap[g]? = w1.heap[g]?) ∧ Aside0 (Below w.heap.size w wr)) (fun _ t _ => r.f5.length - (intOf t).toNat)
    case atStart => exact ⟨0, _, rfl, ⟨Nat.zero_le _⟩, ⟨by simp⟩, HO, HG, HB⟩
    case round =>
      clear HO HG HB
      obtain ⟨k, out, rfl, HK, HE, HO, HG, HB⟩ := hrel
      by_cases hk : k < r.f5.length
      · obtain ⟨ad, rfl, hcell⟩ := at_int (Kd.C_below G5.out HB.out) k hk
        have q1 : (0 : Int) ≤ (k : Int) := by omega
        have q2 : (k : Int) < (r.f5.length : Int) := by omega
        obtain ⟨n0, n1⟩ := HS.out.wf k hk
        have HE1 := Aside0.mk (flat_snoc 0 (fun n => putL n 2) r.f5 k hk)
        have HLn := Aside0.mk (show out.length ≤ 1000000000 by rw [HE.out, List.length_append]; have h1 := nums_le r.f5 k 2; have h2 := HS.out.nums; have h3 := HP.out; omega)
        obtain ⟨n, hn⟩ : ∃ n, r.f5.getD k 0 = n := ⟨_, rfl⟩
        rw [hn] at n0 n1
        simp only [hn] at hcell HE1
        clear hn
        obtain ⟨A, c, rfl, hlc, hrc⟩ := Kd.R_reads HO.out
        have HC := Aside0.mk hrc
        have HLC := Aside0.mk hlc
        clear hrc hlc
        go_wp2_with (go_at_call 100; refine (Put_calls A c out n 2 _ HC.out HLC.out HLn.out (by decide) (by decide)).mono ?_; rintro e w' ⟨v1, rfl, ho1, hb1⟩; have HO1 := Aside0.mk (Kd.R_lower ho1 (below_size HB.out)); have HG1 := Aside0.mk ((hb1.block g (blk_lt (HG.out.trans HX.out))).trans HG.out); have HB1 := Aside0.mk (HB.out.trans (hb1.mono (below_size HB.out))); clear ho1 hb1)
        go_roundw
        case rel => exact ⟨k + 1, _, by go_num, ⟨hk⟩, ⟨by rw [HE1.out, HE.out]; (simp only [List.append_assoc] <;> rfl)⟩, HO1, HG1, HB1⟩
        case measure => simp [intOf]; omega
      · have hk' : k = r.f5.length := by have := HK.out; omega
        have HE2 := Aside0.mk (show out = [] ++ r.f5.flatMap (fun n => putL n 2) by rw [HE.out, hk', List.take_length])
        clear hk' HE
        obtain ⟨z0, z1⟩ : wr.cell? ⟨g, 1, none⟩ = some (.int .u16 r.f1) ∧ wr.cell? ⟨g, 4, none⟩ = some (.slice A4 r.f4.length c4) := ⟨(blk_cell (HG.out.trans HX.out) 1).trans rfl, (blk_cell (HG.out.trans HX.out) 4).trans rfl⟩
        obtain ⟨z2, z3⟩ : wr.cell? ⟨g, 5, none⟩ = some (.slice A5 r.f5.length c5) ∧ wr.cell? ⟨g, 6, none⟩ = some (.slice A6 r.f6.length c6) := ⟨(blk_cell (HG.out.trans HX.out) 5).trans rfl, (blk_cell (HG.out.trans HX.out) 6).trans rfl⟩
        have HP1 := Aside0.mk (show ([] ++ r.f5.flatMap (fun n => putL n 2)).length ≤ 4000000 by have h1 := nums_le r.f5 r.f5.length 2; rw [List.take_length] at h1; have h2 := HS.out.nums; rw [List.nil_append]; omega)
        go_wp2
        rw [HE2.out] at HO
        clear HE2 out
        go_loopw [3, 30] (fun v t wr => ∃ (k : Nat) (out : List Int), t = .int .i64 k ∧ Aside0 (k ≤ r.f4.length) ∧ Aside0 (out = ([] ++ r.f5.flatMap (fun n => putL n 2)) ++ (r.f4.take k).flatMap bytesOf) ∧ Aside0 (B8 wr w.heap.size (fun _ => True) v out) ∧ Aside0 (wr.heap[g]? = w1.heap[g]?) ∧ Aside0 (Below w.heap.size w wr)) (fun _ t _ => r.f4.length - (intOf t).toNat)
        case atStart => exact ⟨0, _, rfl, ⟨Nat.zero_le _⟩, ⟨by simp⟩, HO, HG, HB⟩
        case round =>
          clear HO HG HB HP z0 z1 z2 z3
          obtain ⟨k, out, rfl, HK, HE, HO, HG, HB⟩ := hrel
          by_cases hk : k < r.f4.length
          · obtain ⟨ad, rfl, hcell⟩ := at_str (Kd.C_below G4.out HB.out) k hk
            have q1 : (0 : Int) ≤ (k : Int) := by omega
            have q2 : (k : Int) < (r.f4.length : Int) := by omega
            have HE1 := Aside0.mk (flat_snoc ⟨#[]⟩ bytesOf r.f4 k hk)
            have HLn := Aside0.mk (show out.length + (r.f4.getD k ⟨#[]⟩).size ≤ 140737488355328 by rw [HE.out, List.length_append]; have h1 := names_le r.f4 k; have h2 := HS.out.names; have h3 := HP1.out; have h4 := get_le r.f4 k; omega)
            obtain ⟨s, hs⟩ : ∃ s, r.f4.getD k ⟨#[]⟩ = s := ⟨_, rfl⟩
            rw [hs] at HLn
            simp only [hs] at hcell HE1
            clear hs
            go_wp2_with ((with_reducible refine gate_builtin (b := .append) (xs := #[.tmp 34, .tmp 35]) rfl ?_); at_builtin; refine app8s rfl (.tmp 34) (.tmp 35) rfl rfl rfl HO.out HB.out (below_size HB.out) HLn.out ?_; intro v1 w' ho1 hb1 hg1; have HO1 := Aside0.mk ho1; have HG1 := Aside0.mk ((hg1.block g (blk_lt (HG.out.trans HX.out)) (Kd.R_ne HO.out (HG.out.trans HX.out) (by decide))).trans HG.out); have HB1 := Aside0.mk hb1; clear ho1 hb1 hg1)
            go_roundw
            case rel => exact ⟨k + 1, _, by go_num, ⟨hk⟩, ⟨by rw [HE1.out, HE.out]; (simp only [List.append_assoc] <;> rfl)⟩, HO1, HG1, HB1⟩
            case measure => simp [intOf]; omega
          · have hk' : k = r.f4.length := by have := HK.out; omega
            have HE2 := Aside0.mk (show out = ([] ++ r.f5.flatMap (fun n => putL n 2)) ++ r.f4.flatMap bytesOf by rw [HE.out, hk', List.take_length])
            clear hk' HE
            obtain ⟨z0, z1⟩ : wr.cell? ⟨g, 1, none⟩ = some (.int .u16 r.f1) ∧ wr.cell? ⟨g, 4, none⟩ = some (.slice A4 r.f4.length c4) := ⟨(blk_cell (HG.out.trans HX.out) 1).trans rfl, (blk_cell (HG.out.trans HX.out) 4).trans rfl⟩
            obtain ⟨z2, z3⟩ : wr.cell? ⟨g, 5, none⟩ = some (.slice A5 r.f5.length c5) ∧ wr.cell? ⟨g, 6, none⟩ = some (.slice A6 r.f6.length c6) := ⟨(blk_cell (HG.out.trans HX.out) 5).trans rfl, (blk_cell (HG.out.trans HX.out) 6).trans rfl⟩
            have HP2 := Aside0.mk (show (([] ++ r.f5.flatMap (fun n => putL n 2)) ++ r.f4.flatMap bytesOf).length ≤ 5000000 by have h1 := names_le r.f4 r.f4.length; rw [List.take_length] at h1; have h2 := HS.out.names; have h3 := HP1.out; rw [List.length_append]; omega)
            go_wp2
            rw [HE2.out] at HO
            clear HE2 out
            go_loopw [3, 56] (fun v t wr => ∃ (k : Nat) (out : List Int), t = .int .i64 k ∧ Aside0 (k ≤ r.f6.length) ∧ Aside0 (out = ([] ++ r.f5.flatMap (fun n => putL n 2)) ++ r.f4.flatMap bytesOf ++ (r.f6.take k).flatMap (textL r)) ∧ Aside0 (B8 wr w.heap.size (fun _ => True) v out) ∧ Aside0 (wr.heap[g]? = w1.heap[g]?) ∧ Aside0 (Below w.heap.size w wr)) (fun _ t _ => r.f6.length - (intOf t).toNat)
            case atStart => exact ⟨0, _, rfl, ⟨Nat.zero_le _⟩, ⟨by simp⟩, HO, HG, HB⟩
            case round =>
              clear HO HG HB z0 z1 z2 z3
              obtain ⟨k, out, rfl, HK, HE, HO, HG, HB⟩ := hrel
              by_cases hk : k < r.f6.length
              · obtain ⟨z0, z1⟩ : wr.cell? ⟨g, 1, none⟩ = some (.int .u16 r.f1) ∧ wr.cell? ⟨g, 4, none⟩ = some (.slice A4 r.f4.length c4) := ⟨(blk_cell (HG.out.trans HX.out) 1).trans rfl, (blk_cell (HG.out.trans HX.out) 4).trans rfl⟩
                obtain ⟨z2, z3⟩ : wr.cell? ⟨g, 5, none⟩ = some (.slice A5 r.f5.length c5) ∧ wr.cell? ⟨g, 6, none⟩ = some (.slice A6 r.f6.length c6) := ⟨(blk_cell (HG.out.trans HX.out) 5).trans rfl, (blk_cell (HG.out.trans HX.out) 6).trans rfl⟩
                obtain ⟨ad, rfl, hcell⟩ := at_str (Kd.C_below G6.out HB.out) k hk
                have q1 : (0 : Int) ≤ (k : Int) := by omega
                have q2 : (k : Int) < (r.f6.length : Int) := by omega
                have HE1 := Aside0.mk (flat_snoc ⟨#[]⟩ (textL r) r.f6 k hk)
                have HLn := Aside0.mk (show out.length + (r.f6.getD k ⟨#[]⟩).size ≤ 130737488355328 by rw [HE.out, List.length_append]; have h1 := texts_le r k; have h2 := HS.out.texts; have h3 := HP2.out; have h4 := get_le r.f6 k; omega)
                obtain ⟨s, hs⟩ : ∃ s, r.f6.getD k ⟨#[]⟩ = s := ⟨_, rfl⟩
                rw [hs] at HLn
                simp only [hs] at hcell HE1
                clear hs
                by_cases t16 : r.f1 = 16
                · have e16 : (r.f1 == 16) = true := beq_iff_eq.mpr t16
                  have HE2 := Aside0.mk (show textL r s = [(s.size : Int) % 256] ++ bytesOf s by unfold textL; rw [if_pos t16])
                  clear t16
                  go_wp2_with (first | ((with_reducible refine gate_builtin (b := .append) (xs := #[.tmp 63, .tmp 67]) rfl ?_); at_builtin; refine app8 (p := (s.size : Int) % 256) rfl (.tmp 63) (.tmp 67) rfl rfl rfl HO.out HB.out (fun _ _ _ => trivial) (below_size HB.out) (by have := HLn.out; omega) ?_; intro v1 w2 ho1 hb1 hg1 _; have HO1 := Aside0.mk ho1; have HG1 := Aside0.mk ((hg1.block g (blk_lt (HG.out.trans HX.out)) (Kd.R_ne HO.out (HG.out.trans HX.out) (by decide))).trans HG.out); have HB1 := Aside0.mk hb1; clear ho1 hb1 hg1) | ((with_reducible refine gate_builtin (b := .append) (xs := #[.tmp 69, .tmp 70]) rfl ?_); at_builtin; refine app8s rfl (.tmp 69) (.tmp 70) rfl rfl rfl HO1.out HB1.out (below_size HB1.out) (by have := HLn.out; rw [List.length_append, List.length_singleton]; omega) ?_; intro v2 w' ho1 hb1 hg1; have HO2 := Aside0.mk ho1; have HG2 := Aside0.mk ((hg1.block g (blk_lt (HG1.out.trans HX.out)) (Kd.R_ne HO1.out (HG1.out.trans HX.out) (by decide))).trans HG1.out); have HB2 := Aside0.mk hb1; clear ho1 hb1 hg1))
                  go_roundw
                  case rel => exact ⟨k + 1, _, by go_num, ⟨hk⟩, ⟨by rw [HE1.out, HE.out, HE2.out]; (simp only [List.append_assoc] <;> rfl)⟩, HO2, HG2, HB2⟩
                  case measure => simp [intOf]; omega
                · have e16 : (r.f1 == 16) = false := beq_eq_false_iff_ne.mpr t16
                  have HE2 := Aside0.mk (show textL r s = bytesOf s by unfold textL; rw [if_neg t16]; rfl)
                  clear t16
                  go_wp2_with ((with_reducible refine gate_builtin (b := .append) (xs := #[.tmp 69, .tmp 70]) rfl ?_); at_builtin; refine app8s rfl (.tmp 69) (.tmp 70) rfl rfl rfl HO.out HB.out (below_size HB.out) (by have := HLn.out; omega) ?_; intro v2 w' ho1 hb1 hg1; have HO2 := Aside0.mk ho1; have HG2 := Aside0.mk ((hg1.block g (blk_lt (HG.out.trans HX.out)) (Kd.R_ne HO.out (HG.out.trans HX.out) (by decide))).trans HG.out); have HB2 := Aside0.mk hb1; clear ho1 hb1 hg1)
                  go_roundw
                  case rel => exact ⟨k + 1, _, by go_num, ⟨hk⟩, ⟨by rw [HE1.out, HE.out, HE2.out]; (simp only [List.append_assoc] <;> rfl)⟩, HO2, HG2, HB2⟩
                  case measure => simp [intOf]; omega
              · have hk' : k = r.f6.length := by have := HK.out; omega
                have HF := Aside0.mk (show out = R by rw [HE.out, hk', List.take_length, ← HR.out]; first | rw [plainL_six T6.out] | rw [plainL_not T6.out])
                clear hk' HE
                go_wp2
                go_ret
                exact ⟨_, rfl, by rw [← HF.out]; exact HO.out, HB.out⟩
def checkF (r : Rec) : Int :=
  if isName r.f0 = false then 40 else if r.f4.any notName then 40 else if shapedB r = false then 50 else if 131070 < sizeF r then 50 else if 65535 < (plainL r).length then 50 else
  if 2147483647 < r.f3 ∧ r.f1 ≠ 41 then 1 else 0
structure Fine (r : Rec) : Prop where
  len4 : r.f4.length ≤ 1000000000
  names : 4 * r.f5.length + sumS r.f4 ≤ 1000000000
  texts : ∀ j, j < r.f6.length → (r.f6.getD j ⟨#[]⟩).size ≤ 1000000000
  texts2 : r.f6.length ≤ 1000000000
  wf : ∀ j, j < r.f5.length → 0 ≤ r.f5.getD j 0 ∧ r.f5.getD j 0 ≤ 4294967295
theorem sizeGo_le (l : List ByteArray) (n : Nat) (h : sizeGo l n ≤ 131070) : n + sumS l + l.length ≤ 131070 ∨ l = [] := by
  induction l generalizing n with
  | nil => exact .inr rfl
  | cons s l ih =>
    left
    rw [sizeGo] at h
    by_cases hb : 131070 < n + s.size + 1
    · rw [if_pos hb] at h; omega
    · rw [if_neg hb] at h
      rw [sumS_cons, List.length_cons]
      rcases ih _ h with h1 | rfl
      · omega
      · rw [sumS_nil, List.length_nil]; omega
theorem small_of {r : Rec} (hF : Fine r) (h : sizeF r ≤ 131070) (hn : (r.f4.any notName) = false) (hs : shapedB r = true) : Small r := by
  have hs1 := of_decide_eq_true (Bool.and_eq_true_iff.1 hs).1
  obtain ⟨s1, s2, s3⟩ := shapeOf_le r.f1
  have hsz : ∀ s, isName s = true → s.size ≤ 255 := by
    intro s h
    unfold isName split at h
    by_cases hb : 255 < s.size
    · rw [if_pos hb] at h; exact absurd h (by decide)
    · omega
  have hnames : sumS r.f4 ≤ 255 * r.f4.length := by
    generalize r.f4 = l at hn
    induction l with
    | nil => exact Nat.le_refl _
    | cons s l ih =>
      rw [List.any_cons, Bool.or_eq_false_iff] at hn
      have h1 := hsz s (by have := hn.1; unfold notName at this; simpa using this)
      have h2 := ih hn.2
      rw [sumS_cons, List.length_cons]
      omega
  refine ⟨by omega, by omega, ?_, hF.wf⟩
  rcases sizeGo_le _ _ h with h1 | h1
  · omega
  · rw [h1, sumS_nil]; simp
set_option maxHeartbeats 2000000 in
set_option maxRecDepth 100000 in
theorem check_calls (r : Rec) (v : Value) (w : World) (hv : RecAt w v r) (hF : Fine r) :
    Calls Try.prog 80 #[v] w fun e w' => e = .returned (.int .i64 (checkF r)) ∧ Below w.heap.size w w' := by
  have HV := Aside0.mk hv
  obtain ⟨A4, c4, A5, c5, A6, c6, rfl, l4, g4, l5, g5, l6, g6⟩ := hv
  have G4 := Aside0.mk g4
  have HF := Aside0.mk hF
  obtain ⟨R, hR⟩ : ∃ R, checkF r = R := ⟨_, rfl⟩
  rw [hR]
  unfold checkF at hR
  have hl4 := hF.len4
  have hl6 := hF.texts2
  clear g4 g5 g6 hF
  by_cases k1 : isName r.f0 = false
  · rw [if_pos k1] at hR
    subst hR
    have K1 := Lib.hid k1
    clear k1
    go_enter Try.func80, Try.ntmps80
    go_wp2_with (((with_reducible refine gate_dst (N := 1) rfl ?_); refine box_event rfl (N := 1) rfl (cs := #[.string r.f0, .int .u16 r.f1, .int .u16 r.f2, .int .u32 r.f3, .slice A4 r.f4.length c4, .slice A5 r.f5.length c5, .slice A6 r.f6.length c6]) (t := 85) (by first | (go_simp; done) | (go_simp; rfl)) ?_; intro g hg w1 hbox hb); have HX := Aside0.mk hbox; have HB := Aside0.mk hb; clear hb hg; have z0 : w1.cell? ⟨g, 0, none⟩ = some (.string r.f0) := (blk_cell HX.out 0).trans rfl; clear hbox)
    have z0 : w1.cell? ⟨g, 0, none⟩ = some (.string r.f0) := (blk_cell HX.out 0).trans rfl
    have z1 : w1.cell? ⟨g, 1, none⟩ = some (.int .u16 r.f1) := (blk_cell HX.out 1).trans rfl
    have z2 : w1.cell? ⟨g, 2, none⟩ = some (.int .u16 r.f2) := (blk_cell HX.out 2).trans rfl
    have z3 : w1.cell? ⟨g, 3, none⟩ = some (.int .u32 r.f3) := (blk_cell HX.out 3).trans rfl
    have z4 : w1.cell? ⟨g, 4, none⟩ = some (.slice A4 r.f4.length c4) := (blk_cell HX.out 4).trans rfl
    have z5 : w1.cell? ⟨g, 5, none⟩ = some (.slice A5 r.f5.length c5) := (blk_cell HX.out 5).trans rfl
    have z6 : w1.cell? ⟨g, 6, none⟩ = some (.slice A6 r.f6.length c6) := (blk_cell HX.out 6).trans rfl
    refine (isName_no r.f0 _ K1.out).mono ?_
    rintro e w2 ⟨rfl, hb⟩
    have HX2 := Aside0.mk (blk_below HX.out hb)
    have HB2 := Aside0.mk (HB.out.trans (hb.mono (below_size HB.out)))
    clear hb z0 z1 z2 z3 z4 z5 z6
    have z0 : w2.cell? ⟨g, 0, none⟩ = some (.string r.f0) := (blk_cell HX2.out 0).trans rfl
    have z1 : w2.cell? ⟨g, 1, none⟩ = some (.int .u16 r.f1) := (blk_cell HX2.out 1).trans rfl
    have z2 : w2.cell? ⟨g, 2, none⟩ = some (.int .u16 r.f2) := (blk_cell HX2.out 2).trans rfl
    have z3 : w2.cell? ⟨g, 3, none⟩ = some (.int .u32 r.f3) := (blk_cell HX2.out 3).trans rfl
    have z4 : w2.cell? ⟨g, 4, none⟩ = some (.slice A4 r.f4.length c4) := (blk_cell HX2.out 4).trans rfl
    have z5 : w2.cell? ⟨g, 5, none⟩ = some (.slice A5 r.f5.length c5) := (blk_cell HX2.out 5).trans rfl
    have z6 : w2.cell? ⟨g, 6, none⟩ = some (.slice A6 r.f6.length c6) := (blk_cell HX2.out 6).trans rfl
    go_wp2
    go_ret
    exact ⟨rfl, HB2.out⟩
  rw [if_neg k1] at hR
  have K1 := Lib.hid (show isName r.f0 = true by simpa using k1)
  clear k1
  by_cases k2 : r.f4.any notName = true
  · rw [if_pos k2] at hR
    subst hR
    have K2 := Lib.hid k2
    clear k2
    go_enter Try.func80, Try.ntmps80
    go_wp2_with (((with_reducible refine gate_dst (N := 1) rfl ?_); refine box_event rfl (N := 1) rfl (cs := #[.string r.f0, .int .u16 r.f1, .int .u16 r.f2, .int .u32 r.f3, .slice A4 r.f4.length c4, .slice A5 r.f5.length c5, .slice A6 r.f6.length c6]) (t := 85) (by first | (go_simp; done) | (go_simp; rfl)) ?_; intro g hg w1 hbox hb); have HX := Aside0.mk hbox; have HB := Aside0.mk hb; clear hb hg; have z0 : w1.cell? ⟨g, 0, none⟩ = some (.string r.f0) := (blk_cell HX.out 0).trans rfl; clear hbox)
    have z0 : w1.cell? ⟨g, 0, none⟩ = some (.string r.f0) := (blk_cell HX.out 0).trans rfl
    have z1 : w1.cell? ⟨g, 1, none⟩ = some (.int .u16 r.f1) := (blk_cell HX.out 1).trans rfl
    have z2 : w1.cell? ⟨g, 2, none⟩ = some (.int .u16 r.f2) := (blk_cell HX.out 2).trans rfl
    have z3 : w1.cell? ⟨g, 3, none⟩ = some (.int .u32 r.f3) := (blk_cell HX.out 3).trans rfl
    have z4 : w1.cell? ⟨g, 4, none⟩ = some (.slice A4 r.f4.length c4) := (blk_cell HX.out 4).trans rfl
    have z5 : w1.cell? ⟨g, 5, none⟩ = some (.slice A5 r.f5.length c5) := (blk_cell HX.out 5).trans rfl
    have z6 : w1.cell? ⟨g, 6, none⟩ = some (.slice A6 r.f6.length c6) := (blk_cell HX.out 6).trans rfl
    refine (isName_yes r.f0 _ K1.out).mono ?_
    rintro e w2 ⟨rfl, hb⟩
    have HX2 := Aside0.mk (blk_below HX.out hb)
    have HB2 := Aside0.mk (HB.out.trans (hb.mono (below_size HB.out)))
    clear hb z0 z1 z2 z3 z4 z5 z6
    have z0 : w2.cell? ⟨g, 0, none⟩ = some (.string r.f0) := (blk_cell HX2.out 0).trans rfl
    have z1 : w2.cell? ⟨g, 1, none⟩ = some (.int .u16 r.f1) := (blk_cell HX2.out 1).trans rfl
    have z2 : w2.cell? ⟨g, 2, none⟩ = some (.int .u16 r.f2) := (blk_cell HX2.out 2).trans rfl
    have z3 : w2.cell? ⟨g, 3, none⟩ = some (.int .u32 r.f3) := (blk_cell HX2.out 3).trans rfl
    have z4 : w2.cell? ⟨g, 4, none⟩ = some (.slice A4 r.f4.length c4) := (blk_cell HX2.out 4).trans rfl
    have z5 : w2.cell? ⟨g, 5, none⟩ = some (.slice A5 r.f5.length c5) := (blk_cell HX2.out 5).trans rfl
    have z6 : w2.cell? ⟨g, 6, none⟩ = some (.slice A6 r.f6.length c6) := (blk_cell HX2.out 6).trans rfl
    go_wp2_with fail
    refine (Contains_notName A4 c4 r.f4 _ (Kd.C_below G4.out HB2.out) (by omega) _ K2.out).mono ?_
    rintro e w3 ⟨rfl, hb⟩
    have HX3 := Aside0.mk (blk_below HX2.out hb)
    have HB3 := Aside0.mk (HB2.out.trans (hb.mono (below_size HB2.out)))
    clear hb z0 z1 z2 z3 z4 z5 z6
    have z0 : w3.cell? ⟨g, 0, none⟩ = some (.string r.f0) := (blk_cell HX3.out 0).trans rfl
    have z1 : w3.cell? ⟨g, 1, none⟩ = some (.int .u16 r.f1) := (blk_cell HX3.out 1).trans rfl
    have z2 : w3.cell? ⟨g, 2, none⟩ = some (.int .u16 r.f2) := (blk_cell HX3.out 2).trans rfl
    have z3 : w3.cell? ⟨g, 3, none⟩ = some (.int .u32 r.f3) := (blk_cell HX3.out 3).trans rfl
    have z4 : w3.cell? ⟨g, 4, none⟩ = some (.slice A4 r.f4.length c4) := (blk_cell HX3.out 4).trans rfl
    have z5 : w3.cell? ⟨g, 5, none⟩ = some (.slice A5 r.f5.length c5) := (blk_cell HX3.out 5).trans rfl
    have z6 : w3.cell? ⟨g, 6, none⟩ = some (.slice A6 r.f6.length c6) := (blk_cell HX3.out 6).trans rfl
    go_wp2
    go_ret
    exact ⟨rfl, HB3.out⟩
  rw [if_neg k2] at hR
  replace k2 := Bool.eq_false_iff.mpr k2
  have K2 := Lib.hid k2
  by_cases k3 : shapedB r = false
  · rw [if_pos k3] at hR
    subst hR
    have K3 := Lib.hid k3
    clear k3 k2
    go_enter Try.func80, Try.ntmps80
    go_wp2_with (((with_reducible refine gate_dst (N := 1) rfl ?_); refine box_event rfl (N := 1) rfl (cs := #[.string r.f0, .int .u16 r.f1, .int .u16 r.f2, .int .u32 r.f3, .slice A4 r.f4.length c4, .slice A5 r.f5.length c5, .slice A6 r.f6.length c6]) (t := 85) (by first | (go_simp; done) | (go_simp; rfl)) ?_; intro g hg w1 hbox hb); have HX := Aside0.mk hbox; have HB := Aside0.mk hb; clear hb hg; have z0 : w1.cell? ⟨g, 0, none⟩ = some (.string r.f0) := (blk_cell HX.out 0).trans rfl; clear hbox)
    have z0 : w1.cell? ⟨g, 0, none⟩ = some (.string r.f0) := (blk_cell HX.out 0).trans rfl
    have z1 : w1.cell? ⟨g, 1, none⟩ = some (.int .u16 r.f1) := (blk_cell HX.out 1).trans rfl
    have z2 : w1.cell? ⟨g, 2, none⟩ = some (.int .u16 r.f2) := (blk_cell HX.out 2).trans rfl
    have z3 : w1.cell? ⟨g, 3, none⟩ = some (.int .u32 r.f3) := (blk_cell HX.out 3).trans rfl
    have z4 : w1.cell? ⟨g, 4, none⟩ = some (.slice A4 r.f4.length c4) := (blk_cell HX.out 4).trans rfl
    have z5 : w1.cell? ⟨g, 5, none⟩ = some (.slice A5 r.f5.length c5) := (blk_cell HX.out 5).trans rfl
    have z6 : w1.cell? ⟨g, 6, none⟩ = some (.slice A6 r.f6.length c6) := (blk_cell HX.out 6).trans rfl
    refine (isName_yes r.f0 _ K1.out).mono ?_
    rintro e w2 ⟨rfl, hb⟩
    have HX2 := Aside0.mk (blk_below HX.out hb)
    have HB2 := Aside0.mk (HB.out.trans (hb.mono (below_size HB.out)))
    clear hb z0 z1 z2 z3 z4 z5 z6
    have z0 : w2.cell? ⟨g, 0, none⟩ = some (.string r.f0) := (blk_cell HX2.out 0).trans rfl
    have z1 : w2.cell? ⟨g, 1, none⟩ = some (.int .u16 r.f1) := (blk_cell HX2.out 1).trans rfl
    have z2 : w2.cell? ⟨g, 2, none⟩ = some (.int .u16 r.f2) := (blk_cell HX2.out 2).trans rfl
    have z3 : w2.cell? ⟨g, 3, none⟩ = some (.int .u32 r.f3) := (blk_cell HX2.out 3).trans rfl
    have z4 : w2.cell? ⟨g, 4, none⟩ = some (.slice A4 r.f4.length c4) := (blk_cell HX2.out 4).trans rfl
    have z5 : w2.cell? ⟨g, 5, none⟩ = some (.slice A5 r.f5.length c5) := (blk_cell HX2.out 5).trans rfl
    have z6 : w2.cell? ⟨g, 6, none⟩ = some (.slice A6 r.f6.length c6) := (blk_cell HX2.out 6).trans rfl
    go_wp2_with fail
    refine (Contains_notName A4 c4 r.f4 _ (Kd.C_below G4.out HB2.out) (by omega) _ K2.out).mono ?_
    rintro e w3 ⟨rfl, hb⟩
    have HX3 := Aside0.mk (blk_below HX2.out hb)
    have HB3 := Aside0.mk (HB2.out.trans (hb.mono (below_size HB2.out)))
    clear hb z0 z1 z2 z3 z4 z5 z6
    have z0 : w3.cell? ⟨g, 0, none⟩ = some (.string r.f0) := (blk_cell HX3.out 0).trans rfl
    have z1 : w3.cell? ⟨g, 1, none⟩ = some (.int .u16 r.f1) := (blk_cell HX3.out 1).trans rfl
    have z2 : w3.cell? ⟨g, 2, none⟩ = some (.int .u16 r.f2) := (blk_cell HX3.out 2).trans rfl
    have z3 : w3.cell? ⟨g, 3, none⟩ = some (.int .u32 r.f3) := (blk_cell HX3.out 3).trans rfl
    have z4 : w3.cell? ⟨g, 4, none⟩ = some (.slice A4 r.f4.length c4) := (blk_cell HX3.out 4).trans rfl
    have z5 : w3.cell? ⟨g, 5, none⟩ = some (.slice A5 r.f5.length c5) := (blk_cell HX3.out 5).trans rfl
    have z6 : w3.cell? ⟨g, 6, none⟩ = some (.slice A6 r.f6.length c6) := (blk_cell HX3.out 6).trans rfl
    go_wp2_with fail
    refine (shaped_calls r _ _ (HV.out.below HB3.out) (by omega)).mono ?_
    rw [K3.out]
    rintro e w4 ⟨rfl, hb⟩
    have HX4 := Aside0.mk (blk_below HX3.out hb)
    have HB4 := Aside0.mk (HB3.out.trans (hb.mono (below_size HB3.out)))
    clear hb z0 z1 z2 z3 z4 z5 z6
    have z0 : w4.cell? ⟨g, 0, none⟩ = some (.string r.f0) := (blk_cell HX4.out 0).trans rfl
    have z1 : w4.cell? ⟨g, 1, none⟩ = some (.int .u16 r.f1) := (blk_cell HX4.out 1).trans rfl
    have z2 : w4.cell? ⟨g, 2, none⟩ = some (.int .u16 r.f2) := (blk_cell HX4.out 2).trans rfl
    have z3 : w4.cell? ⟨g, 3, none⟩ = some (.int .u32 r.f3) := (blk_cell HX4.out 3).trans rfl
    have z4 : w4.cell? ⟨g, 4, none⟩ = some (.slice A4 r.f4.length c4) := (blk_cell HX4.out 4).trans rfl
    have z5 : w4.cell? ⟨g, 5, none⟩ = some (.slice A5 r.f5.length c5) := (blk_cell HX4.out 5).trans rfl
    have z6 : w4.cell? ⟨g, 6, none⟩ = some (.slice A6 r.f6.length c6) := (blk_cell HX4.out 6).trans rfl
    go_wp2
    go_ret
    exact ⟨rfl, HB4.out⟩
  rw [if_neg k3] at hR
  replace k3 : shapedB r = true := by simpa using k3
  have K3 := Lib.hid k3
  obtain ⟨n, hn⟩ : ∃ n, sizeF r = n := ⟨_, rfl⟩
  rw [hn] at hR
  have K4 := Lib.hid hn
  by_cases k4 : 131070 < n
  · rw [if_pos k4] at hR
    subst hR
    have d4 : decide ((131070 : Int) < (n : Int)) = true := decide_eq_true (by omega)
    have d4' : decide (131070 < n) = true := decide_eq_true k4
    clear k4 k3 k2 hn
    go_enter Try.func80, Try.ntmps80
    go_wp2_with (((with_reducible refine gate_dst (N := 1) rfl ?_); refine box_event rfl (N := 1) rfl (cs := #[.string r.f0, .int .u16 r.f1, .int .u16 r.f2, .int .u32 r.f3, .slice A4 r.f4.length c4, .slice A5 r.f5.length c5, .slice A6 r.f6.length c6]) (t := 85) (by first | (go_simp; done) | (go_simp; rfl)) ?_; intro g hg w1 hbox hb); have HX := Aside0.mk hbox; have HB := Aside0.mk hb; clear hb hg; have z0 : w1.cell? ⟨g, 0, none⟩ = some (.string r.f0) := (blk_cell HX.out 0).trans rfl; clear hbox)
    have z0 : w1.cell? ⟨g, 0, none⟩ = some (.string r.f0) := (blk_cell HX.out 0).trans rfl
    have z1 : w1.cell? ⟨g, 1, none⟩ = some (.int .u16 r.f1) := (blk_cell HX.out 1).trans rfl
    have z2 : w1.cell? ⟨g, 2, none⟩ = some (.int .u16 r.f2) := (blk_cell HX.out 2).trans rfl
    have z3 : w1.cell? ⟨g, 3, none⟩ = some (.int .u32 r.f3) := (blk_cell HX.out 3).trans rfl
    have z4 : w1.cell? ⟨g, 4, none⟩ = some (.slice A4 r.f4.length c4) := (blk_cell HX.out 4).trans rfl
    have z5 : w1.cell? ⟨g, 5, none⟩ = some (.slice A5 r.f5.length c5) := (blk_cell HX.out 5).trans rfl
    have z6 : w1.cell? ⟨g, 6, none⟩ = some (.slice A6 r.f6.length c6) := (blk_cell HX.out 6).trans rfl
    refine (isName_yes r.f0 _ K1.out).mono ?_
    rintro e w2 ⟨rfl, hb⟩
    have HX2 := Aside0.mk (blk_below HX.out hb)
    have HB2 := Aside0.mk (HB.out.trans (hb.mono (below_size HB.out)))
    clear hb z0 z1 z2 z3 z4 z5 z6
    have z0 : w2.cell? ⟨g, 0, none⟩ = some (.string r.f0) := (blk_cell HX2.out 0).trans rfl
    have z1 : w2.cell? ⟨g, 1, none⟩ = some (.int .u16 r.f1) := (blk_cell HX2.out 1).trans rfl
    have z2 : w2.cell? ⟨g, 2, none⟩ = some (.int .u16 r.f2) := (blk_cell HX2.out 2).trans rfl
    have z3 : w2.cell? ⟨g, 3, none⟩ = some (.int .u32 r.f3) := (blk_cell HX2.out 3).trans rfl
    have z4 : w2.cell? ⟨g, 4, none⟩ = some (.slice A4 r.f4.length c4) := (blk_cell HX2.out 4).trans rfl
    have z5 : w2.cell? ⟨g, 5, none⟩ = some (.slice A5 r.f5.length c5) := (blk_cell HX2.out 5).trans rfl
    have z6 : w2.cell? ⟨g, 6, none⟩ = some (.slice A6 r.f6.length c6) := (blk_cell HX2.out 6).trans rfl
    go_wp2_with fail
    refine (Contains_notName A4 c4 r.f4 _ (Kd.C_below G4.out HB2.out) (by omega) _ K2.out).mono ?_
    rintro e w3 ⟨rfl, hb⟩
    have HX3 := Aside0.mk (blk_below HX2.out hb)
    have HB3 := Aside0.mk (HB2.out.trans (hb.mono (below_size HB2.out)))
    clear hb z0 z1 z2 z3 z4 z5 z6
    have z0 : w3.cell? ⟨g, 0, none⟩ = some (.string r.f0) := (blk_cell HX3.out 0).trans rfl
    have z1 : w3.cell? ⟨g, 1, none⟩ = some (.int .u16 r.f1) := (blk_cell HX3.out 1).trans rfl
    have z2 : w3.cell? ⟨g, 2, none⟩ = some (.int .u16 r.f2) := (blk_cell HX3.out 2).trans rfl
    have z3 : w3.cell? ⟨g, 3, none⟩ = some (.int .u32 r.f3) := (blk_cell HX3.out 3).trans rfl
    have z4 : w3.cell? ⟨g, 4, none⟩ = some (.slice A4 r.f4.length c4) := (blk_cell HX3.out 4).trans rfl
    have z5 : w3.cell? ⟨g, 5, none⟩ = some (.slice A5 r.f5.length c5) := (blk_cell HX3.out 5).trans rfl
    have z6 : w3.cell? ⟨g, 6, none⟩ = some (.slice A6 r.f6.length c6) := (blk_cell HX3.out 6).trans rfl
    go_wp2_with fail
    refine (shaped_calls r _ _ (HV.out.below HB3.out) (by omega)).mono ?_
    rw [K3.out]
    rintro e w4 ⟨rfl, hb⟩
    have HX4 := Aside0.mk (blk_below HX3.out hb)
    have HB4 := Aside0.mk (HB3.out.trans (hb.mono (below_size HB3.out)))
    clear hb z0 z1 z2 z3 z4 z5 z6
    have z0 : w4.cell? ⟨g, 0, none⟩ = some (.string r.f0) := (blk_cell HX4.out 0).trans rfl
    have z1 : w4.cell? ⟨g, 1, none⟩ = some (.int .u16 r.f1) := (blk_cell HX4.out 1).trans rfl
    have z2 : w4.cell? ⟨g, 2, none⟩ = some (.int .u16 r.f2) := (blk_cell HX4.out 2).trans rfl
    have z3 : w4.cell? ⟨g, 3, none⟩ = some (.int .u32 r.f3) := (blk_cell HX4.out 3).trans rfl
    have z4 : w4.cell? ⟨g, 4, none⟩ = some (.slice A4 r.f4.length c4) := (blk_cell HX4.out 4).trans rfl
    have z5 : w4.cell? ⟨g, 5, none⟩ = some (.slice A5 r.f5.length c5) := (blk_cell HX4.out 5).trans rfl
    have z6 : w4.cell? ⟨g, 6, none⟩ = some (.slice A6 r.f6.length c6) := (blk_cell HX4.out 6).trans rfl
    go_wp2_with fail
    refine (size_calls r _ _ (HV.out.below HB4.out) HF.out.names HF.out.texts).mono ?_
    rw [K4.out]
    rintro e w5 ⟨rfl, hb⟩
    have HX5 := Aside0.mk (blk_below HX4.out hb)
    have HB5 := Aside0.mk (HB4.out.trans (hb.mono (below_size HB4.out)))
    clear hb z0 z1 z2 z3 z4 z5 z6
    have z0 : w5.cell? ⟨g, 0, none⟩ = some (.string r.f0) := (blk_cell HX5.out 0).trans rfl
    have z1 : w5.cell? ⟨g, 1, none⟩ = some (.int .u16 r.f1) := (blk_cell HX5.out 1).trans rfl
    have z2 : w5.cell? ⟨g, 2, none⟩ = some (.int .u16 r.f2) := (blk_cell HX5.out 2).trans rfl
    have z3 : w5.cell? ⟨g, 3, none⟩ = some (.int .u32 r.f3) := (blk_cell HX5.out 3).trans rfl
    have z4 : w5.cell? ⟨g, 4, none⟩ = some (.slice A4 r.f4.length c4) := (blk_cell HX5.out 4).trans rfl
    have z5 : w5.cell? ⟨g, 5, none⟩ = some (.slice A5 r.f5.length c5) := (blk_cell HX5.out 5).trans rfl
    have z6 : w5.cell? ⟨g, 6, none⟩ = some (.slice A6 r.f6.length c6) := (blk_cell HX5.out 6).trans rfl
    go_wp2
    go_ret
    exact ⟨rfl, HB5.out⟩
  rw [if_neg k4] at hR
  have HS := Aside0.mk (small_of HF.out (by omega) k2 k3)
  have d4 : decide ((131070 : Int) < (n : Int)) = false := decide_eq_false (by omega)
  have d4' : decide (131070 < n) = false := decide_eq_false k4
  clear k4 k3 k2 hn
  by_cases k5 : 65535 < (plainL r).length
  · rw [if_pos k5] at hR
    subst hR
    have d5 : decide ((65535 : Int) < ((plainL r).length : Int)) = true := decide_eq_true (by omega)
    have d5' : decide (65535 < (plainL r).length) = true := decide_eq_true k5
    clear k5
    go_enter Try.func80, Try.ntmps80
    go_wp2_with (((with_reducible refine gate_dst (N := 1) rfl ?_); refine box_event rfl (N := 1) rfl (cs := #[.string r.f0, .int .u16 r.f1, .int .u16 r.f2, .int .u32 r.f3, .slice A4 r.f4.length c4, .slice A5 r.f5.length c5, .slice A6 r.f6.length c6]) (t := 85) (by first | (go_simp; done) | (go_simp; rfl)) ?_; intro g hg w1 hbox hb); have HX := Aside0.mk hbox; have HB := Aside0.mk hb; clear hb hg; have z0 : w1.cell? ⟨g, 0, none⟩ = some (.string r.f0) := (blk_cell HX.out 0).trans rfl; clear hbox)
    have z0 : w1.cell? ⟨g, 0, none⟩ = some (.string r.f0) := (blk_cell HX.out 0).trans rfl
    have z1 : w1.cell? ⟨g, 1, none⟩ = some (.int .u16 r.f1) := (blk_cell HX.out 1).trans rfl
    have z2 : w1.cell? ⟨g, 2, none⟩ = some (.int .u16 r.f2) := (blk_cell HX.out 2).trans rfl
    have z3 : w1.cell? ⟨g, 3, none⟩ = some (.int .u32 r.f3) := (blk_cell HX.out 3).trans rfl
    have z4 : w1.cell? ⟨g, 4, none⟩ = some (.slice A4 r.f4.length c4) := (blk_cell HX.out 4).trans rfl
    have z5 : w1.cell? ⟨g, 5, none⟩ = some (.slice A5 r.f5.length c5) := (blk_cell HX.out 5).trans rfl
    have z6 : w1.cell? ⟨g, 6, none⟩ = some (.slice A6 r.f6.length c6) := (blk_cell HX.out 6).trans rfl
    refine (isName_yes r.f0 _ K1.out).mono ?_
    rintro e w2 ⟨rfl, hb⟩
    have HX2 := Aside0.mk (blk_below HX.out hb)
    have HB2 := Aside0.mk (HB.out.trans (hb.mono (below_size HB.out)))
    clear hb z0 z1 z2 z3 z4 z5 z6
    have z0 : w2.cell? ⟨g, 0, none⟩ = some (.string r.f0) := (blk_cell HX2.out 0).trans rfl
    have z1 : w2.cell? ⟨g, 1, none⟩ = some (.int .u16 r.f1) := (blk_cell HX2.out 1).trans rfl
    have z2 : w2.cell? ⟨g, 2, none⟩ = some (.int .u16 r.f2) := (blk_cell HX2.out 2).trans rfl
    have z3 : w2.cell? ⟨g, 3, none⟩ = some (.int .u32 r.f3) := (blk_cell HX2.out 3).trans rfl
    have z4 : w2.cell? ⟨g, 4, none⟩ = some (.slice A4 r.f4.length c4) := (blk_cell HX2.out 4).trans rfl
    have z5 : w2.cell? ⟨g, 5, none⟩ = some (.slice A5 r.f5.length c5) := (blk_cell HX2.out 5).trans rfl
    have z6 : w2.cell? ⟨g, 6, none⟩ = some (.slice A6 r.f6.length c6) := (blk_cell HX2.out 6).trans rfl
    go_wp2_with fail
    refine (Contains_notName A4 c4 r.f4 _ (Kd.C_below G4.out HB2.out) (by omega) _ K2.out).mono ?_
    rintro e w3 ⟨rfl, hb⟩
    have HX3 := Aside0.mk (blk_below HX2.out hb)
    have HB3 := Aside0.mk (HB2.out.trans (hb.mono (below_size HB2.out)))
    clear hb z0 z1 z2 z3 z4 z5 z6
    have z0 : w3.cell? ⟨g, 0, none⟩ = some (.string r.f0) := (blk_cell HX3.out 0).trans rfl
    have z1 : w3.cell? ⟨g, 1, none⟩ = some (.int .u16 r.f1) := (blk_cell HX3.out 1).trans rfl
    have z2 : w3.cell? ⟨g, 2, none⟩ = some (.int .u16 r.f2) := (blk_cell HX3.out 2).trans rfl
    have z3 : w3.cell? ⟨g, 3, none⟩ = some (.int .u32 r.f3) := (blk_cell HX3.out 3).trans rfl
    have z4 : w3.cell? ⟨g, 4, none⟩ = some (.slice A4 r.f4.length c4) := (blk_cell HX3.out 4).trans rfl
    have z5 : w3.cell? ⟨g, 5, none⟩ = some (.slice A5 r.f5.length c5) := (blk_cell HX3.out 5).trans rfl
    have z6 : w3.cell? ⟨g, 6, none⟩ = some (.slice A6 r.f6.length c6) := (blk_cell HX3.out 6).trans rfl
    go_wp2_with fail
    refine (shaped_calls r _ _ (HV.out.below HB3.out) (by omega)).mono ?_
    rw [K3.out]
    rintro e w4 ⟨rfl, hb⟩
    have HX4 := Aside0.mk (blk_below HX3.out hb)
    have HB4 := Aside0.mk (HB3.out.trans (hb.mono (below_size HB3.out)))
    clear hb z0 z1 z2 z3 z4 z5 z6
    have z0 : w4.cell? ⟨g, 0, none⟩ = some (.string r.f0) := (blk_cell HX4.out 0).trans rfl
    have z1 : w4.cell? ⟨g, 1, none⟩ = some (.int .u16 r.f1) := (blk_cell HX4.out 1).trans rfl
    have z2 : w4.cell? ⟨g, 2, none⟩ = some (.int .u16 r.f2) := (blk_cell HX4.out 2).trans rfl
    have z3 : w4.cell? ⟨g, 3, none⟩ = some (.int .u32 r.f3) := (blk_cell HX4.out 3).trans rfl
    have z4 : w4.cell? ⟨g, 4, none⟩ = some (.slice A4 r.f4.length c4) := (blk_cell HX4.out 4).trans rfl
    have z5 : w4.cell? ⟨g, 5, none⟩ = some (.slice A5 r.f5.length c5) := (blk_cell HX4.out 5).trans rfl
    have z6 : w4.cell? ⟨g, 6, none⟩ = some (.slice A6 r.f6.length c6) := (blk_cell HX4.out 6).trans rfl
    go_wp2_with fail
    refine (size_calls r _ _ (HV.out.below HB4.out) HF.out.names HF.out.texts).mono ?_
    rw [K4.out]
    rintro e w5 ⟨rfl, hb⟩
    have HX5 := Aside0.mk (blk_below HX4.out hb)
    have HB5 := Aside0.mk (HB4.out.trans (hb.mono (below_size HB4.out)))
    clear hb z0 z1 z2 z3 z4 z5 z6
    have z0 : w5.cell? ⟨g, 0, none⟩ = some (.string r.f0) := (blk_cell HX5.out 0).trans rfl
    have z1 : w5.cell? ⟨g, 1, none⟩ = some (.int .u16 r.f1) := (blk_cell HX5.out 1).trans rfl
    have z2 : w5.cell? ⟨g, 2, none⟩ = some (.int .u16 r.f2) := (blk_cell HX5.out 2).trans rfl
    have z3 : w5.cell? ⟨g, 3, none⟩ = some (.int .u32 r.f3) := (blk_cell HX5.out 3).trans rfl
    have z4 : w5.cell? ⟨g, 4, none⟩ = some (.slice A4 r.f4.length c4) := (blk_cell HX5.out 4).trans rfl
    have z5 : w5.cell? ⟨g, 5, none⟩ = some (.slice A5 r.f5.length c5) := (blk_cell HX5.out 5).trans rfl
    have z6 : w5.cell? ⟨g, 6, none⟩ = some (.slice A6 r.f6.length c6) := (blk_cell HX5.out 6).trans rfl
    go_wp2_with fail
    refine (plain_calls r _ _ (HV.out.below HB5.out) HS.out).mono ?_
    rintro e w6 ⟨v0, rfl, ho, hb⟩
    obtain ⟨A, c, rfl, _, _⟩ := Kd.R_reads ho
    clear ho
    have HX6 := Aside0.mk (blk_below HX5.out hb)
    have HB6 := Aside0.mk (HB5.out.trans (hb.mono (below_size HB5.out)))
    clear hb z0 z1 z2 z3 z4 z5 z6
    have z0 : w6.cell? ⟨g, 0, none⟩ = some (.string r.f0) := (blk_cell HX6.out 0).trans rfl
    have z1 : w6.cell? ⟨g, 1, none⟩ = some (.int .u16 r.f1) := (blk_cell HX6.out 1).trans rfl
    have z2 : w6.cell? ⟨g, 2, none⟩ = some (.int .u16 r.f2) := (blk_cell HX6.out 2).trans rfl
    have z3 : w6.cell? ⟨g, 3, none⟩ = some (.int .u32 r.f3) := (blk_cell HX6.out 3).trans rfl
    have z4 : w6.cell? ⟨g, 4, none⟩ = some (.slice A4 r.f4.length c4) := (blk_cell HX6.out 4).trans rfl
    have z5 : w6.cell? ⟨g, 5, none⟩ = some (.slice A5 r.f5.length c5) := (blk_cell HX6.out 5).trans rfl
    have z6 : w6.cell? ⟨g, 6, none⟩ = some (.slice A6 r.f6.length c6) := (blk_cell HX6.out 6).trans rfl
    go_wp2
    go_ret
    exact ⟨rfl, HB6.out⟩
  rw [if_neg k5] at hR
  have d5 : decide ((65535 : Int) < ((plainL r).length : Int)) = false := decide_eq_false (by omega)
  have d5' : decide (65535 < (plainL r).length) = false := decide_eq_false k5
  clear k5
  by_cases k6 : 2147483647 < r.f3
  · have d6 : decide (2147483647 < r.f3) = true := decide_eq_true k6
    by_cases k7 : r.f1 = 41
    · rw [if_neg (fun h => h.2 k7)] at hR
      subst hR
      have d7 : (r.f1 != 41) = false := by rw [bne_eq_false_iff_eq]; exact k7
      clear k6 k7
      go_enter Try.func80, Try.ntmps80
      go_wp2_with (((with_reducible refine gate_dst (N := 1) rfl ?_); refine box_event rfl (N := 1) rfl (cs := #[.string r.f0, .int .u16 r.f1, .int .u16 r.f2, .int .u32 r.f3, .slice A4 r.f4.length c4, .slice A5 r.f5.length c5, .slice A6 r.f6.length c6]) (t := 85) (by first | (go_simp; done) | (go_simp; rfl)) ?_; intro g hg w1 hbox hb); have HX := Aside0.mk hbox; have HB := Aside0.mk hb; clear hb hg; have z0 : w1.cell? ⟨g, 0, none⟩ = some (.string r.f0) := (blk_cell HX.out 0).trans rfl; clear hbox)
      have z0 : w1.cell? ⟨g, 0, none⟩ = some (.string r.f0) := (blk_cell HX.out 0).trans rfl
      have z1 : w1.cell? ⟨g, 1, none⟩ = some (.int .u16 r.f1) := (blk_cell HX.out 1).trans rfl
      have z2 : w1.cell? ⟨g, 2, none⟩ = some (.int .u16 r.f2) := (blk_cell HX.out 2).trans rfl
      have z3 : w1.cell? ⟨g, 3, none⟩ = some (.int .u32 r.f3) := (blk_cell HX.out 3).trans rfl
      have z4 : w1.cell? ⟨g, 4, none⟩ = some (.slice A4 r.f4.length c4) := (blk_cell HX.out 4).trans rfl
      have z5 : w1.cell? ⟨g, 5, none⟩ = some (.slice A5 r.f5.length c5) := (blk_cell HX.out 5).trans rfl
      have z6 : w1.cell? ⟨g, 6, none⟩ = some (.slice A6 r.f6.length c6) := (blk_cell HX.out 6).trans rfl
      refine (isName_yes r.f0 _ K1.out).mono ?_
      rintro e w2 ⟨rfl, hb⟩
      have HX2 := Aside0.mk (blk_below HX.out hb)
      have HB2 := Aside0.mk (HB.out.trans (hb.mono (below_size HB.out)))
      clear hb z0 z1 z2 z3 z4 z5 z6
      have z0 : w2.cell? ⟨g, 0, none⟩ = some (.string r.f0) := (blk_cell HX2.out 0).trans rfl
      have z1 : w2.cell? ⟨g, 1, none⟩ = some (.int .u16 r.f1) := (blk_cell HX2.out 1).trans rfl
      have z2 : w2.cell? ⟨g, 2, none⟩ = some (.int .u16 r.f2) := (blk_cell HX2.out 2).trans rfl
      have z3 : w2.cell? ⟨g, 3, none⟩ = some (.int .u32 r.f3) := (blk_cell HX2.out 3).trans rfl
      have z4 : w2.cell? ⟨g, 4, none⟩ = some (.slice A4 r.f4.length c4) := (blk_cell HX2.out 4).trans rfl
      have z5 : w2.cell? ⟨g, 5, none⟩ = some (.slice A5 r.f5.length c5) := (blk_cell HX2.out 5).trans rfl
      have z6 : w2.cell? ⟨g, 6, none⟩ = some (.slice A6 r.f6.length c6) := (blk_cell HX2.out 6).trans rfl
      go_wp2_with fail
      refine (Contains_notName A4 c4 r.f4 _ (Kd.C_below G4.out HB2.out) (by omega) _ K2.out).mono ?_
      rintro e w3 ⟨rfl, hb⟩
      have HX3 := Aside0.mk (blk_below HX2.out hb)
      have HB3 := Aside0.mk (HB2.out.trans (hb.mono (below_size HB2.out)))
      clear hb z0 z1 z2 z3 z4 z5 z6
      have z0 : w3.cell? ⟨g, 0, none⟩ = some (.string r.f0) := (blk_cell HX3.out 0).trans rfl
      have z1 : w3.cell? ⟨g, 1, none⟩ = some (.int .u16 r.f1) := (blk_cell HX3.out 1).trans rfl
      have z2 : w3.cell? ⟨g, 2, none⟩ = some (.int .u16 r.f2) := (blk_cell HX3.out 2).trans rfl
      have z3 : w3.cell? ⟨g, 3, none⟩ = some (.int .u32 r.f3) := (blk_cell HX3.out 3).trans rfl
      have z4 : w3.cell? ⟨g, 4, none⟩ = some (.slice A4 r.f4.length c4) := (blk_cell HX3.out 4).trans rfl
      have z5 : w3.cell? ⟨g, 5, none⟩ = some (.slice A5 r.f5.length c5) := (blk_cell HX3.out 5).trans rfl
      have z6 : w3.cell? ⟨g, 6, none⟩ = some (.slice A6 r.f6.length c6) := (blk_cell HX3.out 6).trans rfl
      go_wp2_with fail
      refine (shaped_calls r _ _ (HV.out.below HB3.out) (by omega)).mono ?_
      rw [K3.out]
      rintro e w4 ⟨rfl, hb⟩
      have HX4 := Aside0.mk (blk_below HX3.out hb)
      have HB4 := Aside0.mk (HB3.out.trans (hb.mono (below_size HB3.out)))
      clear hb z0 z1 z2 z3 z4 z5 z6
      have z0 : w4.cell? ⟨g, 0, none⟩ = some (.string r.f0) := (blk_cell HX4.out 0).trans rfl
      have z1 : w4.cell? ⟨g, 1, none⟩ = some (.int .u16 r.f1) := (blk_cell HX4.out 1).trans rfl
      have z2 : w4.cell? ⟨g, 2, none⟩ = some (.int .u16 r.f2) := (blk_cell HX4.out 2).trans rfl
      have z3 : w4.cell? ⟨g, 3, none⟩ = some (.int .u32 r.f3) := (blk_cell HX4.out 3).trans rfl
      have z4 : w4.cell? ⟨g, 4, none⟩ = some (.slice A4 r.f4.length c4) := (blk_cell HX4.out 4).trans rfl
      have z5 : w4.cell? ⟨g, 5, none⟩ = some (.slice A5 r.f5.length c5) := (blk_cell HX4.out 5).trans rfl
      have z6 : w4.cell? ⟨g, 6, none⟩ = some (.slice A6 r.f6.length c6) := (blk_cell HX4.out 6).trans rfl
      go_wp2_with fail
      refine (size_calls r _ _ (HV.out.below HB4.out) HF.out.names HF.out.texts).mono ?_
      rw [K4.out]
      rintro e w5 ⟨rfl, hb⟩
      have HX5 := Aside0.mk (blk_below HX4.out hb)
      have HB5 := Aside0.mk (HB4.out.trans (hb.mono (below_size HB4.out)))
      clear hb z0 z1 z2 z3 z4 z5 z6
      have z0 : w5.cell? ⟨g, 0, none⟩ = some (.string r.f0) := (blk_cell HX5.out 0).trans rfl
      have z1 : w5.cell? ⟨g, 1, none⟩ = some (.int .u16 r.f1) := (blk_cell HX5.out 1).trans rfl
      have z2 : w5.cell? ⟨g, 2, none⟩ = some (.int .u16 r.f2) := (blk_cell HX5.out 2).trans rfl
      have z3 : w5.cell? ⟨g, 3, none⟩ = some (.int .u32 r.f3) := (blk_cell HX5.out 3).trans rfl
      have z4 : w5.cell? ⟨g, 4, none⟩ = some (.slice A4 r.f4.length c4) := (blk_cell HX5.out 4).trans rfl
      have z5 : w5.cell? ⟨g, 5, none⟩ = some (.slice A5 r.f5.length c5) := (blk_cell HX5.out 5).trans rfl
      have z6 : w5.cell? ⟨g, 6, none⟩ = some (.slice A6 r.f6.length c6) := (blk_cell HX5.out 6).trans rfl
      go_wp2_with fail
      refine (plain_calls r _ _ (HV.out.below HB5.out) HS.out).mono ?_
      rintro e w6 ⟨v0, rfl, ho, hb⟩
      obtain ⟨A, c, rfl, _, _⟩ := Kd.R_reads ho
      clear ho
      have HX6 := Aside0.mk (blk_below HX5.out hb)
      have HB6 := Aside0.mk (HB5.out.trans (hb.mono (below_size HB5.out)))
      clear hb z0 z1 z2 z3 z4 z5 z6
      have z0 : w6.cell? ⟨g, 0, none⟩ = some (.string r.f0) := (blk_cell HX6.out 0).trans rfl
      have z1 : w6.cell? ⟨g, 1, none⟩ = some (.int .u16 r.f1) := (blk_cell HX6.out 1).trans rfl
      have z2 : w6.cell? ⟨g, 2, none⟩ = some (.int .u16 r.f2) := (blk_cell HX6.out 2).trans rfl
      have z3 : w6.cell? ⟨g, 3, none⟩ = some (.int .u32 r.f3) := (blk_cell HX6.out 3).trans rfl
      have z4 : w6.cell? ⟨g, 4, none⟩ = some (.slice A4 r.f4.length c4) := (blk_cell HX6.out 4).trans rfl
      have z5 : w6.cell? ⟨g, 5, none⟩ = some (.slice A5 r.f5.length c5) := (blk_cell HX6.out 5).trans rfl
      have z6 : w6.cell? ⟨g, 6, none⟩ = some (.slice A6 r.f6.length c6) := (blk_cell HX6.out 6).trans rfl
      go_wp2
      go_ret
      exact ⟨rfl, HB6.out⟩
    · rw [if_pos ⟨k6, k7⟩] at hR
      subst hR
      have d7 : (r.f1 != 41) = true := by rw [bne_iff_ne]; exact k7
      clear k6 k7
      go_enter Try.func80, Try.ntmps80
      go_wp2_with (((with_reducible refine gate_dst (N := 1) rfl ?_); refine box_event rfl (N := 1) rfl (cs := #[.string r.f0, .int .u16 r.f1, .int .u16 r.f2, .int .u32 r.f3, .slice A4 r.f4.length c4, .slice A5 r.f5.length c5, .slice A6 r.f6.length c6]) (t := 85) (by first | (go_simp; done) | (go_simp; rfl)) ?_; intro g hg w1 hbox hb); have HX := Aside0.mk hbox; have HB := Aside0.mk hb; clear hb hg; have z0 : w1.cell? ⟨g, 0, none⟩ = some (.string r.f0) := (blk_cell HX.out 0).trans rfl; clear hbox)
      have z0 : w1.cell? ⟨g, 0, none⟩ = some (.string r.f0) := (blk_cell HX.out 0).trans rfl
      have z1 : w1.cell? ⟨g, 1, none⟩ = some (.int .u16 r.f1) := (blk_cell HX.out 1).trans rfl
      have z2 : w1.cell? ⟨g, 2, none⟩ = some (.int .u16 r.f2) := (blk_cell HX.out 2).trans rfl
      have z3 : w1.cell? ⟨g, 3, none⟩ = some (.int .u32 r.f3) := (blk_cell HX.out 3).trans rfl
      have z4 : w1.cell? ⟨g, 4, none⟩ = some (.slice A4 r.f4.length c4) := (blk_cell HX.out 4).trans rfl
      have z5 : w1.cell? ⟨g, 5, none⟩ = some (.slice A5 r.f5.length c5) := (blk_cell HX.out 5).trans rfl
      have z6 : w1.cell? ⟨g, 6, none⟩ = some (.slice A6 r.f6.length c6) := (blk_cell HX.out 6).trans rfl
      refine (isName_yes r.f0 _ K1.out).mono ?_
      rintro e w2 ⟨rfl, hb⟩
      have HX2 := Aside0.mk (blk_below HX.out hb)
      have HB2 := Aside0.mk (HB.out.trans (hb.mono (below_size HB.out)))
      clear hb z0 z1 z2 z3 z4 z5 z6
      have z0 : w2.cell? ⟨g, 0, none⟩ = some (.string r.f0) := (blk_cell HX2.out 0).trans rfl
      have z1 : w2.cell? ⟨g, 1, none⟩ = some (.int .u16 r.f1) := (blk_cell HX2.out 1).trans rfl
      have z2 : w2.cell? ⟨g, 2, none⟩ = some (.int .u16 r.f2) := (blk_cell HX2.out 2).trans rfl
      have z3 : w2.cell? ⟨g, 3, none⟩ = some (.int .u32 r.f3) := (blk_cell HX2.out 3).trans rfl
      have z4 : w2.cell? ⟨g, 4, none⟩ = some (.slice A4 r.f4.length c4) := (blk_cell HX2.out 4).trans rfl
      have z5 : w2.cell? ⟨g, 5, none⟩ = some (.slice A5 r.f5.length c5) := (blk_cell HX2.out 5).trans rfl
      have z6 : w2.cell? ⟨g, 6, none⟩ = some (.slice A6 r.f6.length c6) := (blk_cell HX2.out 6).trans rfl
      go_wp2_with fail
      refine (Contains_notName A4 c4 r.f4 _ (Kd.C_below G4.out HB2.out) (by omega) _ K2.out).mono ?_
      rintro e w3 ⟨rfl, hb⟩
      have HX3 := Aside0.mk (blk_below HX2.out hb)
      have HB3 := Aside0.mk (HB2.out.trans (hb.mono (below_size HB2.out)))
      clear hb z0 z1 z2 z3 z4 z5 z6
      have z0 : w3.cell? ⟨g, 0, none⟩ = some (.string r.f0) := (blk_cell HX3.out 0).trans rfl
      have z1 : w3.cell? ⟨g, 1, none⟩ = some (.int .u16 r.f1) := (blk_cell HX3.out 1).trans rfl
      have z2 : w3.cell? ⟨g, 2, none⟩ = some (.int .u16 r.f2) := (blk_cell HX3.out 2).trans rfl
      have z3 : w3.cell? ⟨g, 3, none⟩ = some (.int .u32 r.f3) := (blk_cell HX3.out 3).trans rfl
      have z4 : w3.cell? ⟨g, 4, none⟩ = some (.slice A4 r.f4.length c4) := (blk_cell HX3.out 4).trans rfl
      have z5 : w3.cell? ⟨g, 5, none⟩ = some (.slice A5 r.f5.length c5) := (blk_cell HX3.out 5).trans rfl
      have z6 : w3.cell? ⟨g, 6, none⟩ = some (.slice A6 r.f6.length c6) := (blk_cell HX3.out 6).trans rfl
      go_wp2_with fail
      refine (shaped_calls r _ _ (HV.out.below HB3.out) (by omega)).mono ?_
      rw [K3.out]
      rintro e w4 ⟨rfl, hb⟩
      have HX4 := Aside0.mk (blk_below HX3.out hb)
      have HB4 := Aside0.mk (HB3.out.trans (hb.mono (below_size HB3.out)))
      clear hb z0 z1 z2 z3 z4 z5 z6
      have z0 : w4.cell? ⟨g, 0, none⟩ = some (.string r.f0) := (blk_cell HX4.out 0).trans rfl
      have z1 : w4.cell? ⟨g, 1, none⟩ = some (.int .u16 r.f1) := (blk_cell HX4.out 1).trans rfl
      have z2 : w4.cell? ⟨g, 2, none⟩ = some (.int .u16 r.f2) := (blk_cell HX4.out 2).trans rfl
      have z3 : w4.cell? ⟨g, 3, none⟩ = some (.int .u32 r.f3) := (blk_cell HX4.out 3).trans rfl
      have z4 : w4.cell? ⟨g, 4, none⟩ = some (.slice A4 r.f4.length c4) := (blk_cell HX4.out 4).trans rfl
      have z5 : w4.cell? ⟨g, 5, none⟩ = some (.slice A5 r.f5.length c5) := (blk_cell HX4.out 5).trans rfl
      have z6 : w4.cell? ⟨g, 6, none⟩ = some (.slice A6 r.f6.length c6) := (blk_cell HX4.out 6).trans rfl
      go_wp2_with fail
      refine (size_calls r _ _ (HV.out.below HB4.out) HF.out.names HF.out.texts).mono ?_
      rw [K4.out]
      rintro e w5 ⟨rfl, hb⟩
      have HX5 := Aside0.mk (blk_below HX4.out hb)
      have HB5 := Aside0.mk (HB4.out.trans (hb.mono (below_size HB4.out)))
      clear hb z0 z1 z2 z3 z4 z5 z6
      have z0 : w5.cell? ⟨g, 0, none⟩ = some (.string r.f0) := (blk_cell HX5.out 0).trans rfl
      have z1 : w5.cell? ⟨g, 1, none⟩ = some (.int .u16 r.f1) := (blk_cell HX5.out 1).trans rfl
      have z2 : w5.cell? ⟨g, 2, none⟩ = some (.int .u16 r.f2) := (blk_cell HX5.out 2).trans rfl
      have z3 : w5.cell? ⟨g, 3, none⟩ = some (.int .u32 r.f3) := (blk_cell HX5.out 3).trans rfl
      have z4 : w5.cell? ⟨g, 4, none⟩ = some (.slice A4 r.f4.length c4) := (blk_cell HX5.out 4).trans rfl
      have z5 : w5.cell? ⟨g, 5, none⟩ = some (.slice A5 r.f5.length c5) := (blk_cell HX5.out 5).trans rfl
      have z6 : w5.cell? ⟨g, 6, none⟩ = some (.slice A6 r.f6.length c6) := (blk_cell HX5.out 6).trans rfl
      go_wp2_with fail
      refine (plain_calls r _ _ (HV.out.below HB5.out) HS.out).mono ?_
      rintro e w6 ⟨v0, rfl, ho, hb⟩
      obtain ⟨A, c, rfl, _, _⟩ := Kd.R_reads ho
      clear ho
      have HX6 := Aside0.mk (blk_below HX5.out hb)
      have HB6 := Aside0.mk (HB5.out.trans (hb.mono (below_size HB5.out)))
      clear hb z0 z1 z2 z3 z4 z5 z6
      have z0 : w6.cell? ⟨g, 0, none⟩ = some (.string r.f0) := (blk_cell HX6.out 0).trans rfl
      have z1 : w6.cell? ⟨g, 1, none⟩ = some (.int .u16 r.f1) := (blk_cell HX6.out 1).trans rfl
      have z2 : w6.cell? ⟨g, 2, none⟩ = some (.int .u16 r.f2) := (blk_cell HX6.out 2).trans rfl
      have z3 : w6.cell? ⟨g, 3, none⟩ = some (.int .u32 r.f3) := (blk_cell HX6.out 3).trans rfl
      have z4 : w6.cell? ⟨g, 4, none⟩ = some (.slice A4 r.f4.length c4) := (blk_cell HX6.out 4).trans rfl
      have z5 : w6.cell? ⟨g, 5, none⟩ = some (.slice A5 r.f5.length c5) := (blk_cell HX6.out 5).trans rfl
      have z6 : w6.cell? ⟨g, 6, none⟩ = some (.slice A6 r.f6.length c6) := (blk_cell HX6.out 6).trans rfl
      go_wp2
      go_ret
      exact ⟨rfl, HB6.out⟩
  · rw [if_neg (fun h => k6 h.1)] at hR
    subst hR
    have d6 : decide (2147483647 < r.f3) = false := decide_eq_false k6
    clear k6
    go_enter Try.func80, Try.ntmps80
    go_wp2_with (((with_reducible refine gate_dst (N := 1) rfl ?_); refine box_event rfl (N := 1) rfl (cs := #[.string r.f0, .int .u16 r.f1, .int .u16 r.f2, .int .u32 r.f3, .slice A4 r.f4.length c4, .slice A5 r.f5.length c5, .slice A6 r.f6.length c6]) (t := 85) (by first | (go_simp; done) | (go_simp; rfl)) ?_; intro g hg w1 hbox hb); have HX := Aside0.mk hbox; have HB := Aside0.mk hb; clear hb hg; have z0 : w1.cell? ⟨g, 0, none⟩ = some (.string r.f0) := (blk_cell HX.out 0).trans rfl; clear hbox)
    have z0 : w1.cell? ⟨g, 0, none⟩ = some (.string r.f0) := (blk_cell HX.out 0).trans rfl
    have z1 : w1.cell? ⟨g, 1, none⟩ = some (.int .u16 r.f1) := (blk_cell HX.out 1).trans rfl
    have z2 : w1.cell? ⟨g, 2, none⟩ = some (.int .u16 r.f2) := (blk_cell HX.out 2).trans rfl
    have z3 : w1.cell? ⟨g, 3, none⟩ = some (.int .u32 r.f3) := (blk_cell HX.out 3).trans rfl
    have z4 : w1.cell? ⟨g, 4, none⟩ = some (.slice A4 r.f4.length c4) := (blk_cell HX.out 4).trans rfl
    have z5 : w1.cell? ⟨g, 5, none⟩ = some (.slice A5 r.f5.length c5) := (blk_cell HX.out 5).trans rfl
    have z6 : w1.cell? ⟨g, 6, none⟩ = some (.slice A6 r.f6.length c6) := (blk_cell HX.out 6).trans rfl
    refine (isName_yes r.f0 _ K1.out).mono ?_
    rintro e w2 ⟨rfl, hb⟩
    have HX2 := Aside0.mk (blk_below HX.out hb)
    have HB2 := Aside0.mk (HB.out.trans (hb.mono (below_size HB.out)))
    clear hb z0 z1 z2 z3 z4 z5 z6
    have z0 : w2.cell? ⟨g, 0, none⟩ = some (.string r.f0) := (blk_cell HX2.out 0).trans rfl
    have z1 : w2.cell? ⟨g, 1, none⟩ = some (.int .u16 r.f1) := (blk_cell HX2.out 1).trans rfl
    have z2 : w2.cell? ⟨g, 2, none⟩ = some (.int .u16 r.f2) := (blk_cell HX2.out 2).trans rfl
    have z3 : w2.cell? ⟨g, 3, none⟩ = some (.int .u32 r.f3) := (blk_cell HX2.out 3).trans rfl
    have z4 : w2.cell? ⟨g, 4, none⟩ = some (.slice A4 r.f4.length c4) := (blk_cell HX2.out 4).trans rfl
    have z5 : w2.cell? ⟨g, 5, none⟩ = some (.slice A5 r.f5.length c5) := (blk_cell HX2.out 5).trans rfl
    have z6 : w2.cell? ⟨g, 6, none⟩ = some (.slice A6 r.f6.length c6) := (blk_cell HX2.out 6).trans rfl
    go_wp2_with fail
    refine (Contains_notName A4 c4 r.f4 _ (Kd.C_below G4.out HB2.out) (by omega) _ K2.out).mono ?_
    rintro e w3 ⟨rfl, hb⟩
    have HX3 := Aside0.mk (blk_below HX2.out hb)
    have HB3 := Aside0.mk (HB2.out.trans (hb.mono (below_size HB2.out)))
    clear hb z0 z1 z2 z3 z4 z5 z6
    have z0 : w3.cell? ⟨g, 0, none⟩ = some (.string r.f0) := (blk_cell HX3.out 0).trans rfl
    have z1 : w3.cell? ⟨g, 1, none⟩ = some (.int .u16 r.f1) := (blk_cell HX3.out 1).trans rfl
    have z2 : w3.cell? ⟨g, 2, none⟩ = some (.int .u16 r.f2) := (blk_cell HX3.out 2).trans rfl
    have z3 : w3.cell? ⟨g, 3, none⟩ = some (.int .u32 r.f3) := (blk_cell HX3.out 3).trans rfl
    have z4 : w3.cell? ⟨g, 4, none⟩ = some (.slice A4 r.f4.length c4) := (blk_cell HX3.out 4).trans rfl
    have z5 : w3.cell? ⟨g, 5, none⟩ = some (.slice A5 r.f5.length c5) := (blk_cell HX3.out 5).trans rfl
    have z6 : w3.cell? ⟨g, 6, none⟩ = some (.slice A6 r.f6.length c6) := (blk_cell HX3.out 6).trans rfl
    go_wp2_with fail
    refine (shaped_calls r _ _ (HV.out.below HB3.out) (by omega)).mono ?_
    rw [K3.out]
    rintro e w4 ⟨rfl, hb⟩
    have HX4 := Aside0.mk (blk_below HX3.out hb)
    have HB4 := Aside0.mk (HB3.out.trans (hb.mono (below_size HB3.out)))
    clear hb z0 z1 z2 z3 z4 z5 z6
    have z0 : w4.cell? ⟨g, 0, none⟩ = some (.string r.f0) := (blk_cell HX4.out 0).trans rfl
    have z1 : w4.cell? ⟨g, 1, none⟩ = some (.int .u16 r.f1) := (blk_cell HX4.out 1).trans rfl
    have z2 : w4.cell? ⟨g, 2, none⟩ = some (.int .u16 r.f2) := (blk_cell HX4.out 2).trans rfl
    have z3 : w4.cell? ⟨g, 3, none⟩ = some (.int .u32 r.f3) := (blk_cell HX4.out 3).trans rfl
    have z4 : w4.cell? ⟨g, 4, none⟩ = some (.slice A4 r.f4.length c4) := (blk_cell HX4.out 4).trans rfl
    have z5 : w4.cell? ⟨g, 5, none⟩ = some (.slice A5 r.f5.length c5) := (blk_cell HX4.out 5).trans rfl
    have z6 : w4.cell? ⟨g, 6, none⟩ = some (.slice A6 r.f6.length c6) := (blk_cell HX4.out 6).trans rfl
    go_wp2_with fail
    refine (size_calls r _ _ (HV.out.below HB4.out) HF.out.names HF.out.texts).mono ?_
    rw [K4.out]
    rintro e w5 ⟨rfl, hb⟩
    have HX5 := Aside0.mk (blk_below HX4.out hb)
    have HB5 := Aside0.mk (HB4.out.trans (hb.mono (below_size HB4.out)))
    clear hb z0 z1 z2 z3 z4 z5 z6
    have z0 : w5.cell? ⟨g, 0, none⟩ = some (.string r.f0) := (blk_cell HX5.out 0).trans rfl
    have z1 : w5.cell? ⟨g, 1, none⟩ = some (.int .u16 r.f1) := (blk_cell HX5.out 1).trans rfl
    have z2 : w5.cell? ⟨g, 2, none⟩ = some (.int .u16 r.f2) := (blk_cell HX5.out 2).trans rfl
    have z3 : w5.cell? ⟨g, 3, none⟩ = some (.int .u32 r.f3) := (blk_cell HX5.out 3).trans rfl
    have z4 : w5.cell? ⟨g, 4, none⟩ = some (.slice A4 r.f4.length c4) := (blk_cell HX5.out 4).trans rfl
    have z5 : w5.cell? ⟨g, 5, none⟩ = some (.slice A5 r.f5.length c5) := (blk_cell HX5.out 5).trans rfl
    have z6 : w5.cell? ⟨g, 6, none⟩ = some (.slice A6 r.f6.length c6) := (blk_cell HX5.out 6).trans rfl
    go_wp2_with fail
    refine (plain_calls r _ _ (HV.out.below HB5.out) HS.out).mono ?_
    rintro e w6 ⟨v0, rfl, ho, hb⟩
    obtain ⟨A, c, rfl, _, _⟩ := Kd.R_reads ho
    clear ho
    have HX6 := Aside0.mk (blk_below HX5.out hb)
    have HB6 := Aside0.mk (HB5.out.trans (hb.mono (below_size HB5.out)))
    clear hb z0 z1 z2 z3 z4 z5 z6
    have z0 : w6.cell? ⟨g, 0, none⟩ = some (.string r.f0) := (blk_cell HX6.out 0).trans rfl
    have z1 : w6.cell? ⟨g, 1, none⟩ = some (.int .u16 r.f1) := (blk_cell HX6.out 1).trans rfl
    have z2 : w6.cell? ⟨g, 2, none⟩ = some (.int .u16 r.f2) := (blk_cell HX6.out 2).trans rfl
    have z3 : w6.cell? ⟨g, 3, none⟩ = some (.int .u32 r.f3) := (blk_cell HX6.out 3).trans rfl
    have z4 : w6.cell? ⟨g, 4, none⟩ = some (.slice A4 r.f4.length c4) := (blk_cell HX6.out 4).trans rfl
    have z5 : w6.cell? ⟨g, 5, none⟩ = some (.slice A5 r.f5.length c5) := (blk_cell HX6.out 5).trans rfl
    have z6 : w6.cell? ⟨g, 6, none⟩ = some (.slice A6 r.f6.length c6) := (blk_cell HX6.out 6).trans rfl
    go_wp2
    go_ret
    exact ⟨rfl, HB6.out⟩
end Go.Proofs.Ytfoflodgegehfaa.M
set_option linter.unusedVariables false
set_option linter.unusedSimpArgs false
namespace Go.Proofs.Ytfoflodgegehfaa.M
open Go.RowKit Go.Maps Go.Proofs.YtfoflodgegehfaaW.PrintWords Go.Proofs.YtfoflodgegehfaaW.PrintLast Go.Proofs.YtfoflodgegehfaaW.PrintMore
attribute [local go_sem] max2_int min2_int max_two min_two max_three min_three max_four min_four
attribute [local go_sem ↓] Go.wp_at_zero Go.wp_at_succ
def quesR (s : ByteArray) (a : Int) : Except Int (Ques × Int) :=
  match nameAt s a with
  | .error c => .error c
  | .ok (b, a1) => match getF s a1 2 with
    | none => .error 2
    | some t => match getF s (a1 + 2) 2 with
      | none => .error 2
      | some c => .ok (⟨strOfNums b, t, c⟩, a1 + 2 + 2)
def QuesP (q : Ques) (v : Value) (w' : World) : Prop := v = .agg #[.string q.f0, .int .u16 q.f1, .int .u16 q.f2]
def SAt (w : World) (h : Nat) (cs : Array Value) (T : Nat) : Prop := w.heap[h]? = some (.cells cs T (0, 0))
section
variable {w w1 : World} {g h : Nat} {s : ByteArray} {a : Int} {cs : Array Value} {T : Nat}
theorem SAt.cell (hx : SAt w h cs T) (j : Nat) : w.cell? ⟨h, j, none⟩ = cs[j]? := blk_cell hx j
theorem SAt.is (hx : SAt w h cs T) (j : Nat) {v : Value} (hv : cs[j]? = some v) : w.cell? ⟨h, j, none⟩ = some v := (hx.cell j).trans hv
theorem SAt.ne (hx : SAt w h cs T) (hr : RAt w g s a) (hT : T ≠ 68) : h ≠ g := by
  rintro rfl
  unfold SAt at hx
  unfold RAt at hr
  rw [hr] at hx
  have := Option.some.inj hx
  injection this with _ h2
  exact hT h2.symm
theorem SAt.only (hx : SAt w h cs T) (hr : RAt w g s a) (hT : T ≠ 68) (ho : Only g w w1) : SAt w1 h cs T := ho.at_ hx (hx.ne hr hT)
theorem SAt.new (w : World) (cs : Array Value) (T : Nat) : SAt (w.alloc (.cells cs T (0, 0))) w.heap.size cs T := blk_new w _
theorem SAt.below (hx : SAt w h cs T) (hb : Below w.heap.size w w1) : SAt w1 h cs T := blk_below hx hb
theorem SAt.set (hx : SAt w h cs T) (j : Nat) (u : Value) : SAt (w.setCell ⟨h, j, none⟩ u) h (cs.setIfInBounds j u) T := by
  unfold SAt
  rw [blk_set hx j _]
theorem SAt.far (hx : SAt w h cs T) {h2 : Nat} (hne : h ≠ h2) (j : Nat) (u : Value) : SAt (w.setCell ⟨h2, j, none⟩ u) h cs T := (Below.heap_setCell w _ u h hne).trans hx
theorem SAt.frozen (hx : SAt w h cs T) (j : Nat) : w.frozen? ⟨h, j, none⟩ = false := blk_frozen hx j
theorem SAt.lt (hx : SAt w h cs T) : h < w.heap.size := blk_lt hx
theorem RAt.far (hr : RAt w g s a) {h2 : Nat} (hne : g ≠ h2) (j : Nat) (u : Value) : RAt (w.setCell ⟨h2, j, none⟩ u) g s a := (Below.heap_setCell w _ u g hne).trans hr
theorem RAt.lt (hr : RAt w g s a) : g < w.heap.size := blk_lt hr
theorem Only.setNew {w0 : World} (h0 : Only g w0 w) {h2 : Nat} (hn : w0.heap.size ≤ h2) (j : Nat) (u : Value) : Only g w0 (w.setCell ⟨h2, j, none⟩ u) :=
  ⟨h0.os, h0.tape, h0.output, by simpa using h0.size, fun k hk hg => (Below.heap_setCell w _ u k (by show k ≠ h2; omega)).trans (h0.block k hk hg)⟩
theorem Only.alloc {w0 : World} (h0 : Only g w0 w) (o : Obj) : Only g w0 (w.alloc o) := h0.trans (Only.of_below (below_alloc (Below.refl _ _) o) g)
end
theorem get2 {s : ByteArray} {a n : Int} (h : getF s a 2 = some n) : 0 ≤ n ∧ n ≤ 65535 ∧ 0 ≤ a ∧ a + 2 ≤ s.size ∧ IntKind.u16.wrap n = n := by
  have h1 := get_bound (z := 2) h
  have h2 := get_at h
  refine ⟨h1.1, by omega, h2.1, h2.2.2, ?_⟩
  simp [IntKind.wrap, IntKind.bits, IntKind.signed]
  omega
theorem get4 {s : ByteArray} {a n : Int} (h : getF s a 4 = some n) : 0 ≤ n ∧ n ≤ 4294967295 ∧ 0 ≤ a ∧ a + 4 ≤ s.size ∧ IntKind.u32.wrap n = n := by
  have h1 := get_bound (z := 4) h
  have h2 := get_at h
  refine ⟨h1.1, by omega, h2.1, h2.2.2, ?_⟩
  rw [IntKind.wrap_u32]
  omega
set_option maxHeartbeats 4000000 in
set_option maxRecDepth 100000 in
theorem question_calls {w : World} {g : Nat} {s : ByteArray} {a : Int} (h : RAt w g s a) (hs : s.size ≤ 1000000) (h0 : 0 ≤ a) (ha : a ≤ s.size) :
    Calls Try.prog 48 #[.pointer (some ⟨g, 0, none⟩)] w fun e w' => Ends QuesP (quesR s a) w g s e w' := by
  obtain ⟨R, hR⟩ : ∃ R, quesR s a = R := ⟨_, rfl⟩
  rw [hR]
  unfold quesR at hR
  have HR := Aside0.mk h
  clear h
  go_enter Try.func48, Try.ntmps48
  go_wp2_with fail
  have HV := Aside0.mk (SAt.new w #[.string ⟨#[]⟩, .int .u16 0, .int .u16 0] 63)
  refine (name_calls' (HR.out.below (below_alloc (Below.refl _ _) _)) hs (by omega) (by omega)).mono ?_
  intro e w2 ht
  have HO := Aside0.mk (((Only.refl g w).alloc _).trans ht.only)
  have HV2 := Aside0.mk (HV.out.only (HR.out.below (below_alloc (Below.refl _ _) _)) (by decide) ht.only)
  cases hn : nameAt s a with
  | error c =>
    rw [hn] at hR
    obtain rfl := ht.bad c hn
    exact ⟨rfl, Ends.err hR.symm HO.out⟩
  | ok x =>
    obtain ⟨b, a1⟩ := x
    rw [hn] at hR
    obtain ⟨rfl, hr2⟩ := ht.good b a1 hn
    clear ht hn
    simp only [] at hR
    obtain ⟨t0, ht0⟩ : ∃ t0, strOfNums b = t0 := ⟨_, rfl⟩
    rw [ht0] at hR ⊢
    go_wp2_with fail
    have HQ3 := Aside0.mk (SAt.new w2 #[.string t0, .int .u16 0, .int .u16 0] 63)
    have HR3 := Aside0.mk (hr2.below (below_alloc (Below.refl _ _) (.cells #[.string t0, .int .u16 0, .int .u16 0] 63 (0, 0))))
    have HO3 := Aside0.mk (HO.out.alloc (.cells #[.string t0, .int .u16 0, .int .u16 0] 63 (0, 0)))
    have HV3 := Aside0.mk (HV2.out.below (below_alloc (Below.refl _ _) (.cells #[.string t0, .int .u16 0, .int .u16 0] 63 (0, 0))))
    have HSz := Lib.hid (show w.heap.size ≤ w2.heap.size ∧ w.heap.size ≤ w.heap.size from ⟨HO.out.size, Nat.le_refl _⟩)
    have HLt := Lib.hid (show w.heap.size ≤ w2.heap.size ∧ w.heap.size ≠ w2.heap.size from ⟨HO.out.size, by have := HV2.out.lt; omega⟩)
    clear hr2 HO HV2
    generalize hW : w2.alloc (.cells #[.string t0, .int .u16 0, .int .u16 0] 63 (0, 0)) = w3 at *
    obtain ⟨q, hq⟩ : ∃ q, w2.heap.size = q := ⟨_, rfl⟩
    obtain ⟨r, hr⟩ : ∃ r, w.heap.size = r := ⟨_, rfl⟩
    rw [hq] at HQ3 HLt HSz
    have HSz := Lib.hid (show w.heap.size ≤ q ∧ w.heap.size ≤ r from ⟨HSz.out.1, by omega⟩)
    rw [hr] at HLt HV3
    rw [hq]
    rw [hr]
    clear hq hr hW
    have hgq := HQ3.out.ne HR3.out (by decide)
    have hgr := HV3.out.ne HR3.out (by decide)
    cases h1 : getF s a1 2 with
    | none =>
      rw [h1] at hR
      refine (num_no HR3.out hs h1).mono ?_
      rintro e w' ⟨rfl, ho⟩
      exact ⟨rfl, Ends.err hR.symm (HO3.out.trans ho)⟩
    | some t =>
      rw [h1] at hR
      simp only [] at hR
      obtain ⟨t0', t1', _, _, hwt⟩ := get2 h1
      refine (num_yes HR3.out hs h1).mono ?_
      rintro e w4 ⟨rfl, hr, ho⟩
      have HQ4 := HQ3.out.only HR3.out (by decide) ho
      have HV4 := HV3.out.only HR3.out (by decide) ho
      have HO4 := HO3.out.trans ho
      have y := HQ4.is 1 rfl
      have f := HQ4.frozen 1
      clear h1
      go_wp2_with fail
      have HR5 := hr.far (Ne.symm hgq) 1 (.int .u16 t)
      have HO5 := HO4.setNew HSz.out.1 1 (.int .u16 t)
      have HV5 := HV4.far HLt.out.2 1 (.int .u16 t)
      have HQ5 : SAt _ q #[.string t0, .int .u16 t, .int .u16 0] 63 := HQ4.set 1 (.int .u16 t)
      clear HR3 HO3 HV3 HQ3 hr HO4 HV4 HQ4 ho y f
      generalize hW : w4.setCell ⟨q, 1, none⟩ (.int .u16 t) = w5 at *
      cases h2 : getF s (a1 + 2) 2 with
      | none =>
        rw [h2] at hR
        refine (num_no HR5 hs h2).mono ?_
        rintro e w' ⟨rfl, ho⟩
        exact ⟨rfl, Ends.err hR.symm (HO5.trans ho)⟩
      | some c =>
        rw [h2] at hR
        simp only [] at hR
        obtain ⟨c0', c1', _, _, hwc⟩ := get2 h2
        refine (num_yes HR5 hs h2).mono ?_
        rintro e w6 ⟨rfl, hr, ho⟩
        have HQ6 := HQ5.only HR5 (by decide) ho
        have HV6 := HV5.only HR5 (by decide) ho
        have HO6 := HO5.trans ho
        have y := HQ6.is 2 rfl
        have f := HQ6.frozen 2
        have y0 := HQ6.is 0 rfl
        have y1 := HQ6.is 1 rfl
        have z0 := HV6.is 0 rfl
        have z1 := HV6.is 1 rfl
        have z2 := HV6.is 2 rfl
        have g0 := HV6.frozen 0
        have g1 := HV6.frozen 1
        have g2 := HV6.frozen 2
        have hqr := HLt.out.2
        have hrq := Ne.symm HLt.out.2
        clear h2
        go_wp2_with fail
        have HR9 := ((((hr.far (Ne.symm hgq) 2 (.int .u16 c)).far (Ne.symm hgr) 0 (.string t0)).far (Ne.symm hgr) 1 (.int .u16 t)).far (Ne.symm hgr) 2 (.int .u16 c))
        have HO9 := ((((HO6.setNew HSz.out.1 2 (.int .u16 c)).setNew HSz.out.2 0 (.string t0)).setNew HSz.out.2 1 (.int .u16 t)).setNew HSz.out.2 2 (.int .u16 c))
        have HV9 : SAt _ r #[.string t0, .int .u16 t, .int .u16 c] 63 := ((((HV6.far HLt.out.2 2 (.int .u16 c)).set 0 (.string t0)).set 1 (.int .u16 t)).set 2 (.int .u16 c))
        clear y f y0 y1 z0 z1 z2 g0 g1 g2
        generalize hW : (((w6.setCell ⟨q, 2, none⟩ (.int .u16 c)).setCell ⟨r, 0, none⟩ (.string t0)).setCell ⟨r, 1, none⟩ (.int .u16 t)).setCell ⟨r, 2, none⟩ (.int .u16 c) = w9 at *
        have z0 := HV9.is 0 rfl
        have z1 := HV9.is 1 rfl
        have z2 := HV9.is 2 rfl
        refine bodyPost_ret (v := .agg #[.string t0, .int .u16 t, .int .u16 c]) (by simp [results, Try.results48, go_sem, z0, z1, z2]) rfl ?_
        exact Ends.ok hR.symm rfl HR9 HO9
def recR (s : ByteArray) (a : Int) : Except Int (Rec × Int) :=
  match nameAt s a with
  | .error c => .error c
  | .ok (b, a1) => match getF s a1 2 with
    | none => .error 2
    | some t => match getF s (a1 + 2) 2 with
      | none => .error 2
      | some c => match getF s (a1 + 2 + 2) 4 with
        | none => .error 2
        | some l => match getF s (a1 + 2 + 2 + 4) 2 with
          | none => .error 2
          | some n => if s.size - (a1 + 2 + 2 + 4 + 2) < n then .error 2 else
            match dataR s t (a1 + 2 + 2 + 4 + 2 + n) (a1 + 2 + 2 + 4 + 2) with
            | .error d => .error d
            | .ok ((names, nums, texts), a2) => if checkF ⟨strOfNums b, t, c, l, names, nums, texts⟩ = 0 then .ok (⟨strOfNums b, t, c, l, names, nums, texts⟩, a2) else .error (checkF ⟨strOfNums b, t, c, l, names, nums, texts⟩)
def RecP (B : Nat) (r : Rec) (v : Value) (w : World) : Prop := ∃ v4 v5 v6, v = .agg #[.string r.f0, .int .u16 r.f1, .int .u16 r.f2, .int .u32 r.f3, v4, v5, v6] ∧
  Kd.R Kd.string 9 w B (fun _ => True) v4 r.f4 ∧ Kd.R (Kd.int .u32) 81 w B (fun _ => True) v5 r.f5 ∧ Kd.R Kd.string 9 w B (fun _ => True) v6 r.f6
theorem recAt_of {w : World} {B : Nat} {r : Rec} {v4 v5 v6 : Value} (h4 : Kd.R Kd.string 9 w B (fun _ => True) v4 r.f4) (h5 : Kd.R (Kd.int .u32) 81 w B (fun _ => True) v5 r.f5) (h6 : Kd.R Kd.string 9 w B (fun _ => True) v6 r.f6) :
    RecAt w (.agg #[.string r.f0, .int .u16 r.f1, .int .u16 r.f2, .int .u32 r.f3, v4, v5, v6]) r := by
  obtain ⟨A4, c4, rfl, l4, g4⟩ := Kd.R_reads h4
  obtain ⟨A5, c5, rfl, l5, g5⟩ := Kd.R_reads h5
  obtain ⟨A6, c6, rfl, l6, g6⟩ := Kd.R_reads h6
  exact ⟨A4, c4, A5, c5, A6, c6, rfl, l4, g4, l5, g5, l6, g6⟩
end Go.Proofs.Ytfoflodgegehfaa.M
set_option linter.unusedVariables false
set_option linter.unusedSimpArgs false
namespace Go.Proofs.Ytfoflodgegehfaa.M
open Go.RowKit Go.Maps Go.Proofs.YtfoflodgegehfaaW.PrintWords Go.Proofs.YtfoflodgegehfaaW.PrintLast Go.Proofs.YtfoflodgegehfaaW.PrintMore
theorem getD_mem' {α : Type} {l : List α} (z : α) {j : Nat} (h : j < l.length) : l.getD j z ∈ l := by
  rw [List.getD_eq_getElem?_getD, List.getElem?_eq_getElem h, Option.getD_some]
  exact List.getElem_mem h
theorem nameR_len (K : Nat) : ∀ {s : ByteArray} {b : List Int} {part nx a : Int} {b' : List Int} {a' : Int}, nameR K s b part nx a = .ok (b', a') → b.length ≤ 254 → b'.length ≤ 255 := by
  induction K with
  | zero => intro s b part nx a b' a' h _; exact absurd h (by simp [nameR])
  | succ K ih =>
    intro s b part nx a b' a' h hn
    unfold nameR at h
    cases h1 : getF s a 1 with
    | none => rw [h1] at h; exact absurd h (by simp)
    | some n =>
      rw [h1] at h
      simp only [] at h
      have g1 := get1 h1
      by_cases c1 : n = 0
      · rw [if_pos c1] at h
        rw [← (Prod.mk.inj (Except.ok.inj h)).1]
        simp
        omega
      rw [if_neg c1] at h
      by_cases c2 : 191 < n
      · rw [if_pos c2] at h
        cases h2 : getF s (a + 1) 1 with
        | none => rw [h2] at h; exact absurd h (by simp)
        | some m =>
          rw [h2] at h
          simp only [] at h
          by_cases c3 : part ≤ n % 64 * 256 + m
          · rw [if_pos c3] at h; exact absurd h (by simp)
          · rw [if_neg c3] at h
            exact ih h hn
      rw [if_neg c2] at h
      by_cases c4 : 63 < n
      · rw [if_pos c4] at h; exact absurd h (by simp)
      rw [if_neg c4] at h
      cases h3 : partF s (a + 1) n with
      | none => rw [h3] at h; exact absurd h (by simp)
      | some l =>
        rw [h3] at h
        simp only [] at h
        by_cases c5 : 255 < (b.length : Int) + n + 2
        · rw [if_pos c5] at h; exact absurd h (by simp)
        · rw [if_neg c5] at h
          have := (part_size h3).1
          exact ih h (by simp only [List.length_append, List.length_singleton, bytesOf_length]; omega)
theorem bareR_len (K : Nat) : ∀ {s : ByteArray} {b : List Int} {a : Int} {b' : List Int} {a' : Int}, bareR K s b a = .ok (b', a') → b.length ≤ 254 → b'.length ≤ 255 := by
  induction K with
  | zero => intro s b a b' a' h; exact absurd h (by simp [bareR])
  | succ K ih =>
    intro s b a b' a' h hn
    unfold bareR at h
    cases h1 : getF s a 1 with
    | none => rw [h1] at h; exact absurd h (by simp)
    | some n =>
      rw [h1] at h
      simp only [] at h
      have g1 := get1 h1
      by_cases c1 : n = 0
      · rw [if_pos c1] at h
        rw [← (Prod.mk.inj (Except.ok.inj h)).1]
        simp
        omega
      rw [if_neg c1] at h
      by_cases c2 : 191 < n
      · rw [if_pos c2] at h; exact absurd h (by simp)
      rw [if_neg c2] at h
      by_cases c4 : 63 < n
      · rw [if_pos c4] at h; exact absurd h (by simp)
      rw [if_neg c4] at h
      by_cases c5 : 255 < (b.length : Int) + n + 2
      · rw [if_pos c5] at h; exact absurd h (by simp)
      rw [if_neg c5] at h
      cases h3 : partF s (a + 1) n with
      | none => rw [h3] at h; exact absurd h (by simp)
      | some l =>
        rw [h3] at h
        have := (part_size h3).1
        exact ih h (by simp only [List.length_append, List.length_singleton, bytesOf_length]; omega)
theorem name_len {s : ByteArray} {a : Int} {b : List Int} {a' : Int} (h : nameAt s a = .ok (b, a')) : (strOfNums b).size ≤ 255 := by
  rw [strOfNums_size]
  exact nameR_len _ h (by simp)
theorem within_len {s : ByteArray} {k a en : Int} {b : List Int} {a' : Int} (h : withinF s k a en = .ok (b, a')) : (strOfNums b).size ≤ 255 := by
  unfold withinF at h
  split at h
  · exact absurd h (by simp)
  · split at h
    · rw [strOfNums_size]; exact bareR_len _ h (by simp)
    · exact name_len h
theorem numsR_all {s : ByteArray} {z : Nat} {en : Int} (hz : z ≤ 4) (K : Nat) : ∀ {out : List Int} {a : Int} {out' : List Int} {a' : Int}, numsR s z en K out a = .ok (out', a') → (∀ x ∈ out, 0 ≤ x ∧ x ≤ 4294967295) → (∀ x ∈ out', 0 ≤ x ∧ x ≤ 4294967295) ∧ out'.length = out.length + K := by
  induction K with
  | zero =>
    intro out a out' a' h ha
    rw [← (Prod.mk.inj (Except.ok.inj h)).1]
    exact ⟨ha, rfl⟩
  | succ K ih =>
    intro out a out' a' h ha
    unfold numsR at h
    by_cases c1 : en - a < z
    · rw [if_pos c1] at h; exact absurd h (by simp)
    rw [if_neg c1] at h
    cases h1 : getF s a z with
    | none => rw [h1] at h; exact absurd h (by simp)
    | some n =>
      rw [h1] at h
      have hb := get_bound h1
      have hp : (256 : Int) ^ z ≤ 4294967296 := by
        have hz' : z = 0 ∨ z = 1 ∨ z = 2 ∨ z = 3 ∨ z = 4 := by omega
        rcases hz' with e | e | e | e | e <;> rw [e] <;> decide
      obtain ⟨r1, r2⟩ := ih h (fun x hx => by
        rcases List.mem_append.1 hx with hx | hx
        · exact ha x hx
        · rw [List.mem_singleton.1 hx]
          omega)
      exact ⟨r1, by rw [r2, List.length_append, List.length_singleton]; omega⟩
theorem namesR_all {s : ByteArray} {k en : Int} (K : Nat) : ∀ {out : List ByteArray} {a : Int} {out' : List ByteArray} {a' : Int}, namesR s k en K out a = .ok (out', a') → (∀ x ∈ out, x.size ≤ 255) → (∀ x ∈ out', x.size ≤ 255) ∧ out'.length = out.length + K := by
  induction K with
  | zero =>
    intro out a out' a' h ha
    rw [← (Prod.mk.inj (Except.ok.inj h)).1]
    exact ⟨ha, rfl⟩
  | succ K ih =>
    intro out a out' a' h ha
    unfold namesR at h
    cases h1 : withinF s k a en with
    | error c => rw [h1] at h; exact absurd h (by simp)
    | ok x =>
      obtain ⟨b, a2⟩ := x
      rw [h1] at h
      obtain ⟨r1, r2⟩ := ih h (fun x hx => by
        rcases List.mem_append.1 hx with hx | hx
        · exact ha x hx
        · rw [List.mem_singleton.1 hx]
          exact within_len h1)
      exact ⟨r1, by rw [r2, List.length_append, List.length_singleton]; omega⟩
theorem namesR_at {s : ByteArray} {k en : Int} (K : Nat) : ∀ {out : List ByteArray} {a : Int} {out' : List ByteArray} {a' : Int}, namesR s k en K out a = .ok (out', a') → 0 ≤ a ∧ a ≤ s.size → 0 ≤ a' ∧ a' ≤ s.size := by
  induction K with
  | zero =>
    intro out a out' a' h ha
    have := (Prod.mk.inj (Except.ok.inj h)).2
    omega
  | succ K ih =>
    intro out a out' a' h ha
    unfold namesR at h
    cases h1 : withinF s k a en with
    | error c => rw [h1] at h; exact absurd h (by simp)
    | ok x =>
      obtain ⟨b, a2⟩ := x
      rw [h1] at h
      exact ih h (within_at h1)
theorem textsR_all {s : ByteArray} {en : Int} (K : Nat) : ∀ {out : List ByteArray} {a : Int} {out' : List ByteArray} {a' : Int}, textsR s en K out a = .ok (out', a') → 0 ≤ a → (∀ x ∈ out, x.size ≤ s.size) ∧ (out.length : Int) ≤ a → (∀ x ∈ out', x.size ≤ s.size) ∧ (out'.length : Int) ≤ max a s.size := by
  induction K with
  | zero => intro out a out' a' h; exact absurd h (by simp [textsR])
  | succ K ih =>
    intro out a out' a' h h0 ha
    unfold textsR at h
    by_cases c1 : a < en
    · rw [if_pos c1] at h
      cases h1 : getF s a 1 with
      | none => rw [h1] at h; exact absurd h (by simp)
      | some m =>
        rw [h1] at h
        simp only [] at h
        by_cases c2 : en - (a + 1) < m
        · rw [if_pos c2] at h; exact absurd h (by simp)
        rw [if_neg c2] at h
        cases h2 : partF s (a + 1) m with
        | none => rw [h2] at h; exact absurd h (by simp)
        | some t =>
          rw [h2] at h
          have hs := part_size h2
          have := ih h (by omega) ⟨fun x hx => by
            rcases List.mem_append.1 hx with hx | hx
            · exact ha.1 x hx
            · rw [List.mem_singleton.1 hx]
              omega, by rw [List.length_append, List.length_singleton]; omega⟩
          exact ⟨this.1, by omega⟩
    · rw [if_neg c1] at h
      rw [← (Prod.mk.inj (Except.ok.inj h)).1]
      exact ⟨ha.1, by omega⟩
theorem sum_le (l : List ByteArray) (B : Nat) (h : ∀ x ∈ l, x.size ≤ B) : sumS l ≤ B * l.length := by
  induction l with
  | nil => exact Nat.le_refl _
  | cons s l ih =>
    have h1 := h s (by simp)
    have h2 := ih (fun x hx => h x (by simp [hx]))
    rw [sumS_cons, List.length_cons]
    have : B * (l.length + 1) = B * l.length + B := by rw [Nat.mul_add, Nat.mul_one]
    omega
theorem dataE_inv {en : Int} {names : List ByteArray} {nums : List Int} {x : List ByteArray × Int} {p : Parts} {a' : Int} (h : dataE en names nums x = .ok (p, a')) : p = (names, nums, x.1) ∧ a' = en ∧ x.2 = en := by
  obtain ⟨t, a⟩ := x
  simp only [dataE] at h
  by_cases c : a = en
  · rw [if_pos c] at h
    obtain ⟨h1, h2⟩ := Prod.mk.inj (Except.ok.inj h)
    exact ⟨h1.symm, by omega, c⟩
  · rw [if_neg c] at h; exact absurd h (by simp)
theorem dataT_all {s : ByteArray} {k en a : Int} {names : List ByteArray} {nums : List Int} {p : Parts} {a' : Int} (h : dataT s k en names nums a = .ok (p, a')) (h0 : 0 ≤ a ∧ a ≤ s.size) : p.1 = names ∧ p.2.1 = nums ∧ (∀ x ∈ p.2.2, x.size ≤ s.size) ∧ p.2.2.length ≤ s.size + 1 ∧ a' = en := by
  by_cases c1 : k = 16
  · rw [dataT_txt c1] at h
    cases h1 : textsR s en ((en - a).toNat + 1) [] a with
    | error c => rw [h1] at h; exact absurd h (by simp)
    | ok x =>
      rw [h1] at h
      obtain ⟨rfl, h2, h3⟩ := dataE_inv h
      obtain ⟨t, a2⟩ := x
      have := textsR_all _ h1 h0.1 ⟨fun x hx => absurd hx (by simp), by simp; omega⟩
      exact ⟨rfl, rfl, this.1, by have := this.2; show t.length ≤ _; omega, h2⟩
  by_cases c2 : (shapeOf k).1 + (shapeOf k).2.1 = 0
  · rw [dataT_free c1 c2] at h
    cases h1 : partF s a (en - a) with
    | none => rw [h1] at h; exact absurd h (by simp)
    | some t =>
      rw [h1] at h
      obtain ⟨rfl, h2, _⟩ := dataE_inv h
      have := part_size h1
      exact ⟨rfl, rfl, fun x hx => by rw [List.mem_singleton.1 hx]; omega, by simp, h2⟩
  · rw [dataT_none c1 c2] at h
    obtain ⟨rfl, h2, _⟩ := dataE_inv h
    exact ⟨rfl, rfl, fun x hx => absurd hx (by simp), by simp, h2⟩
structure PartsOk (s : ByteArray) (p : Parts) : Prop where
  n : p.1.length ≤ 2
  ns : ∀ x ∈ p.1, x.size ≤ 255
  m : p.2.1.length ≤ 5
  ms : ∀ x ∈ p.2.1, 0 ≤ x ∧ x ≤ 4294967295
  ts : ∀ x ∈ p.2.2, x.size ≤ s.size
  t : p.2.2.length ≤ s.size + 1
theorem dataR_all {s : ByteArray} {k en a : Int} {p : Parts} {a' : Int} (h : dataR s k en a = .ok (p, a')) (h0 : 0 ≤ a ∧ a ≤ s.size) : PartsOk s p ∧ a' = en := by
  obtain ⟨s1, s2, s3⟩ := shapeOf_le k
  have key : ∀ (nums : List Int) (a1 : Int), (∀ x ∈ nums, 0 ≤ x ∧ x ≤ 4294967295) → nums.length ≤ 5 → 0 ≤ a1 ∧ a1 ≤ s.size → dataM s k en (nums, a1) = .ok (p, a') → PartsOk s p ∧ a' = en := by
    intro nums a1 w1 w2 w3 hm
    unfold dataM at hm
    dsimp only at hm
    cases h1 : namesR s k en (shapeOf k).1 [] a1 with
    | error c => rw [h1] at hm; exact absurd hm (by simp)
    | ok x =>
      obtain ⟨names, a2⟩ := x
      rw [h1] at hm
      simp only [] at hm
      obtain ⟨n1, n2⟩ := namesR_all _ h1 (fun x hx => absurd hx (by simp))
      have n3 := namesR_at _ h1 w3
      by_cases c6 : k = 6
      · rw [dataN_six c6] at hm
        cases h2 : numsR s 4 en (shapeOf k).2.1 [] a2 with
        | error c => rw [h2] at hm; exact absurd hm (by simp)
        | ok x =>
          obtain ⟨nums', a3⟩ := x
          rw [h2] at hm
          obtain ⟨m1, m2⟩ := numsR_all (z := 4) (by decide) _ h2 (fun x hx => absurd hx (by simp))
          obtain ⟨e1, e2, t1, t2, e3⟩ := dataT_all hm (numsR_at _ h2 n3)
          exact ⟨⟨by rw [e1, n2]; simp; omega, by rw [e1]; exact n1, by rw [e2, m2]; simp; omega, by rw [e2]; exact m1, t1, t2⟩, e3⟩
      · rw [dataN_not c6] at hm
        obtain ⟨e1, e2, t1, t2, e3⟩ := dataT_all hm n3
        exact ⟨⟨by rw [e1, n2]; simp; omega, by rw [e1]; exact n1, by rw [e2]; exact w2, by rw [e2]; exact w1, t1, t2⟩, e3⟩
  unfold dataR at h
  by_cases c6 : k = 6
  · rw [if_pos c6] at h
    exact key [] a (fun x hx => absurd hx (by simp)) (by simp) h0 h
  · rw [if_neg c6] at h
    cases h1 : numsR s 2 en (shapeOf k).2.1 [] a with
    | error c => rw [h1] at h; exact absurd h (by simp)
    | ok x =>
      obtain ⟨nums, a1⟩ := x
      rw [h1] at h
      obtain ⟨m1, m2⟩ := numsR_all (z := 2) (by decide) _ h1 (fun x hx => absurd hx (by simp))
      exact key nums a1 m1 (by rw [m2]; simp; omega) (numsR_at _ h1 h0) h
theorem PartsOk.fine {s : ByteArray} {p : Parts} (h : PartsOk s p) (hs : s.size ≤ 1000000) (f0 : ByteArray) (k c t : Int) : Fine ⟨f0, k, c, t, p.1, p.2.1, p.2.2⟩ where
  len4 := by have := h.n; show p.1.length ≤ _; omega
  names := by
    have h1 := sum_le p.1 255 h.ns
    have := h.n
    have := h.m
    show 4 * p.2.1.length + sumS p.1 ≤ _
    omega
  texts := fun j hj => by
    have := h.ts _ (getD_mem' ⟨#[]⟩ hj)
    show (p.2.2.getD j ⟨#[]⟩).size ≤ _
    omega
  texts2 := by have := h.t; show p.2.2.length ≤ _; omega
  wf := fun j hj => h.ms _ (getD_mem' 0 hj)
end Go.Proofs.Ytfoflodgegehfaa.M
