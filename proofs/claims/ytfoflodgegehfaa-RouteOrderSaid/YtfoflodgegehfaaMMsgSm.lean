/- What is read of bytes is small; and a read's error is never that of a text that is too long. -/
import Derived.Test.YtfoflodgegehfaaMRRead
set_option linter.unusedVariables false
set_option linter.unusedSimpArgs false
namespace Go.Proofs.Ytfoflodgegehfaa.M
open Go.RowKit Go.Maps Go.Proofs.YtfoflodgegehfaaW.PrintWords Go.Proofs.YtfoflodgegehfaaW.PrintLast Go.Proofs.YtfoflodgegehfaaW.PrintMore
theorem checkF_three (r : Rec) : checkF r ≠ 3 := by
  unfold checkF
  repeat' split
  all_goals decide
section
variable {s : ByteArray} {c : Int}
theorem nameR_er3 (K : Nat) : ∀ {b : List Int} {part nx a : Int}, nameR K s b part nx a = .error c → c ≠ 0 ∧ c ≠ 3 := by
  induction K with
  | zero => intro b part nx a h; have := Except.error.inj h; omega
  | succ K ih =>
    intro b part nx a h
    unfold nameR at h
    repeat' split at h
    all_goals first | exact ih h | (have := Except.error.inj h; omega) | exact absurd h (by simp)
theorem bareR_er3 (K : Nat) : ∀ {b : List Int} {a : Int}, bareR K s b a = .error c → c ≠ 0 ∧ c ≠ 3 := by
  induction K with
  | zero => intro b a h; have := Except.error.inj h; omega
  | succ K ih =>
    intro b a h
    unfold bareR at h
    repeat' split at h
    all_goals first | exact ih h | (have := Except.error.inj h; omega) | exact absurd h (by simp)
theorem within_er3 {k a en : Int} (h : withinF s k a en = .error c) : c ≠ 0 ∧ c ≠ 3 := by
  unfold withinF at h
  repeat' split at h
  all_goals first | exact bareR_er3 _ h | exact nameR_er3 _ h | (have := Except.error.inj h; omega)
theorem numsR_er3 {sz en : Int} (K : Nat) : ∀ {out : List Int} {a : Int}, numsR s sz en K out a = .error c → c ≠ 0 ∧ c ≠ 3 := by
  induction K with
  | zero => intro out a h; exact absurd h (by simp [numsR])
  | succ K ih =>
    intro out a h
    unfold numsR at h
    repeat' split at h
    all_goals first | exact ih h | (have := Except.error.inj h; omega) | exact absurd h (by simp)
theorem namesR_er3 {k en : Int} (K : Nat) : ∀ {out : List ByteArray} {a : Int}, namesR s k en K out a = .error c → c ≠ 0 ∧ c ≠ 3 := by
  induction K with
  | zero => intro out a h; exact absurd h (by simp [namesR])
  | succ K ih =>
    intro out a h
    unfold namesR at h
    cases h1 : withinF s k a en with
    | error d =>
      rw [h1] at h
      rw [← Except.error.inj h]
      exact within_er3 h1
    | ok y => rw [h1] at h; exact ih h
theorem textsR_er3 {en : Int} (K : Nat) : ∀ {out : List ByteArray} {a : Int}, textsR s en K out a = .error c → c ≠ 0 ∧ c ≠ 3 := by
  induction K with
  | zero => intro out a h; have := Except.error.inj h; omega
  | succ K ih =>
    intro out a h
    unfold textsR at h
    repeat' split at h
    all_goals first | exact ih h | (have := Except.error.inj h; omega) | exact absurd h (by simp)
theorem dataE_er3 {en : Int} {names : List ByteArray} {nums : List Int} {x : List ByteArray × Int} (h : dataE en names nums x = .error c) : c ≠ 0 ∧ c ≠ 3 := by
  obtain ⟨t, a⟩ := x
  rw [dataE_eq] at h
  split at h
  · exact absurd h (by simp)
  · have := Except.error.inj h; omega
theorem dataT_er3 {k en a : Int} {names : List ByteArray} {nums : List Int} (h : dataT s k en names nums a = .error c) : c ≠ 0 ∧ c ≠ 3 := by
  by_cases c1 : k = 16
  · rw [dataT_txt c1] at h
    cases h1 : textsR s en ((en - a).toNat + 1) [] a with
    | error d => rw [h1] at h; rw [← Except.error.inj h]; exact textsR_er3 _ h1
    | ok y => rw [h1] at h; exact dataE_er3 h
  by_cases c2 : (shapeOf k).1 + (shapeOf k).2.1 = 0
  · rw [dataT_free c1 c2] at h
    cases h1 : partF s a (en - a) with
    | none => rw [h1] at h; have := Except.error.inj h; omega
    | some t => rw [h1] at h; exact dataE_er3 h
  · rw [dataT_none c1 c2] at h
    exact dataE_er3 h
theorem dataM_er3 {k en a : Int} {nums : List Int} (h : dataM s k en (nums, a) = .error c) : c ≠ 0 ∧ c ≠ 3 := by
  unfold dataM at h
  dsimp only at h
  cases h1 : namesR s k en (shapeOf k).1 [] a with
  | error d => rw [h1] at h; rw [← Except.error.inj h]; exact namesR_er3 _ h1
  | ok y =>
    obtain ⟨names, a2⟩ := y
    rw [h1] at h
    simp only [] at h
    by_cases c6 : k = 6
    · rw [dataN_six c6] at h
      cases h2 : numsR s 4 en (shapeOf k).2.1 [] a2 with
      | error d => rw [h2] at h; rw [← Except.error.inj h]; exact numsR_er3 _ h2
      | ok y => rw [h2] at h; exact dataT_er3 h
    · rw [dataN_not c6] at h
      exact dataT_er3 h
theorem dataR_er3 {k en a : Int} (h : dataR s k en a = .error c) : c ≠ 0 ∧ c ≠ 3 := by
  unfold dataR at h
  by_cases c6 : k = 6
  · rw [if_pos c6] at h
    exact dataM_er3 h
  · rw [if_neg c6] at h
    cases h1 : numsR s 2 en (shapeOf k).2.1 [] a with
    | error d => rw [h1] at h; rw [← Except.error.inj h]; exact numsR_er3 _ h1
    | ok y =>
      obtain ⟨nums, a1⟩ := y
      rw [h1] at h
      exact dataM_er3 h
theorem quesR_er3 {a : Int} (h : quesR s a = .error c) : c ≠ 0 ∧ c ≠ 3 := by
  unfold quesR at h
  cases hn : nameAt s a with
  | error d => rw [hn] at h; rw [← Except.error.inj h]; exact nameR_er3 _ hn
  | ok y =>
    obtain ⟨b, a1⟩ := y
    rw [hn] at h
    simp only [] at h
    repeat' split at h
    all_goals first | (have := Except.error.inj h; omega) | exact absurd h (by simp)
theorem recR_er3 {a : Int} (h : recR s a = .error c) : c ≠ 0 ∧ c ≠ 3 := by
  unfold recR at h
  cases hn : nameAt s a with
  | error d => rw [hn] at h; rw [← Except.error.inj h]; exact nameR_er3 _ hn
  | ok y =>
    obtain ⟨b, a1⟩ := y
    rw [hn] at h
    simp only [] at h
    cases h1 : getF s a1 2 with
    | none => rw [h1] at h; have := Except.error.inj h; omega
    | some t =>
      rw [h1] at h
      simp only [] at h
      cases h2 : getF s (a1 + 2) 2 with
      | none => rw [h2] at h; have := Except.error.inj h; omega
      | some c =>
        rw [h2] at h
        simp only [] at h
        cases h3 : getF s (a1 + 2 + 2) 4 with
        | none => rw [h3] at h; have := Except.error.inj h; omega
        | some l =>
          rw [h3] at h
          simp only [] at h
          cases h4 : getF s (a1 + 2 + 2 + 4) 2 with
          | none => rw [h4] at h; have := Except.error.inj h; omega
          | some n =>
            rw [h4] at h
            simp only [] at h
            by_cases c1 : (s.size : Int) - (a1 + 2 + 2 + 4 + 2) < n
            · rw [if_pos c1] at h; have := Except.error.inj h; omega
            rw [if_neg c1] at h
            cases hd : dataR s t (a1 + 2 + 2 + 4 + 2 + n) (a1 + 2 + 2 + 4 + 2) with
            | error d => rw [hd] at h; rw [← Except.error.inj h]; exact dataR_er3 hd
            | ok y =>
              obtain ⟨⟨names, nums, texts⟩, a2⟩ := y
              rw [hd] at h
              simp only [] at h
              split at h
              · exact absurd h (by simp)
              · rename_i hk
                rw [← Except.error.inj h]
                exact ⟨hk, checkF_three _⟩
theorem recsR_er3 (K : Nat) : ∀ {out : List Rec} {a : Int}, recsR s K out a = .error c → c ≠ 0 ∧ c ≠ 3 := by
  induction K with
  | zero => intro out a h; exact absurd h (by simp [recsR])
  | succ K ih =>
    intro out a h
    unfold recsR at h
    cases h1 : recR s a with
    | error d => rw [h1] at h; rw [← Except.error.inj h]; exact recR_er3 h1
    | ok y => rw [h1] at h; exact ih h
theorem quessR_er3 (K : Nat) : ∀ {out : List Ques} {a : Int}, quessR s K out a = .error c → c ≠ 0 ∧ c ≠ 3 := by
  induction K with
  | zero => intro out a h; exact absurd h (by simp [quessR])
  | succ K ih =>
    intro out a h
    unfold quessR at h
    cases h1 : quesR s a with
    | error d => rw [h1] at h; rw [← Except.error.inj h]; exact quesR_er3 h1
    | ok y => rw [h1] at h; exact ih h
theorem cntR_er3 (K : Nat) : ∀ {out : List Int} {a : Int}, cntR s K out a = .error c → c ≠ 0 ∧ c ≠ 3 := by
  induction K with
  | zero => intro out a h; exact absurd h (by simp [cntR])
  | succ K ih =>
    intro out a h
    unfold cntR at h
    cases h1 : getF s a 2 with
    | none => rw [h1] at h; have := Except.error.inj h; omega
    | some y => rw [h1] at h; exact ih h
theorem msgR_er3 (h : msgR s = .error c) : c ≠ 0 ∧ c ≠ 3 := by
  unfold msgR at h
  cases h1 : getF s 0 2 with
  | none => rw [h1] at h; have := Except.error.inj h; omega
  | some id =>
    rw [h1] at h
    simp only [] at h
    cases h2 : getF s 2 2 with
    | none => rw [h2] at h; have := Except.error.inj h; omega
    | some fl =>
      rw [h2] at h
      simp only [] at h
      cases h3 : cntR s 4 [] 4 with
      | error d => rw [h3] at h; rw [← Except.error.inj h]; exact cntR_er3 _ h3
      | ok y =>
        obtain ⟨l, b⟩ := y
        rw [h3] at h
        simp only [msgA] at h
        by_cases c1 : 256 < l.sum
        · rw [if_pos c1] at h; have := Except.error.inj h; omega
        rw [if_neg c1] at h
        cases h4 : quessR s (l.getD 0 0).toNat [] b with
        | error d => rw [h4] at h; rw [← Except.error.inj h]; exact quessR_er3 _ h4
        | ok y =>
          obtain ⟨qs, b1⟩ := y
          rw [h4] at h
          simp only [msgB] at h
          cases h5 : recsR s (l.getD 1 0).toNat [] b1 with
          | error d => rw [h5] at h; rw [← Except.error.inj h]; exact recsR_er3 _ h5
          | ok y =>
            obtain ⟨ans, b2⟩ := y
            rw [h5] at h
            simp only [msgC] at h
            cases h6 : recsR s (l.getD 2 0).toNat [] b2 with
            | error d => rw [h6] at h; rw [← Except.error.inj h]; exact recsR_er3 _ h6
            | ok y =>
              obtain ⟨auth, b3⟩ := y
              rw [h6] at h
              simp only [msgD] at h
              cases h7 : recsR s (l.getD 3 0).toNat [] b3 with
              | error d => rw [h7] at h; rw [← Except.error.inj h]; exact recsR_er3 _ h7
              | ok y =>
                obtain ⟨add, b4⟩ := y
                rw [h7] at h
                simp only [msgE] at h
                split at h
                · have := Except.error.inj h; omega
                · exact absurd h (by simp)
end

structure QuesSm (q : Ques) : Prop where
  name : q.f0.size ≤ 255
  t0 : 0 ≤ q.f1
  t1 : q.f1 ≤ 65535
  c0 : 0 ≤ q.f2
  c1 : q.f2 ≤ 65535
structure RecSm (r : Rec) : Prop where
  name : r.f0.size ≤ 255
  t0 : 0 ≤ r.f1
  t1 : r.f1 ≤ 65535
  l0 : 0 ≤ r.f3
  l1 : r.f3 ≤ 4294967295
theorem ques_sm {s : ByteArray} {a : Int} {q : Ques} {a' : Int} (h : quesR s a = .ok (q, a')) : QuesSm q := by
  unfold quesR at h
  cases hn : nameAt s a with
  | error c => rw [hn] at h; exact absurd h (by simp)
  | ok x =>
    obtain ⟨b, a1⟩ := x
    rw [hn] at h
    simp only [] at h
    cases h1 : getF s a1 2 with
    | none => rw [h1] at h; exact absurd h (by simp)
    | some t =>
      rw [h1] at h
      simp only [] at h
      cases h2 : getF s (a1 + 2) 2 with
      | none => rw [h2] at h; exact absurd h (by simp)
      | some c =>
        rw [h2] at h
        rw [← (Prod.mk.inj (Except.ok.inj h)).1]
        have g1 := get2 h1
        have g2 := get2 h2
        exact ⟨name_len hn, g1.1, g1.2.1, g2.1, g2.2.1⟩
theorem rec_sm {s : ByteArray} {a : Int} {r : Rec} {a' : Int} (h : recR s a = .ok (r, a')) : RecSm r := by
  unfold recR at h
  cases hn : nameAt s a with
  | error d => rw [hn] at h; exact absurd h (by simp)
  | ok y =>
    obtain ⟨b, a1⟩ := y
    rw [hn] at h
    simp only [] at h
    cases h1 : getF s a1 2 with
    | none => rw [h1] at h; exact absurd h (by simp)
    | some t =>
      rw [h1] at h
      simp only [] at h
      cases h2 : getF s (a1 + 2) 2 with
      | none => rw [h2] at h; exact absurd h (by simp)
      | some c =>
        rw [h2] at h
        simp only [] at h
        cases h3 : getF s (a1 + 2 + 2) 4 with
        | none => rw [h3] at h; exact absurd h (by simp)
        | some l =>
          rw [h3] at h
          simp only [] at h
          cases h4 : getF s (a1 + 2 + 2 + 4) 2 with
          | none => rw [h4] at h; exact absurd h (by simp)
          | some n =>
            rw [h4] at h
            simp only [] at h
            by_cases c1 : (s.size : Int) - (a1 + 2 + 2 + 4 + 2) < n
            · rw [if_pos c1] at h; exact absurd h (by simp)
            rw [if_neg c1] at h
            cases hd : dataR s t (a1 + 2 + 2 + 4 + 2 + n) (a1 + 2 + 2 + 4 + 2) with
            | error d => rw [hd] at h; exact absurd h (by simp)
            | ok y =>
              obtain ⟨⟨names, nums, texts⟩, a2⟩ := y
              rw [hd] at h
              simp only [] at h
              split at h
              · rw [← (Prod.mk.inj (Except.ok.inj h)).1]
                have g1 := get2 h1
                have g3 := get4 h3
                exact ⟨name_len hn, g1.1, g1.2.1, g3.1, g3.2.1⟩
              · exact absurd h (by simp)
theorem quess_sm {s : ByteArray} (K : Nat) : ∀ {out : List Ques} {a : Int} {out' : List Ques} {a' : Int}, quessR s K out a = .ok (out', a') → (∀ q ∈ out, QuesSm q) → (∀ q ∈ out', QuesSm q) ∧ out'.length = out.length + K := by
  induction K with
  | zero =>
    intro out a out' a' h hq
    rw [← (Prod.mk.inj (Except.ok.inj h)).1]
    exact ⟨hq, rfl⟩
  | succ K ih =>
    intro out a out' a' h hq
    unfold quessR at h
    cases h1 : quesR s a with
    | error c => rw [h1] at h; exact absurd h (by simp)
    | ok x =>
      obtain ⟨q, a1⟩ := x
      rw [h1] at h
      obtain ⟨k1, k2⟩ := ih h (fun y hy => by
        rcases List.mem_append.1 hy with hy | hy
        · exact hq y hy
        · rw [List.mem_singleton.1 hy]; exact ques_sm h1)
      exact ⟨k1, by rw [k2, List.length_append, List.length_singleton]; omega⟩
theorem recs_sm {s : ByteArray} (K : Nat) : ∀ {out : List Rec} {a : Int} {out' : List Rec} {a' : Int}, recsR s K out a = .ok (out', a') → (∀ r ∈ out, RecSm r) → (∀ r ∈ out', RecSm r) ∧ out'.length = out.length + K := by
  induction K with
  | zero =>
    intro out a out' a' h hq
    rw [← (Prod.mk.inj (Except.ok.inj h)).1]
    exact ⟨hq, rfl⟩
  | succ K ih =>
    intro out a out' a' h hq
    unfold recsR at h
    cases h1 : recR s a with
    | error c => rw [h1] at h; exact absurd h (by simp)
    | ok x =>
      obtain ⟨q, a1⟩ := x
      rw [h1] at h
      obtain ⟨k1, k2⟩ := ih h (fun y hy => by
        rcases List.mem_append.1 hy with hy | hy
        · exact hq y hy
        · rw [List.mem_singleton.1 hy]; exact rec_sm h1)
      exact ⟨k1, by rw [k2, List.length_append, List.length_singleton]; omega⟩
theorem cntR_sm {s : ByteArray} (K : Nat) : ∀ {out : List Int} {a : Int} {out' : List Int} {a' : Int}, cntR s K out a = .ok (out', a') → (∀ x ∈ out, 0 ≤ x ∧ x ≤ 65535) → a ≤ s.size → (∀ x ∈ out', 0 ≤ x ∧ x ≤ 65535) ∧ out'.length = out.length + K ∧ a + 2 * K ≤ s.size := by
  induction K with
  | zero =>
    intro out a out' a' h hq ha
    rw [← (Prod.mk.inj (Except.ok.inj h)).1]
    exact ⟨hq, rfl, by omega⟩
  | succ K ih =>
    intro out a out' a' h hq ha
    unfold cntR at h
    cases h1 : getF s a 2 with
    | none => rw [h1] at h; exact absurd h (by simp)
    | some n =>
      rw [h1] at h
      have g := get2 h1
      obtain ⟨k1, k2, k3⟩ := ih h (fun y hy => by
        rcases List.mem_append.1 hy with hy | hy
        · exact hq y hy
        · rw [List.mem_singleton.1 hy]; omega) (by omega)
      exact ⟨k1, by rw [k2, List.length_append, List.length_singleton]; omega, by omega⟩
/-- A message that was read. -/
structure MsgSm (m : Msg) : Prop where
  f0 : 0 ≤ m.flags
  f1 : m.flags ≤ 65535
  n0 : m.qs.length ≤ 256
  n1 : m.ans.length ≤ 256
  n2 : m.auth.length ≤ 256
  n3 : m.add.length ≤ 256
  q : ∀ q ∈ m.qs, QuesSm q
  r : ∀ r ∈ m.add, RecSm r
theorem msg_sm {s : ByteArray} {m : Msg} {e : Int} (h : msgR s = .ok (m, e)) (hs : s.size ≤ 65535) : MsgSm m := by
  have c0 : ¬ 65535 < s.size := by omega
  unfold msgR at h
  cases h1 : getF s 0 2 with
  | none => rw [h1] at h; exact absurd h (by simp)
  | some id =>
    rw [h1] at h
    simp only [] at h
    cases h2 : getF s 2 2 with
    | none => rw [h2] at h; exact absurd h (by simp)
    | some fl =>
      rw [h2] at h
      simp only [] at h
      have g2 := get2 h2
      cases h3 : cntR s 4 [] 4 with
      | error c => rw [h3] at h; exact absurd h (by simp)
      | ok y =>
        obtain ⟨l, b⟩ := y
        rw [h3] at h
        obtain ⟨e1, e2, e3⟩ := cntR_sm _ h3 (fun x hx => absurd hx (by simp)) (by omega)
        obtain ⟨n0, n1, n2, n3, rfl⟩ := four_nats e2 e1
        simp only [msgA] at h
        by_cases c1 : 256 < [(n0 : Int), (n1 : Int), (n2 : Int), (n3 : Int)].sum
        · rw [if_pos c1] at h; exact absurd h (by simp)
        rw [if_neg c1] at h
        simp only [List.sum_cons, List.sum_nil] at c1
        cases h4 : quessR s ([(n0 : Int), (n1 : Int), (n2 : Int), (n3 : Int)].getD 0 0).toNat [] b with
        | error c => rw [h4] at h; exact absurd h (by simp)
        | ok y =>
          obtain ⟨qs, b1⟩ := y
          rw [h4] at h
          simp only [msgB] at h
          cases h5 : recsR s ([(n0 : Int), (n1 : Int), (n2 : Int), (n3 : Int)].getD 1 0).toNat [] b1 with
          | error c => rw [h5] at h; exact absurd h (by simp)
          | ok y =>
            obtain ⟨ans, b2⟩ := y
            rw [h5] at h
            simp only [msgC] at h
            cases h6 : recsR s ([(n0 : Int), (n1 : Int), (n2 : Int), (n3 : Int)].getD 2 0).toNat [] b2 with
            | error c => rw [h6] at h; exact absurd h (by simp)
            | ok y =>
              obtain ⟨auth, b3⟩ := y
              rw [h6] at h
              simp only [msgD] at h
              cases h7 : recsR s ([(n0 : Int), (n1 : Int), (n2 : Int), (n3 : Int)].getD 3 0).toNat [] b3 with
              | error c => rw [h7] at h; exact absurd h (by simp)
              | ok y =>
                obtain ⟨add, b4⟩ := y
                rw [h7] at h
                simp only [msgE] at h
                by_cases c2 : b4 < s.size
                · rw [if_pos c2] at h; exact absurd h (by simp)
                rw [if_neg c2] at h
                obtain ⟨rfl, rfl⟩ := Prod.mk.inj (Except.ok.inj h)
                obtain ⟨p4, q4⟩ := quess_sm _ h4 (fun x hx => absurd hx (by simp))
                obtain ⟨p5, q5⟩ := recs_sm _ h5 (fun x hx => absurd hx (by simp))
                obtain ⟨p6, q6⟩ := recs_sm _ h6 (fun x hx => absurd hx (by simp))
                obtain ⟨p7, q7⟩ := recs_sm _ h7 (fun x hx => absurd hx (by simp))
                have q4 : qs.length = n0 := by rw [q4]; simp
                have q5 : ans.length = n1 := by rw [q5]; simp
                have q6 : auth.length = n2 := by rw [q6]; simp
                have q7 : add.length = n3 := by rw [q7]; simp
                exact ⟨g2.1, g2.2.1, by rw [q4]; omega, by rw [q5]; omega, by rw [q6]; omega, by rw [q7]; omega, p4, p7⟩
end Go.Proofs.Ytfoflodgegehfaa.M
