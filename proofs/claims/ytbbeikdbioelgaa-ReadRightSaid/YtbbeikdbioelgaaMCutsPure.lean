/- The plain law of ReadCuts: what was read is read of a longer text just so. -/
import Derived.Test.YtbbeikdbioelgaaMCuts
set_option linter.unusedVariables false
set_option linter.unusedSimpArgs false
namespace Go.Proofs.Ytbbeikdbioelgaa.M
open Go.RowKit Go.Maps Go.Proofs.YtbbeikdbioelgaaW.PrintWords Go.Proofs.YtbbeikdbioelgaaW.PrintLast Go.Proofs.YtbbeikdbioelgaaW.PrintMore
/-- A text and the same with more bytes. -/
structure Ext (s' s : ByteArray) : Prop where
  size : s'.size ≤ s.size
  ext : ∀ i j, j ≤ s'.size → s'.extract i j = s.extract i j
  nb : ∀ i, i < s'.size → nb s' i = nb s i
section
variable {s' s : ByteArray}
theorem partF_ext (x : Ext s' s) {a n : Int} {t : ByteArray} (h : partF s' a n = some t) : partF s a n = some t := by
  obtain ⟨h1, h2, h3, h4, h5⟩ := part_size h
  have := x.size
  unfold partF
  rw [if_neg (by omega), h5, x.ext _ _ (by omega)]
theorem getF_ext (x : Ext s' s) {a n m : Int} (h : getF s' a n = some m) : getF s a n = some m := by
  obtain ⟨t, h1, h2, h3, h4⟩ := get_part h
  unfold getF
  rw [if_neg (by omega), partF_ext x h1, h2]
  rfl
theorem nameR_ext (x : Ext s' s) (K : Nat) : ∀ {b : List Int} {part nx a : Int} {r : List Int × Int}, nameR K s' b part nx a = .ok r → nameR K s b part nx a = .ok r := by
  induction K with
  | zero => intro b part nx a r h; exact absurd h (by simp [nameR])
  | succ K ih =>
    intro b part nx a r h
    unfold nameR at h ⊢
    cases h1 : getF s' a 1 with
    | none => rw [h1] at h; exact absurd h (by simp)
    | some n =>
      rw [h1] at h
      rw [getF_ext x h1]
      simp only [] at h ⊢
      by_cases c1 : n = 0
      · rw [if_pos c1] at h ⊢
        exact h
      rw [if_neg c1] at h ⊢
      by_cases c2 : 191 < n
      · rw [if_pos c2] at h ⊢
        cases h2 : getF s' (a + 1) 1 with
        | none => rw [h2] at h; exact absurd h (by simp)
        | some m =>
          rw [h2] at h
          rw [getF_ext x h2]
          simp only [] at h ⊢
          by_cases c3 : part ≤ n % 64 * 256 + m
          · rw [if_pos c3] at h; exact absurd h (by simp)
          · rw [if_neg c3] at h ⊢
            exact ih h
      rw [if_neg c2] at h ⊢
      by_cases c4 : 63 < n
      · rw [if_pos c4] at h; exact absurd h (by simp)
      rw [if_neg c4] at h ⊢
      cases h3 : partF s' (a + 1) n with
      | none => rw [h3] at h; exact absurd h (by simp)
      | some l =>
        rw [h3] at h
        rw [partF_ext x h3]
        simp only [] at h ⊢
        by_cases c5 : 255 < (b.length : Int) + n + 2
        · rw [if_pos c5] at h; exact absurd h (by simp)
        · rw [if_neg c5] at h ⊢
          exact ih h
theorem bareR_ext (x : Ext s' s) (K : Nat) : ∀ {b : List Int} {a : Int} {r : List Int × Int}, bareR K s' b a = .ok r → bareR K s b a = .ok r := by
  induction K with
  | zero => intro b a r h; exact absurd h (by simp [bareR])
  | succ K ih =>
    intro b a r h
    unfold bareR at h ⊢
    cases h1 : getF s' a 1 with
    | none => rw [h1] at h; exact absurd h (by simp)
    | some n =>
      rw [h1] at h
      rw [getF_ext x h1]
      simp only [] at h ⊢
      by_cases c1 : n = 0
      · rw [if_pos c1] at h ⊢
        exact h
      rw [if_neg c1] at h ⊢
      by_cases c2 : 191 < n
      · rw [if_pos c2] at h; exact absurd h (by simp)
      rw [if_neg c2] at h ⊢
      by_cases c4 : 63 < n
      · rw [if_pos c4] at h; exact absurd h (by simp)
      rw [if_neg c4] at h ⊢
      by_cases c5 : 255 < (b.length : Int) + n + 2
      · rw [if_pos c5] at h; exact absurd h (by simp)
      rw [if_neg c5] at h ⊢
      cases h3 : partF s' (a + 1) n with
      | none => rw [h3] at h; exact absurd h (by simp)
      | some l =>
        rw [h3] at h
        rw [partF_ext x h3]
        exact ih h
theorem endsR_ext (x : Ext s' s) {en : Int} (he : en ≤ s'.size) (K : Nat) : ∀ {a : Int}, 0 ≤ a → endsR K s' a en = endsR K s a en := by
  induction K with
  | zero => intro a _; rfl
  | succ K ih =>
    intro a h0
    unfold endsR
    by_cases c : a < en
    · rw [if_pos c, if_pos c, x.nb _ (by omega)]
      split
      · rfl
      · split
        · rfl
        · split
          · rfl
          · exact ih (by omega)
    · rw [if_neg c, if_neg c]
theorem withinF_ext (x : Ext s' s) {k a en : Int} {r : List Int × Int} (he : en ≤ s'.size) (h0 : 0 ≤ a) (h : withinF s' k a en = .ok r) : withinF s k a en = .ok r := by
  unfold withinF endsF at h ⊢
  rw [endsR_ext x he _ h0] at h
  split at h
  · exact absurd h (by simp)
  · rename_i hc
    rw [if_neg hc]
    split at h
    · rename_i hk
      rw [if_pos hk]
      exact bareR_ext x _ h
    · rename_i hk
      rw [if_neg hk]
      exact nameR_ext x _ h
theorem numsR_ext (x : Ext s' s) {sz en : Int} (K : Nat) : ∀ {out : List Int} {a : Int} {r : List Int × Int}, numsR s' sz en K out a = .ok r → numsR s sz en K out a = .ok r := by
  induction K with
  | zero => intro out a r h; exact h
  | succ K ih =>
    intro out a r h
    unfold numsR at h ⊢
    by_cases c1 : en - a < sz
    · rw [if_pos c1] at h; exact absurd h (by simp)
    rw [if_neg c1] at h ⊢
    cases h1 : getF s' a sz with
    | none => rw [h1] at h; exact absurd h (by simp)
    | some n =>
      rw [h1] at h
      rw [getF_ext x h1]
      exact ih h
theorem namesR_ext (x : Ext s' s) {k en : Int} (he : en ≤ s'.size) (K : Nat) : ∀ {out : List ByteArray} {a : Int} {r : List ByteArray × Int}, 0 ≤ a → namesR s' k en K out a = .ok r → namesR s k en K out a = .ok r := by
  induction K with
  | zero => intro out a r _ h; exact h
  | succ K ih =>
    intro out a r h0 h
    unfold namesR at h ⊢
    cases h1 : withinF s' k a en with
    | error c => rw [h1] at h; exact absurd h (by simp)
    | ok y =>
      obtain ⟨b, a2⟩ := y
      rw [h1] at h
      rw [withinF_ext x he h0 h1]
      exact ih (within_at h1).1 h
theorem textsR_ext (x : Ext s' s) {en : Int} (K : Nat) : ∀ {out : List ByteArray} {a : Int} {r : List ByteArray × Int}, textsR s' en K out a = .ok r → textsR s en K out a = .ok r := by
  induction K with
  | zero => intro out a r h; exact absurd h (by simp [textsR])
  | succ K ih =>
    intro out a r h
    unfold textsR at h ⊢
    by_cases c1 : a < en
    · rw [if_pos c1] at h ⊢
      cases h1 : getF s' a 1 with
      | none => rw [h1] at h; exact absurd h (by simp)
      | some m =>
        rw [h1] at h
        rw [getF_ext x h1]
        simp only [] at h ⊢
        by_cases c2 : en - (a + 1) < m
        · rw [if_pos c2] at h; exact absurd h (by simp)
        rw [if_neg c2] at h ⊢
        cases h2 : partF s' (a + 1) m with
        | none => rw [h2] at h; exact absurd h (by simp)
        | some t =>
          rw [h2] at h
          rw [partF_ext x h2]
          exact ih h
    · rw [if_neg c1] at h ⊢
      exact h
theorem dataT_ext (x : Ext s' s) {k en a : Int} {names : List ByteArray} {nums : List Int} {r : Parts × Int} (h : dataT s' k en names nums a = .ok r) : dataT s k en names nums a = .ok r := by
  by_cases c1 : k = 16
  · rw [dataT_txt c1] at h ⊢
    cases h1 : textsR s' en ((en - a).toNat + 1) [] a with
    | error c => rw [h1] at h; exact absurd h (by simp)
    | ok y =>
      rw [h1] at h
      rw [textsR_ext x _ h1]
      exact h
  by_cases c2 : (shapeOf k).1 + (shapeOf k).2.1 = 0
  · rw [dataT_free c1 c2] at h ⊢
    cases h1 : partF s' a (en - a) with
    | none => rw [h1] at h; exact absurd h (by simp)
    | some t =>
      rw [h1] at h
      rw [partF_ext x h1]
      exact h
  · rw [dataT_none c1 c2] at h ⊢
    exact h
theorem dataM_ext (x : Ext s' s) {k en a1 : Int} {nums : List Int} {r : Parts × Int} (he : en ≤ s'.size) (h0 : 0 ≤ a1) (h : dataM s' k en (nums, a1) = .ok r) : dataM s k en (nums, a1) = .ok r := by
  unfold dataM at h ⊢
  dsimp only at h ⊢
  cases h1 : namesR s' k en (shapeOf k).1 [] a1 with
  | error c => rw [h1] at h; exact absurd h (by simp)
  | ok y =>
    obtain ⟨names, a2⟩ := y
    rw [h1] at h
    rw [namesR_ext x he _ h0 h1]
    simp only [] at h ⊢
    by_cases c6 : k = 6
    · rw [dataN_six c6] at h ⊢
      cases h2 : numsR s' 4 en (shapeOf k).2.1 [] a2 with
      | error c => rw [h2] at h; exact absurd h (by simp)
      | ok y =>
        obtain ⟨nums', a3⟩ := y
        rw [h2] at h
        rw [numsR_ext x _ h2]
        exact dataT_ext x h
    · rw [dataN_not c6] at h ⊢
      exact dataT_ext x h
theorem dataR_ext (x : Ext s' s) {k en a : Int} {r : Parts × Int} (he : en ≤ s'.size) (h0 : 0 ≤ a ∧ a ≤ s'.size) (h : dataR s' k en a = .ok r) : dataR s k en a = .ok r := by
  unfold dataR at h ⊢
  by_cases c6 : k = 6
  · rw [if_pos c6] at h ⊢
    exact dataM_ext x he h0.1 h
  · rw [if_neg c6] at h ⊢
    cases h1 : numsR s' 2 en (shapeOf k).2.1 [] a with
    | error c => rw [h1] at h; exact absurd h (by simp)
    | ok y =>
      obtain ⟨nums, a1⟩ := y
      rw [h1] at h
      rw [numsR_ext x _ h1]
      exact dataM_ext x he (numsR_at _ h1 h0).1 h
theorem quesR_ext (x : Ext s' s) {a : Int} {r : Ques × Int} (h : quesR s' a = .ok r) : quesR s a = .ok r := by
  unfold quesR nameAt at h ⊢
  cases hn : nameR (a.toNat * 256 + 257) s' [] a (-1) a with
  | error c => rw [hn] at h; exact absurd h (by simp)
  | ok y =>
    obtain ⟨b, a1⟩ := y
    rw [hn] at h
    rw [nameR_ext x _ hn]
    simp only [] at h ⊢
    cases h1 : getF s' a1 2 with
    | none => rw [h1] at h; exact absurd h (by simp)
    | some t =>
      rw [h1] at h
      rw [getF_ext x h1]
      simp only [] at h ⊢
      cases h2 : getF s' (a1 + 2) 2 with
      | none => rw [h2] at h; exact absurd h (by simp)
      | some c =>
        rw [h2] at h
        rw [getF_ext x h2]
        exact h
theorem recR_ext (x : Ext s' s) {a : Int} {r : Rec × Int} (h : recR s' a = .ok r) : recR s a = .ok r := by
  unfold recR nameAt at h ⊢
  cases hn : nameR (a.toNat * 256 + 257) s' [] a (-1) a with
  | error c => rw [hn] at h; exact absurd h (by simp)
  | ok y =>
    obtain ⟨b, a1⟩ := y
    rw [hn] at h
    rw [nameR_ext x _ hn]
    simp only [] at h ⊢
    cases h1 : getF s' a1 2 with
    | none => rw [h1] at h; exact absurd h (by simp)
    | some t =>
      rw [h1] at h
      rw [getF_ext x h1]
      simp only [] at h ⊢
      cases h2 : getF s' (a1 + 2) 2 with
      | none => rw [h2] at h; exact absurd h (by simp)
      | some c =>
        rw [h2] at h
        rw [getF_ext x h2]
        simp only [] at h ⊢
        cases h3 : getF s' (a1 + 2 + 2) 4 with
        | none => rw [h3] at h; exact absurd h (by simp)
        | some l =>
          rw [h3] at h
          rw [getF_ext x h3]
          simp only [] at h ⊢
          cases h4 : getF s' (a1 + 2 + 2 + 4) 2 with
          | none => rw [h4] at h; exact absurd h (by simp)
          | some n =>
            rw [h4] at h
            rw [getF_ext x h4]
            simp only [] at h ⊢
            have g4 := get2 h4
            have := x.size
            by_cases c1 : (s'.size : Int) - (a1 + 2 + 2 + 4 + 2) < n
            · rw [if_pos c1] at h; exact absurd h (by simp)
            rw [if_neg c1] at h
            rw [if_neg (by omega)]
            cases hd : dataR s' t (a1 + 2 + 2 + 4 + 2 + n) (a1 + 2 + 2 + 4 + 2) with
            | error d => rw [hd] at h; exact absurd h (by simp)
            | ok y =>
              rw [hd] at h
              rw [dataR_ext x (by omega) (by omega) hd]
              exact h
theorem recsR_ext (x : Ext s' s) (K : Nat) : ∀ {out : List Rec} {a : Int} {r : List Rec × Int}, recsR s' K out a = .ok r → recsR s K out a = .ok r := by
  induction K with
  | zero => intro out a r h; exact h
  | succ K ih =>
    intro out a r h
    unfold recsR at h ⊢
    cases h1 : recR s' a with
    | error c => rw [h1] at h; exact absurd h (by simp)
    | ok y =>
      rw [h1] at h
      rw [recR_ext x h1]
      exact ih h
theorem quessR_ext (x : Ext s' s) (K : Nat) : ∀ {out : List Ques} {a : Int} {r : List Ques × Int}, quessR s' K out a = .ok r → quessR s K out a = .ok r := by
  induction K with
  | zero => intro out a r h; exact h
  | succ K ih =>
    intro out a r h
    unfold quessR at h ⊢
    cases h1 : quesR s' a with
    | error c => rw [h1] at h; exact absurd h (by simp)
    | ok y =>
      rw [h1] at h
      rw [quesR_ext x h1]
      exact ih h
theorem cntR_ext (x : Ext s' s) (K : Nat) : ∀ {out : List Int} {a : Int} {r : List Int × Int}, cntR s' K out a = .ok r → cntR s K out a = .ok r := by
  induction K with
  | zero => intro out a r h; exact h
  | succ K ih =>
    intro out a r h
    unfold cntR at h ⊢
    cases h1 : getF s' a 2 with
    | none => rw [h1] at h; exact absurd h (by simp)
    | some n =>
      rw [h1] at h
      rw [getF_ext x h1]
      exact ih h
theorem cntR_at (K : Nat) : ∀ {out : List Int} {a : Int} {out' : List Int} {a' : Int}, cntR s K out a = .ok (out', a') → 0 ≤ a ∧ a ≤ s.size → 0 ≤ a' ∧ a' ≤ s.size := by
  induction K with
  | zero =>
    intro out a out' a' h ha
    have := (Prod.mk.inj (Except.ok.inj h)).2
    omega
  | succ K ih =>
    intro out a out' a' h ha
    unfold cntR at h
    cases h1 : getF s a 2 with
    | none => rw [h1] at h; exact absurd h (by simp)
    | some n =>
      rw [h1] at h
      have := get2 h1
      exact ih h (by omega)
theorem quessR_at (K : Nat) : ∀ {out : List Ques} {a : Int} {out' : List Ques} {a' : Int}, quessR s K out a = .ok (out', a') → 0 ≤ a ∧ a ≤ s.size → 0 ≤ a' ∧ a' ≤ s.size := by
  induction K with
  | zero =>
    intro out a out' a' h ha
    have := (Prod.mk.inj (Except.ok.inj h)).2
    omega
  | succ K ih =>
    intro out a out' a' h ha
    unfold quessR at h
    cases h1 : quesR s a with
    | error c => rw [h1] at h; exact absurd h (by simp)
    | ok y =>
      obtain ⟨q, a2⟩ := y
      rw [h1] at h
      exact ih h (quesR_at h1)
/-- What was read of a text, whole, is read of a longer one, which is not whole. -/
theorem msgR_ext (x : Ext s' s) {m : Msg} {a : Int} (h : msgR s' = .ok (m, a)) : (s'.size : Int) ≤ a ∧ a ≤ s'.size ∧ msgR s = if a < s.size then .error 7 else .ok (m, a) := by
  unfold msgR at h ⊢
  cases h1 : getF s' 0 2 with
  | none => rw [h1] at h; exact absurd h (by simp)
  | some id =>
    rw [h1] at h
    rw [getF_ext x h1]
    simp only [] at h ⊢
    cases h2 : getF s' 2 2 with
    | none => rw [h2] at h; exact absurd h (by simp)
    | some fl =>
      rw [h2] at h
      rw [getF_ext x h2]
      simp only [] at h ⊢
      cases h3 : cntR s' 4 [] 4 with
      | error c => rw [h3] at h; exact absurd h (by simp)
      | ok y =>
        obtain ⟨l, b⟩ := y
        rw [h3] at h
        rw [cntR_ext x _ h3]
        simp only [msgA] at h ⊢
        by_cases c1 : 256 < l.sum
        · rw [if_pos c1] at h; exact absurd h (by simp)
        rw [if_neg c1] at h ⊢
        cases h4 : quessR s' (l.getD 0 0).toNat [] b with
        | error c => rw [h4] at h; exact absurd h (by simp)
        | ok y =>
          obtain ⟨qs, b1⟩ := y
          rw [h4] at h
          rw [quessR_ext x _ h4]
          simp only [msgB] at h ⊢
          cases h5 : recsR s' (l.getD 1 0).toNat [] b1 with
          | error c => rw [h5] at h; exact absurd h (by simp)
          | ok y =>
            obtain ⟨ans, b2⟩ := y
            rw [h5] at h
            rw [recsR_ext x _ h5]
            simp only [msgC] at h ⊢
            cases h6 : recsR s' (l.getD 2 0).toNat [] b2 with
            | error c => rw [h6] at h; exact absurd h (by simp)
            | ok y =>
              obtain ⟨auth, b3⟩ := y
              rw [h6] at h
              rw [recsR_ext x _ h6]
              simp only [msgD] at h ⊢
              cases h7 : recsR s' (l.getD 3 0).toNat [] b3 with
              | error c => rw [h7] at h; exact absurd h (by simp)
              | ok y =>
                obtain ⟨add, b4⟩ := y
                rw [h7] at h
                rw [recsR_ext x _ h7]
                simp only [msgE] at h ⊢
                by_cases c2 : b4 < s'.size
                · rw [if_pos c2] at h; exact absurd h (by simp)
                rw [if_neg c2] at h
                obtain ⟨rfl, rfl⟩ := Prod.mk.inj (Except.ok.inj h)
                refine ⟨by omega, ?_, rfl⟩
                have g2 := get2 h2
                have k3 := cntR_at _ h3 (by omega)
                have k4 := quessR_at _ h4 k3
                exact (recsR_at _ h7 (recsR_at _ h6 (recsR_at _ h5 k4))).2
end
theorem extract_ext (s : ByteArray) (k : Nat) (hk : k ≤ s.size) : Ext (s.extract 0 k) s where
  size := by rw [ByteArray.size_extract]; omega
  ext := fun i j hj => by
    rw [ByteArray.size_extract] at hj
    rw [ByteArray.extract_extract]
    congr 1 <;> omega
  nb := fun i hi => by
    rw [ByteArray.size_extract] at hi
    have h1 : i < (s.extract 0 k).size := by rw [ByteArray.size_extract]; omega
    have h2 : i < s.size := by omega
    unfold nb
    rw [dif_pos h1, dif_pos h2]
    congr 1
    have := ByteArray.getElem_extract h1
    simpa using this
theorem append_ext (s t : ByteArray) : Ext s (s ++ t) where
  size := by rw [ByteArray.size_append]; omega
  ext := fun i j hj => by
    rw [ByteArray.extract_append]
    have : t.extract (i - s.size) (j - s.size) = ByteArray.empty := by
      rw [show j - s.size = 0 by omega]
      simp
    rw [this]
    simp
  nb := fun i hi => by
    have h2 : i < (s ++ t).size := by rw [ByteArray.size_append]; omega
    unfold nb
    rw [dif_pos hi, dif_pos h2]
    congr 1
    exact (ByteArray.getElem_append_left hi).symm
section
variable {s : ByteArray} {c : Int}
theorem nameR_err (K : Nat) : ∀ {b : List Int} {part nx a : Int}, nameR K s b part nx a = .error c → c ≠ 0 := by
  induction K with
  | zero => intro b part nx a h; have := Except.error.inj h; omega
  | succ K ih =>
    intro b part nx a h
    unfold nameR at h
    repeat' split at h
    all_goals first | exact ih h | (have := Except.error.inj h; omega) | exact absurd h (by simp)
theorem bareR_err (K : Nat) : ∀ {b : List Int} {a : Int}, bareR K s b a = .error c → c ≠ 0 := by
  induction K with
  | zero => intro b a h; have := Except.error.inj h; omega
  | succ K ih =>
    intro b a h
    unfold bareR at h
    repeat' split at h
    all_goals first | exact ih h | (have := Except.error.inj h; omega) | exact absurd h (by simp)
theorem within_err {k a en : Int} (h : withinF s k a en = .error c) : c ≠ 0 := by
  unfold withinF at h
  repeat' split at h
  all_goals first | exact bareR_err _ h | exact nameR_err _ h | (have := Except.error.inj h; omega)
theorem numsR_err {sz en : Int} (K : Nat) : ∀ {out : List Int} {a : Int}, numsR s sz en K out a = .error c → c ≠ 0 := by
  induction K with
  | zero => intro out a h; exact absurd h (by simp [numsR])
  | succ K ih =>
    intro out a h
    unfold numsR at h
    repeat' split at h
    all_goals first | exact ih h | (have := Except.error.inj h; omega) | exact absurd h (by simp)
theorem namesR_err {k en : Int} (K : Nat) : ∀ {out : List ByteArray} {a : Int}, namesR s k en K out a = .error c → c ≠ 0 := by
  induction K with
  | zero => intro out a h; exact absurd h (by simp [namesR])
  | succ K ih =>
    intro out a h
    unfold namesR at h
    cases h1 : withinF s k a en with
    | error d =>
      rw [h1] at h
      rw [← Except.error.inj h]
      exact within_err h1
    | ok y => rw [h1] at h; exact ih h
theorem textsR_err {en : Int} (K : Nat) : ∀ {out : List ByteArray} {a : Int}, textsR s en K out a = .error c → c ≠ 0 := by
  induction K with
  | zero => intro out a h; have := Except.error.inj h; omega
  | succ K ih =>
    intro out a h
    unfold textsR at h
    repeat' split at h
    all_goals first | exact ih h | (have := Except.error.inj h; omega) | exact absurd h (by simp)
theorem dataE_err {en : Int} {names : List ByteArray} {nums : List Int} {x : List ByteArray × Int} (h : dataE en names nums x = .error c) : c ≠ 0 := by
  obtain ⟨t, a⟩ := x
  rw [dataE_eq] at h
  split at h
  · exact absurd h (by simp)
  · have := Except.error.inj h; omega
theorem dataT_err {k en a : Int} {names : List ByteArray} {nums : List Int} (h : dataT s k en names nums a = .error c) : c ≠ 0 := by
  by_cases c1 : k = 16
  · rw [dataT_txt c1] at h
    cases h1 : textsR s en ((en - a).toNat + 1) [] a with
    | error d => rw [h1] at h; rw [← Except.error.inj h]; exact textsR_err _ h1
    | ok y => rw [h1] at h; exact dataE_err h
  by_cases c2 : (shapeOf k).1 + (shapeOf k).2.1 = 0
  · rw [dataT_free c1 c2] at h
    cases h1 : partF s a (en - a) with
    | none => rw [h1] at h; have := Except.error.inj h; omega
    | some t => rw [h1] at h; exact dataE_err h
  · rw [dataT_none c1 c2] at h
    exact dataE_err h
theorem dataM_err {k en a : Int} {nums : List Int} (h : dataM s k en (nums, a) = .error c) : c ≠ 0 := by
  unfold dataM at h
  dsimp only at h
  cases h1 : namesR s k en (shapeOf k).1 [] a with
  | error d => rw [h1] at h; rw [← Except.error.inj h]; exact namesR_err _ h1
  | ok y =>
    obtain ⟨names, a2⟩ := y
    rw [h1] at h
    simp only [] at h
    by_cases c6 : k = 6
    · rw [dataN_six c6] at h
      cases h2 : numsR s 4 en (shapeOf k).2.1 [] a2 with
      | error d => rw [h2] at h; rw [← Except.error.inj h]; exact numsR_err _ h2
      | ok y => rw [h2] at h; exact dataT_err h
    · rw [dataN_not c6] at h
      exact dataT_err h
theorem dataR_err {k en a : Int} (h : dataR s k en a = .error c) : c ≠ 0 := by
  unfold dataR at h
  by_cases c6 : k = 6
  · rw [if_pos c6] at h
    exact dataM_err h
  · rw [if_neg c6] at h
    cases h1 : numsR s 2 en (shapeOf k).2.1 [] a with
    | error d => rw [h1] at h; rw [← Except.error.inj h]; exact numsR_err _ h1
    | ok y =>
      obtain ⟨nums, a1⟩ := y
      rw [h1] at h
      exact dataM_err h
theorem quesR_err {a : Int} (h : quesR s a = .error c) : c ≠ 0 := by
  unfold quesR at h
  cases hn : nameAt s a with
  | error d => rw [hn] at h; rw [← Except.error.inj h]; exact nameR_err _ hn
  | ok y =>
    obtain ⟨b, a1⟩ := y
    rw [hn] at h
    simp only [] at h
    repeat' split at h
    all_goals first | (have := Except.error.inj h; omega) | exact absurd h (by simp)
theorem recR_err {a : Int} (h : recR s a = .error c) : c ≠ 0 := by
  unfold recR at h
  cases hn : nameAt s a with
  | error d => rw [hn] at h; rw [← Except.error.inj h]; exact nameR_err _ hn
  | ok y =>
    obtain ⟨b, a1⟩ := y
    rw [hn] at h
    simp only [] at h
    cases h1 : getF s a1 2 with
    | none => rw [h1] at h; have := Except.error.inj h; omega
    | some t =>
      rw [h1] at h
      simp only [] at h
      cases h2 : getF s (a1 + 2) 2 with
      | none => rw [h2] at h; have := Except.error.inj h; omega
      | some c =>
        rw [h2] at h
        simp only [] at h
        cases h3 : getF s (a1 + 2 + 2) 4 with
        | none => rw [h3] at h; have := Except.error.inj h; omega
        | some l =>
          rw [h3] at h
          simp only [] at h
          cases h4 : getF s (a1 + 2 + 2 + 4) 2 with
          | none => rw [h4] at h; have := Except.error.inj h; omega
          | some n =>
            rw [h4] at h
            simp only [] at h
            by_cases c1 : (s.size : Int) - (a1 + 2 + 2 + 4 + 2) < n
            · rw [if_pos c1] at h; have := Except.error.inj h; omega
            rw [if_neg c1] at h
            cases hd : dataR s t (a1 + 2 + 2 + 4 + 2 + n) (a1 + 2 + 2 + 4 + 2) with
            | error d => rw [hd] at h; rw [← Except.error.inj h]; exact dataR_err hd
            | ok y =>
              obtain ⟨⟨names, nums, texts⟩, a2⟩ := y
              rw [hd] at h
              simp only [] at h
              split at h
              · exact absurd h (by simp)
              · rename_i hk
                rw [← Except.error.inj h]
                exact hk
theorem recsR_err (K : Nat) : ∀ {out : List Rec} {a : Int}, recsR s K out a = .error c → c ≠ 0 := by
  induction K with
  | zero => intro out a h; exact absurd h (by simp [recsR])
  | succ K ih =>
    intro out a h
    unfold recsR at h
    cases h1 : recR s a with
    | error d => rw [h1] at h; rw [← Except.error.inj h]; exact recR_err h1
    | ok y => rw [h1] at h; exact ih h
theorem quessR_err (K : Nat) : ∀ {out : List Ques} {a : Int}, quessR s K out a = .error c → c ≠ 0 := by
  induction K with
  | zero => intro out a h; exact absurd h (by simp [quessR])
  | succ K ih =>
    intro out a h
    unfold quessR at h
    cases h1 : quesR s a with
    | error d => rw [h1] at h; rw [← Except.error.inj h]; exact quesR_err h1
    | ok y => rw [h1] at h; exact ih h
theorem cntR_err (K : Nat) : ∀ {out : List Int} {a : Int}, cntR s K out a = .error c → c ≠ 0 := by
  induction K with
  | zero => intro out a h; exact absurd h (by simp [cntR])
  | succ K ih =>
    intro out a h
    unfold cntR at h
    cases h1 : getF s a 2 with
    | none => rw [h1] at h; have := Except.error.inj h; omega
    | some y => rw [h1] at h; exact ih h
theorem msgR_err (h : msgR s = .error c) : c ≠ 0 := by
  unfold msgR at h
  cases h1 : getF s 0 2 with
  | none => rw [h1] at h; have := Except.error.inj h; omega
  | some id =>
    rw [h1] at h
    simp only [] at h
    cases h2 : getF s 2 2 with
    | none => rw [h2] at h; have := Except.error.inj h; omega
    | some fl =>
      rw [h2] at h
      simp only [] at h
      cases h3 : cntR s 4 [] 4 with
      | error d => rw [h3] at h; rw [← Except.error.inj h]; exact cntR_err _ h3
      | ok y =>
        obtain ⟨l, b⟩ := y
        rw [h3] at h
        simp only [msgA] at h
        by_cases c1 : 256 < l.sum
        · rw [if_pos c1] at h; have := Except.error.inj h; omega
        rw [if_neg c1] at h
        cases h4 : quessR s (l.getD 0 0).toNat [] b with
        | error d => rw [h4] at h; rw [← Except.error.inj h]; exact quessR_err _ h4
        | ok y =>
          obtain ⟨qs, b1⟩ := y
          rw [h4] at h
          simp only [msgB] at h
          cases h5 : recsR s (l.getD 1 0).toNat [] b1 with
          | error d => rw [h5] at h; rw [← Except.error.inj h]; exact recsR_err _ h5
          | ok y =>
            obtain ⟨ans, b2⟩ := y
            rw [h5] at h
            simp only [msgC] at h
            cases h6 : recsR s (l.getD 2 0).toNat [] b2 with
            | error d => rw [h6] at h; rw [← Except.error.inj h]; exact recsR_err _ h6
            | ok y =>
              obtain ⟨auth, b3⟩ := y
              rw [h6] at h
              simp only [msgD] at h
              cases h7 : recsR s (l.getD 3 0).toNat [] b3 with
              | error d => rw [h7] at h; rw [← Except.error.inj h]; exact recsR_err _ h7
              | ok y =>
                obtain ⟨add, b4⟩ := y
                rw [h7] at h
                simp only [msgE] at h
                split at h
                · have := Except.error.inj h; omega
                · exact absurd h (by simp)
end
theorem readF_ok {s : ByteArray} {m : Msg} (h : readF s = (m, 0)) : ¬ 65535 < s.size ∧ ∃ a, msgR s = .ok (m, a) := by
  unfold readF at h
  by_cases hl : 65535 < s.size
  · rw [if_pos hl] at h
    exact absurd (Prod.mk.inj h).2 (by decide)
  · rw [if_neg hl] at h
    refine ⟨hl, ?_⟩
    cases hm : msgR s with
    | error c =>
      rw [hm] at h
      exact absurd (Prod.mk.inj h).2 (msgR_err hm)
    | ok y =>
      obtain ⟨m', a⟩ := y
      rw [hm] at h
      obtain rfl := (Prod.mk.inj h).1
      exact ⟨a, rfl⟩
theorem cutsLaw : CutsLaw where
  cut := fun s m k h hk hc => by
    obtain ⟨hl, a, ha⟩ := readF_ok h
    obtain ⟨x, hx⟩ : ∃ x, readF (s.extract 0 k) = (x, 0) := ⟨_, Prod.ext rfl hc⟩
    obtain ⟨_, b, hb⟩ := readF_ok hx
    obtain ⟨h1, h2, h3⟩ := msgR_ext (extract_ext s k (by omega)) hb
    rw [ByteArray.size_extract] at h1 h2
    rw [if_pos (by omega), ha] at h3
    exact absurd h3 (by simp)
  more := fun s t m h ht => by
    obtain ⟨hl, a, ha⟩ := readF_ok h
    obtain ⟨h1, h2, h3⟩ := msgR_ext (append_ext s t) ha
    rw [ByteArray.size_append] at h3
    rw [if_pos (by omega)] at h3
    unfold readF
    rw [ByteArray.size_append]
    by_cases hc : 65535 < s.size + t.size
    · rw [if_pos hc]
      exact .inr ⟨hc, rfl⟩
    · rw [if_neg hc, h3]
      exact .inl rfl
theorem cuts_all (W : World) (s : ByteArray) (hs : s.size ≤ 140737488351232) (cut : Int) (hc : (Lit.int .i64 cut).wf = true) (t : ByteArray) (ht : t.size ≤ 140737488351232) :
    Calls Try.prog 10 #[.string s, .int .i64 cut, .string t] W fun e w' => e = .returned (.bool true) ∧ Below W.heap.size W w' := cuts_row cutsLaw W s hs cut hc t ht
end Go.Proofs.Ytbbeikdbioelgaa.M
