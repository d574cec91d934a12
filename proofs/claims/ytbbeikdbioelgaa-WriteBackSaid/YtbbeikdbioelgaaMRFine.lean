/- What is read is small. -/
import Derived.Test.YtbbeikdbioelgaaMRMsg
set_option linter.unusedVariables false
set_option linter.unusedSimpArgs false
namespace Go.Proofs.Ytbbeikdbioelgaa.M
open Go.RowKit Go.Maps Go.Proofs.YtbbeikdbioelgaaW.PrintWords Go.Proofs.YtbbeikdbioelgaaW.PrintLast Go.Proofs.YtbbeikdbioelgaaW.PrintMore
theorem getD_mem' {α : Type} {l : List α} (z : α) {j : Nat} (h : j < l.length) : l.getD j z ∈ l := by
  rw [List.getD_eq_getElem?_getD, List.getElem?_eq_getElem h, Option.getD_some]
  exact List.getElem_mem h
theorem nameR_len (K : Nat) : ∀ {s : ByteArray} {b : List Int} {part nx a : Int} {b' : List Int} {a' : Int}, nameR K s b part nx a = .ok (b', a') → b.length ≤ 254 → b'.length ≤ 255 := by
  induction K with
  | zero => intro s b part nx a b' a' h _; exact absurd h (by simp [nameR])
  | succ K ih =>
    intro s b part nx a b' a' h hn
    unfold nameR at h
    cases h1 : getF s a 1 with
    | none => rw [h1] at h; exact absurd h (by simp)
    | some n =>
      rw [h1] at h
      simp only [] at h
      have g1 := get1 h1
      by_cases c1 : n = 0
      · rw [if_pos c1] at h
        rw [← (Prod.mk.inj (Except.ok.inj h)).1]
        simp
        omega
      rw [if_neg c1] at h
      by_cases c2 : 191 < n
      · rw [if_pos c2] at h
        cases h2 : getF s (a + 1) 1 with
        | none => rw [h2] at h; exact absurd h (by simp)
        | some m =>
          rw [h2] at h
          simp only [] at h
          by_cases c3 : part ≤ n % 64 * 256 + m
          · rw [if_pos c3] at h; exact absurd h (by simp)
          · rw [if_neg c3] at h
            exact ih h hn
      rw [if_neg c2] at h
      by_cases c4 : 63 < n
      · rw [if_pos c4] at h; exact absurd h (by simp)
      rw [if_neg c4] at h
      cases h3 : partF s (a + 1) n with
      | none => rw [h3] at h; exact absurd h (by simp)
      | some l =>
        rw [h3] at h
        simp only [] at h
        by_cases c5 : 255 < (b.length : Int) + n + 2
        · rw [if_pos c5] at h; exact absurd h (by simp)
        · rw [if_neg c5] at h
          have := (part_size h3).1
          exact ih h (by simp only [List.length_append, List.length_singleton, bytesOf_length]; omega)
theorem bareR_len (K : Nat) : ∀ {s : ByteArray} {b : List Int} {a : Int} {b' : List Int} {a' : Int}, bareR K s b a = .ok (b', a') → b.length ≤ 254 → b'.length ≤ 255 := by
  induction K with
  | zero => intro s b a b' a' h; exact absurd h (by simp [bareR])
  | succ K ih =>
    intro s b a b' a' h hn
    unfold bareR at h
    cases h1 : getF s a 1 with
    | none => rw [h1] at h; exact absurd h (by simp)
    | some n =>
      rw [h1] at h
      simp only [] at h
      have g1 := get1 h1
      by_cases c1 : n = 0
      · rw [if_pos c1] at h
        rw [← (Prod.mk.inj (Except.ok.inj h)).1]
        simp
        omega
      rw [if_neg c1] at h
      by_cases c2 : 191 < n
      · rw [if_pos c2] at h; exact absurd h (by simp)
      rw [if_neg c2] at h
      by_cases c4 : 63 < n
      · rw [if_pos c4] at h; exact absurd h (by simp)
      rw [if_neg c4] at h
      by_cases c5 : 255 < (b.length : Int) + n + 2
      · rw [if_pos c5] at h; exact absurd h (by simp)
      rw [if_neg c5] at h
      cases h3 : partF s (a + 1) n with
      | none => rw [h3] at h; exact absurd h (by simp)
      | some l =>
        rw [h3] at h
        have := (part_size h3).1
        exact ih h (by simp only [List.length_append, List.length_singleton, bytesOf_length]; omega)
theorem name_len {s : ByteArray} {a : Int} {b : List Int} {a' : Int} (h : nameAt s a = .ok (b, a')) : (strOfNums b).size ≤ 255 := by
  rw [strOfNums_size]
  exact nameR_len _ h (by simp)
theorem within_len {s : ByteArray} {k a en : Int} {b : List Int} {a' : Int} (h : withinF s k a en = .ok (b, a')) : (strOfNums b).size ≤ 255 := by
  unfold withinF at h
  split at h
  · exact absurd h (by simp)
  · split at h
    · rw [strOfNums_size]; exact bareR_len _ h (by simp)
    · exact name_len h
theorem numsR_all {s : ByteArray} {z : Nat} {en : Int} (hz : z ≤ 4) (K : Nat) : ∀ {out : List Int} {a : Int} {out' : List Int} {a' : Int}, numsR s z en K out a = .ok (out', a') → (∀ x ∈ out, 0 ≤ x ∧ x ≤ 4294967295) → (∀ x ∈ out', 0 ≤ x ∧ x ≤ 4294967295) ∧ out'.length = out.length + K := by
  induction K with
  | zero =>
    intro out a out' a' h ha
    rw [← (Prod.mk.inj (Except.ok.inj h)).1]
    exact ⟨ha, rfl⟩
  | succ K ih =>
    intro out a out' a' h ha
    unfold numsR at h
    by_cases c1 : en - a < z
    · rw [if_pos c1] at h; exact absurd h (by simp)
    rw [if_neg c1] at h
    cases h1 : getF s a z with
    | none => rw [h1] at h; exact absurd h (by simp)
    | some n =>
      rw [h1] at h
      have hb := get_bound h1
      have hp : (256 : Int) ^ z ≤ 4294967296 := by
        have hz' : z = 0 ∨ z = 1 ∨ z = 2 ∨ z = 3 ∨ z = 4 := by omega
        rcases hz' with e | e | e | e | e <;> rw [e] <;> decide
      obtain ⟨r1, r2⟩ := ih h (fun x hx => by
        rcases List.mem_append.1 hx with hx | hx
        · exact ha x hx
        · rw [List.mem_singleton.1 hx]
          omega)
      exact ⟨r1, by rw [r2, List.length_append, List.length_singleton]; omega⟩
theorem namesR_all {s : ByteArray} {k en : Int} (K : Nat) : ∀ {out : List ByteArray} {a : Int} {out' : List ByteArray} {a' : Int}, namesR s k en K out a = .ok (out', a') → (∀ x ∈ out, x.size ≤ 255) → (∀ x ∈ out', x.size ≤ 255) ∧ out'.length = out.length + K := by
  induction K with
  | zero =>
    intro out a out' a' h ha
    rw [← (Prod.mk.inj (Except.ok.inj h)).1]
    exact ⟨ha, rfl⟩
  | succ K ih =>
    intro out a out' a' h ha
    unfold namesR at h
    cases h1 : withinF s k a en with
    | error c => rw [h1] at h; exact absurd h (by simp)
    | ok x =>
      obtain ⟨b, a2⟩ := x
      rw [h1] at h
      obtain ⟨r1, r2⟩ := ih h (fun x hx => by
        rcases List.mem_append.1 hx with hx | hx
        · exact ha x hx
        · rw [List.mem_singleton.1 hx]
          exact within_len h1)
      exact ⟨r1, by rw [r2, List.length_append, List.length_singleton]; omega⟩
theorem namesR_at {s : ByteArray} {k en : Int} (K : Nat) : ∀ {out : List ByteArray} {a : Int} {out' : List ByteArray} {a' : Int}, namesR s k en K out a = .ok (out', a') → 0 ≤ a ∧ a ≤ s.size → 0 ≤ a' ∧ a' ≤ s.size := by
  induction K with
  | zero =>
    intro out a out' a' h ha
    have := (Prod.mk.inj (Except.ok.inj h)).2
    omega
  | succ K ih =>
    intro out a out' a' h ha
    unfold namesR at h
    cases h1 : withinF s k a en with
    | error c => rw [h1] at h; exact absurd h (by simp)
    | ok x =>
      obtain ⟨b, a2⟩ := x
      rw [h1] at h
      exact ih h (within_at h1)
theorem textsR_all {s : ByteArray} {en : Int} (K : Nat) : ∀ {out : List ByteArray} {a : Int} {out' : List ByteArray} {a' : Int}, textsR s en K out a = .ok (out', a') → 0 ≤ a → (∀ x ∈ out, x.size ≤ s.size) ∧ (out.length : Int) ≤ a → (∀ x ∈ out', x.size ≤ s.size) ∧ (out'.length : Int) ≤ max a s.size := by
  induction K with
  | zero => intro out a out' a' h; exact absurd h (by simp [textsR])
  | succ K ih =>
    intro out a out' a' h h0 ha
    unfold textsR at h
    by_cases c1 : a < en
    · rw [if_pos c1] at h
      cases h1 : getF s a 1 with
      | none => rw [h1] at h; exact absurd h (by simp)
      | some m =>
        rw [h1] at h
        simp only [] at h
        by_cases c2 : en - (a + 1) < m
        · rw [if_pos c2] at h; exact absurd h (by simp)
        rw [if_neg c2] at h
        cases h2 : partF s (a + 1) m with
        | none => rw [h2] at h; exact absurd h (by simp)
        | some t =>
          rw [h2] at h
          have hs := part_size h2
          have := ih h (by omega) ⟨fun x hx => by
            rcases List.mem_append.1 hx with hx | hx
            · exact ha.1 x hx
            · rw [List.mem_singleton.1 hx]
              omega, by rw [List.length_append, List.length_singleton]; omega⟩
          exact ⟨this.1, by omega⟩
    · rw [if_neg c1] at h
      rw [← (Prod.mk.inj (Except.ok.inj h)).1]
      exact ⟨ha.1, by omega⟩
theorem sum_le (l : List ByteArray) (B : Nat) (h : ∀ x ∈ l, x.size ≤ B) : sumS l ≤ B * l.length := by
  induction l with
  | nil => exact Nat.le_refl _
  | cons s l ih =>
    have h1 := h s (by simp)
    have h2 := ih (fun x hx => h x (by simp [hx]))
    rw [sumS_cons, List.length_cons]
    have : B * (l.length + 1) = B * l.length + B := by rw [Nat.mul_add, Nat.mul_one]
    omega
theorem dataE_inv {en : Int} {names : List ByteArray} {nums : List Int} {x : List ByteArray × Int} {p : Parts} {a' : Int} (h : dataE en names nums x = .ok (p, a')) : p = (names, nums, x.1) ∧ a' = en ∧ x.2 = en := by
  obtain ⟨t, a⟩ := x
  simp only [dataE] at h
  by_cases c : a = en
  · rw [if_pos c] at h
    obtain ⟨h1, h2⟩ := Prod.mk.inj (Except.ok.inj h)
    exact ⟨h1.symm, by omega, c⟩
  · rw [if_neg c] at h; exact absurd h (by simp)
theorem dataT_all {s : ByteArray} {k en a : Int} {names : List ByteArray} {nums : List Int} {p : Parts} {a' : Int} (h : dataT s k en names nums a = .ok (p, a')) (h0 : 0 ≤ a ∧ a ≤ s.size) : p.1 = names ∧ p.2.1 = nums ∧ (∀ x ∈ p.2.2, x.size ≤ s.size) ∧ p.2.2.length ≤ s.size + 1 ∧ a' = en := by
  by_cases c1 : k = 16
  · rw [dataT_txt c1] at h
    cases h1 : textsR s en ((en - a).toNat + 1) [] a with
    | error c => rw [h1] at h; exact absurd h (by simp)
    | ok x =>
      rw [h1] at h
      obtain ⟨rfl, h2, h3⟩ := dataE_inv h
      obtain ⟨t, a2⟩ := x
      have := textsR_all _ h1 h0.1 ⟨fun x hx => absurd hx (by simp), by simp; omega⟩
      exact ⟨rfl, rfl, this.1, by have := this.2; show t.length ≤ _; omega, h2⟩
  by_cases c2 : (shapeOf k).1 + (shapeOf k).2.1 = 0
  · rw [dataT_free c1 c2] at h
    cases h1 : partF s a (en - a) with
    | none => rw [h1] at h; exact absurd h (by simp)
    | some t =>
      rw [h1] at h
      obtain ⟨rfl, h2, _⟩ := dataE_inv h
      have := part_size h1
      exact ⟨rfl, rfl, fun x hx => by rw [List.mem_singleton.1 hx]; omega, by simp, h2⟩
  · rw [dataT_none c1 c2] at h
    obtain ⟨rfl, h2, _⟩ := dataE_inv h
    exact ⟨rfl, rfl, fun x hx => absurd hx (by simp), by simp, h2⟩
/-- The parts of a record's data that was read are small. -/
structure PartsOk (s : ByteArray) (p : Parts) : Prop where
  n : p.1.length ≤ 2
  ns : ∀ x ∈ p.1, x.size ≤ 255
  m : p.2.1.length ≤ 5
  ms : ∀ x ∈ p.2.1, 0 ≤ x ∧ x ≤ 4294967295
  ts : ∀ x ∈ p.2.2, x.size ≤ s.size
  t : p.2.2.length ≤ s.size + 1
theorem dataR_all {s : ByteArray} {k en a : Int} {p : Parts} {a' : Int} (h : dataR s k en a = .ok (p, a')) (h0 : 0 ≤ a ∧ a ≤ s.size) : PartsOk s p ∧ a' = en := by
  obtain ⟨s1, s2, s3⟩ := shapeOf_le k
  have key : ∀ (nums : List Int) (a1 : Int), (∀ x ∈ nums, 0 ≤ x ∧ x ≤ 4294967295) → nums.length ≤ 5 → 0 ≤ a1 ∧ a1 ≤ s.size → dataM s k en (nums, a1) = .ok (p, a') → PartsOk s p ∧ a' = en := by
    intro nums a1 w1 w2 w3 hm
    unfold dataM at hm
    dsimp only at hm
    cases h1 : namesR s k en (shapeOf k).1 [] a1 with
    | error c => rw [h1] at hm; exact absurd hm (by simp)
    | ok x =>
      obtain ⟨names, a2⟩ := x
      rw [h1] at hm
      simp only [] at hm
      obtain ⟨n1, n2⟩ := namesR_all _ h1 (fun x hx => absurd hx (by simp))
      have n3 := namesR_at _ h1 w3
      by_cases c6 : k = 6
      · rw [dataN_six c6] at hm
        cases h2 : numsR s 4 en (shapeOf k).2.1 [] a2 with
        | error c => rw [h2] at hm; exact absurd hm (by simp)
        | ok x =>
          obtain ⟨nums', a3⟩ := x
          rw [h2] at hm
          obtain ⟨m1, m2⟩ := numsR_all (z := 4) (by decide) _ h2 (fun x hx => absurd hx (by simp))
          obtain ⟨e1, e2, t1, t2, e3⟩ := dataT_all hm (numsR_at _ h2 n3)
          exact ⟨⟨by rw [e1, n2]; simp; omega, by rw [e1]; exact n1, by rw [e2, m2]; simp; omega, by rw [e2]; exact m1, t1, t2⟩, e3⟩
      · rw [dataN_not c6] at hm
        obtain ⟨e1, e2, t1, t2, e3⟩ := dataT_all hm n3
        exact ⟨⟨by rw [e1, n2]; simp; omega, by rw [e1]; exact n1, by rw [e2]; exact w2, by rw [e2]; exact w1, t1, t2⟩, e3⟩
  unfold dataR at h
  by_cases c6 : k = 6
  · rw [if_pos c6] at h
    exact key [] a (fun x hx => absurd hx (by simp)) (by simp) h0 h
  · rw [if_neg c6] at h
    cases h1 : numsR s 2 en (shapeOf k).2.1 [] a with
    | error c => rw [h1] at h; exact absurd h (by simp)
    | ok x =>
      obtain ⟨nums, a1⟩ := x
      rw [h1] at h
      obtain ⟨m1, m2⟩ := numsR_all (z := 2) (by decide) _ h1 (fun x hx => absurd hx (by simp))
      exact key nums a1 m1 (by rw [m2]; simp; omega) (numsR_at _ h1 h0) h
theorem PartsOk.fine {s : ByteArray} {p : Parts} (h : PartsOk s p) (hs : s.size ≤ 1000000) (f0 : ByteArray) (k c t : Int) : Fine ⟨f0, k, c, t, p.1, p.2.1, p.2.2⟩ where
  len4 := by have := h.n; show p.1.length ≤ _; omega
  names := by
    have h1 := sum_le p.1 255 h.ns
    have := h.n
    have := h.m
    show 4 * p.2.1.length + sumS p.1 ≤ _
    omega
  texts := fun j hj => by
    have := h.ts _ (getD_mem' ⟨#[]⟩ hj)
    show (p.2.2.getD j ⟨#[]⟩).size ≤ _
    omega
  texts2 := by have := h.t; show p.2.2.length ≤ _; omega
  wf := fun j hj => h.ms _ (getD_mem' 0 hj)
end Go.Proofs.Ytbbeikdbioelgaa.M
