/- What is read is right. -/
import Derived.Test.YtbbeikdbioelgaaMRight
import Derived.Test.YtbbeikdbioelgaaMCutsPure
import Derived.Test.YtbbeikdbioelgaaMNameL
set_option linter.unusedVariables false
set_option linter.unusedSimpArgs false
namespace Go.Proofs.Ytbbeikdbioelgaa.M
open Go.RowKit Go.Maps Go.Proofs.YtbbeikdbioelgaaW.PrintWords Go.Proofs.YtbbeikdbioelgaaW.PrintLast Go.Proofs.YtbbeikdbioelgaaW.PrintMore
/-- The bytes of a name. -/
inductive Names : List Int → Prop
  | zero : Names [0]
  | cons {n : Int} {t : ByteArray} {r : List Int} (h0 : 1 ≤ n) (h1 : n ≤ 63) (hl : (t.size : Int) = n) (h : Names r) : Names (n :: (bytesOf t ++ r))
theorem Names.pos {r : List Int} (h : Names r) : 1 ≤ r.length := by cases h <;> simp
theorem Names.byt {r : List Int} (h : Names r) : ∀ x ∈ r, 0 ≤ x ∧ x < 256 := by
  induction h with
  | zero => intro x hx; rw [List.mem_singleton.1 hx]; omega
  | cons h0 h1 hl h ih =>
    intro x hx
    rcases List.mem_cons.1 hx with rfl | hx
    · omega
    rcases List.mem_append.1 hx with hx | hx
    · unfold bytesOf at hx
      obtain ⟨b, _, rfl⟩ := List.mem_map.1 hx
      have := b.toNat_lt
      omega
    · exact ih x hx
theorem str_byt {l : List Int} (h : ∀ x ∈ l, 0 ≤ x ∧ x < 256) : bytesOf (strOfNums l) = l := by
  unfold bytesOf
  rw [strOfNums_data, List.map_map]
  induction l with
  | nil => rfl
  | cons a l ih =>
    rw [List.map_cons, ih (fun x hx => h x (by simp [hx]))]
    have := h a (by simp)
    congr 1
    simp only [Function.comp]
    rw [UInt8.toNat_ofNat']
    omega
theorem Names.split {r : List Int} (h : Names r) : ∀ (s : ByteArray) (k : Nat) (out : List ByteArray), bytesOf s = r → s.size < k → (splitF k s out).2 = true := by
  induction h with
  | zero =>
    intro s k out hs hk
    have hz : s.size = 1 := by rw [← bytesOf_length, hs]; rfl
    have h0 := bzero' s (by omega)
    rw [hs] at h0
    have h0 : nb s 0 = 0 := by have := Option.some.inj h0; omega
    obtain ⟨k, rfl⟩ : ∃ j, k = j + 1 := ⟨k - 1, by omega⟩
    unfold splitF
    rw [if_neg (by omega), if_pos h0, hz]
    rfl
  | @cons n t r h1 h2 hl h ih =>
    intro s k out hs hk
    have hz : s.size = 1 + t.size + r.length := by rw [← bytesOf_length, hs]; simp only [List.length_cons, List.length_append, bytesOf_length]; omega
    have hp := h.pos
    have h0 := bzero' s (by omega)
    rw [hs] at h0
    have h0 : n = (nb s 0 : Int) := Option.some.inj h0
    obtain ⟨k, rfl⟩ : ∃ j, k = j + 1 := ⟨k - 1, by omega⟩
    unfold splitF
    rw [if_neg (by omega), if_neg (by omega), if_neg (by omega)]
    refine ih _ _ _ ?_ (by rw [ByteArray.size_extract]; omega)
    rw [bdrop', hs, show nb s 0 + 1 = (n :: bytesOf t).length by simp only [List.length_cons, bytesOf_length]; omega, ← List.cons_append, List.drop_left]
theorem Names.is {r : List Int} (h : Names r) (hl : r.length ≤ 255) : isName (strOfNums r) = true := by
  unfold isName Go.Proofs.Ytbbeikdbioelgaa.M.split
  rw [if_neg (by rw [strOfNums_size]; omega)]
  exact h.split _ _ _ (str_byt h.byt) (by omega)
theorem nameR_names (K : Nat) : ∀ {s : ByteArray} {b : List Int} {part nx a : Int} {b' : List Int} {a' : Int}, nameR K s b part nx a = .ok (b', a') → ∃ r, b' = b ++ r ∧ Names r := by
  induction K with
  | zero => intro s b part nx a b' a' h; exact absurd h (by simp [nameR])
  | succ K ih =>
    intro s b part nx a b' a' h
    unfold nameR at h
    cases h1 : getF s a 1 with
    | none => rw [h1] at h; exact absurd h (by simp)
    | some n =>
      rw [h1] at h
      simp only [] at h
      have g1 := get1 h1
      by_cases c1 : n = 0
      · rw [if_pos c1] at h
        rw [← (Prod.mk.inj (Except.ok.inj h)).1]
        exact ⟨_, rfl, .zero⟩
      rw [if_neg c1] at h
      by_cases c2 : 191 < n
      · rw [if_pos c2] at h
        cases h2 : getF s (a + 1) 1 with
        | none => rw [h2] at h; exact absurd h (by simp)
        | some m =>
          rw [h2] at h
          simp only [] at h
          by_cases c3 : part ≤ n % 64 * 256 + m
          · rw [if_pos c3] at h; exact absurd h (by simp)
          · rw [if_neg c3] at h
            exact ih h
      rw [if_neg c2] at h
      by_cases c4 : 63 < n
      · rw [if_pos c4] at h; exact absurd h (by simp)
      rw [if_neg c4] at h
      cases h3 : partF s (a + 1) n with
      | none => rw [h3] at h; exact absurd h (by simp)
      | some l =>
        rw [h3] at h
        simp only [] at h
        by_cases c5 : 255 < (b.length : Int) + n + 2
        · rw [if_pos c5] at h; exact absurd h (by simp)
        · rw [if_neg c5] at h
          obtain ⟨r, hr, hn⟩ := ih h
          exact ⟨n :: (bytesOf l ++ r), by rw [hr]; simp, .cons (by omega) (by omega) (part_size h3).1 hn⟩
theorem name_right {s : ByteArray} {a : Int} {b : List Int} {a' : Int} (h : nameAt s a = .ok (b, a')) : isName (strOfNums b) = true := by
  have hl := name_len h
  rw [strOfNums_size] at hl
  obtain ⟨r, hr, hn⟩ := nameR_names _ h
  rw [List.nil_append] at hr
  rw [hr] at hl ⊢
  exact hn.is hl
theorem ques_right {s : ByteArray} {a : Int} {q : Ques} {a' : Int} (h : quesR s a = .ok (q, a')) : isName q.f0 = true ∧ q.f0.size ≤ 255 := by
  unfold quesR at h
  cases hn : nameAt s a with
  | error c => rw [hn] at h; exact absurd h (by simp)
  | ok x =>
    obtain ⟨b, a1⟩ := x
    rw [hn] at h
    simp only [] at h
    cases h1 : getF s a1 2 with
    | none => rw [h1] at h; exact absurd h (by simp)
    | some t =>
      rw [h1] at h
      simp only [] at h
      cases h2 : getF s (a1 + 2) 2 with
      | none => rw [h2] at h; exact absurd h (by simp)
      | some c =>
        rw [h2] at h
        rw [← (Prod.mk.inj (Except.ok.inj h)).1]
        exact ⟨name_right hn, name_len hn⟩
def RecRight (r : Rec) : Prop := checkF r = 0 ∧ Fine r ∧ r.f0.size ≤ 255
theorem rec_right {s : ByteArray} (hs : s.size ≤ 1000000) {a : Int} {r : Rec} {a' : Int} (h : recR s a = .ok (r, a')) : RecRight r := by
  unfold recR at h
  cases hn : nameAt s a with
  | error c => rw [hn] at h; exact absurd h (by simp)
  | ok x =>
    obtain ⟨b, a1⟩ := x
    rw [hn] at h
    simp only [] at h
    cases h1 : getF s a1 2 with
    | none => rw [h1] at h; exact absurd h (by simp)
    | some t =>
      rw [h1] at h
      simp only [] at h
      cases h2 : getF s (a1 + 2) 2 with
      | none => rw [h2] at h; exact absurd h (by simp)
      | some c =>
        rw [h2] at h
        simp only [] at h
        cases h3 : getF s (a1 + 2 + 2) 4 with
        | none => rw [h3] at h; exact absurd h (by simp)
        | some l =>
          rw [h3] at h
          simp only [] at h
          cases h4 : getF s (a1 + 2 + 2 + 4) 2 with
          | none => rw [h4] at h; exact absurd h (by simp)
          | some n =>
            rw [h4] at h
            simp only [] at h
            have g4 := get2 h4
            by_cases c1 : (s.size : Int) - (a1 + 2 + 2 + 4 + 2) < n
            · rw [if_pos c1] at h; exact absurd h (by simp)
            rw [if_neg c1] at h
            cases hd : dataR s t (a1 + 2 + 2 + 4 + 2 + n) (a1 + 2 + 2 + 4 + 2) with
            | error d => rw [hd] at h; exact absurd h (by simp)
            | ok x =>
              obtain ⟨⟨names, nums, texts⟩, a2⟩ := x
              rw [hd] at h
              simp only [] at h
              have hp := (dataR_all hd (by omega)).1
              by_cases c2 : checkF ⟨strOfNums b, t, c, l, names, nums, texts⟩ = 0
              · rw [if_pos c2] at h
                rw [← (Prod.mk.inj (Except.ok.inj h)).1]
                exact ⟨c2, hp.fine hs _ _ _ _, name_len hn⟩
              · rw [if_neg c2] at h
                exact absurd h (by simp)
theorem quess_right {s : ByteArray} (K : Nat) : ∀ {out : List Ques} {a : Int} {out' : List Ques} {a' : Int}, quessR s K out a = .ok (out', a') → (∀ q ∈ out, isName q.f0 = true ∧ q.f0.size ≤ 255) → (∀ q ∈ out', isName q.f0 = true ∧ q.f0.size ≤ 255) ∧ out'.length = out.length + K := by
  induction K with
  | zero =>
    intro out a out' a' h hq
    rw [← (Prod.mk.inj (Except.ok.inj h)).1]
    exact ⟨hq, rfl⟩
  | succ K ih =>
    intro out a out' a' h hq
    unfold quessR at h
    cases h1 : quesR s a with
    | error c => rw [h1] at h; exact absurd h (by simp)
    | ok x =>
      obtain ⟨q, a1⟩ := x
      rw [h1] at h
      obtain ⟨k1, k2⟩ := ih h (fun y hy => by
        rcases List.mem_append.1 hy with hy | hy
        · exact hq y hy
        · rw [List.mem_singleton.1 hy]; exact ques_right h1)
      exact ⟨k1, by rw [k2, List.length_append, List.length_singleton]; omega⟩
theorem recs_right {s : ByteArray} (hs : s.size ≤ 1000000) (K : Nat) : ∀ {out : List Rec} {a : Int} {out' : List Rec} {a' : Int}, recsR s K out a = .ok (out', a') → (∀ r ∈ out, RecRight r) → (∀ r ∈ out', RecRight r) ∧ out'.length = out.length + K := by
  induction K with
  | zero =>
    intro out a out' a' h hq
    rw [← (Prod.mk.inj (Except.ok.inj h)).1]
    exact ⟨hq, rfl⟩
  | succ K ih =>
    intro out a out' a' h hq
    unfold recsR at h
    cases h1 : recR s a with
    | error c => rw [h1] at h; exact absurd h (by simp)
    | ok x =>
      obtain ⟨q, a1⟩ := x
      rw [h1] at h
      obtain ⟨k1, k2⟩ := ih h (fun y hy => by
        rcases List.mem_append.1 hy with hy | hy
        · exact hq y hy
        · rw [List.mem_singleton.1 hy]; exact rec_right hs h1)
      exact ⟨k1, by rw [k2, List.length_append, List.length_singleton]; omega⟩
theorem cntR_right {s : ByteArray} (K : Nat) : ∀ {out : List Int} {a : Int} {out' : List Int} {a' : Int}, cntR s K out a = .ok (out', a') → (∀ x ∈ out, 0 ≤ x ∧ x ≤ 65535) → a ≤ s.size → (∀ x ∈ out', 0 ≤ x ∧ x ≤ 65535) ∧ out'.length = out.length + K ∧ a + 2 * K ≤ s.size := by
  induction K with
  | zero =>
    intro out a out' a' h hq ha
    rw [← (Prod.mk.inj (Except.ok.inj h)).1]
    exact ⟨hq, rfl, by omega⟩
  | succ K ih =>
    intro out a out' a' h hq ha
    unfold cntR at h
    cases h1 : getF s a 2 with
    | none => rw [h1] at h; exact absurd h (by simp)
    | some n =>
      rw [h1] at h
      have g := get2 h1
      obtain ⟨k1, k2, k3⟩ := ih h (fun y hy => by
        rcases List.mem_append.1 hy with hy | hy
        · exact hq y hy
        · rw [List.mem_singleton.1 hy]; omega) (by omega)
      exact ⟨k1, by rw [k2, List.length_append, List.length_singleton]; omega, by omega⟩
theorem rightLaw : RightLaw := by
  intro s m hr hs
  unfold readF at hr
  by_cases c0 : 65535 < s.size
  · rw [if_pos c0] at hr
    exact absurd (Prod.mk.inj hr).2 (by decide)
  rw [if_neg c0] at hr
  cases hm : msgR s with
  | error c =>
    rw [hm] at hr
    exact absurd (Prod.mk.inj hr).2 (msgR_err hm)
  | ok y =>
    obtain ⟨mm, e⟩ := y
    rw [hm] at hr
    obtain rfl := (Prod.mk.inj hr).1
    have h := hm
    unfold msgR at h
    cases h1 : getF s 0 2 with
    | none => rw [h1] at h; exact absurd h (by simp)
    | some id =>
      rw [h1] at h
      simp only [] at h
      cases h2 : getF s 2 2 with
      | none => rw [h2] at h; exact absurd h (by simp)
      | some fl =>
        rw [h2] at h
        simp only [] at h
        have g2 := get2 h2
        cases h3 : cntR s 4 [] 4 with
        | error c => rw [h3] at h; exact absurd h (by simp)
        | ok y =>
          obtain ⟨l, b⟩ := y
          rw [h3] at h
          obtain ⟨e1, e2, e3⟩ := cntR_right _ h3 (fun x hx => absurd hx (by simp)) (by omega)
          obtain ⟨n0, n1, n2, n3, rfl⟩ := four_nats e2 e1
          simp only [msgA] at h
          by_cases c1 : 256 < [(n0 : Int), (n1 : Int), (n2 : Int), (n3 : Int)].sum
          · rw [if_pos c1] at h; exact absurd h (by simp)
          rw [if_neg c1] at h
          simp only [List.sum_cons, List.sum_nil] at c1
          cases h4 : quessR s ([(n0 : Int), (n1 : Int), (n2 : Int), (n3 : Int)].getD 0 0).toNat [] b with
          | error c => rw [h4] at h; exact absurd h (by simp)
          | ok y =>
            obtain ⟨qs, b1⟩ := y
            rw [h4] at h
            simp only [msgB] at h
            cases h5 : recsR s ([(n0 : Int), (n1 : Int), (n2 : Int), (n3 : Int)].getD 1 0).toNat [] b1 with
            | error c => rw [h5] at h; exact absurd h (by simp)
            | ok y =>
              obtain ⟨ans, b2⟩ := y
              rw [h5] at h
              simp only [msgC] at h
              cases h6 : recsR s ([(n0 : Int), (n1 : Int), (n2 : Int), (n3 : Int)].getD 2 0).toNat [] b2 with
              | error c => rw [h6] at h; exact absurd h (by simp)
              | ok y =>
                obtain ⟨auth, b3⟩ := y
                rw [h6] at h
                simp only [msgD] at h
                cases h7 : recsR s ([(n0 : Int), (n1 : Int), (n2 : Int), (n3 : Int)].getD 3 0).toNat [] b3 with
                | error c => rw [h7] at h; exact absurd h (by simp)
                | ok y =>
                  obtain ⟨add, b4⟩ := y
                  rw [h7] at h
                  simp only [msgE] at h
                  by_cases c2 : b4 < s.size
                  · rw [if_pos c2] at h; exact absurd h (by simp)
                  rw [if_neg c2] at h
                  obtain ⟨rfl, rfl⟩ := Prod.mk.inj (Except.ok.inj h)
                  obtain ⟨p4, q4⟩ := quess_right _ h4 (fun x hx => absurd hx (by simp))
                  obtain ⟨p5, q5⟩ := recs_right (by omega) _ h5 (fun x hx => absurd hx (by simp))
                  obtain ⟨p6, q6⟩ := recs_right (by omega) _ h6 (fun x hx => absurd hx (by simp))
                  obtain ⟨p7, q7⟩ := recs_right (by omega) _ h7 (fun x hx => absurd hx (by simp))
                  have q4 : qs.length = n0 := by rw [q4]; simp
                  have q5 : ans.length = n1 := by rw [q5]; simp
                  have q6 : auth.length = n2 := by rw [q6]; simp
                  have q7 : add.length = n3 := by rw [q7]; simp
                  refine ⟨?_, by omega, by omega, p4, fun r hr => ?_⟩
                  · show qs.length + (ans ++ auth ++ add).length ≤ 256
                    rw [List.length_append, List.length_append, q4, q5, q6, q7]
                    omega
                  · have hr : r ∈ ans ++ auth ++ add := hr
                    rcases List.mem_append.1 hr with hr | hr
                    · rcases List.mem_append.1 hr with hr | hr
                      · exact p5 r hr
                      · exact p6 r hr
                    · exact p7 r hr
theorem right_all (W : World) (s : ByteArray) (hs : s.size ≤ 140737488351232) :
    Calls Try.prog 8 #[.string s] W fun e w' => e = .returned (.bool true) ∧ Below W.heap.size W w' := right_row rightLaw W s hs
end Go.Proofs.Ytbbeikdbioelgaa.M
