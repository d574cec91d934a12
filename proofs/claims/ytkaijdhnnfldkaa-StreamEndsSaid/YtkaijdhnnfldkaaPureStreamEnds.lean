/- A closed stream stays closed, who has ended sends no more, a reset closes: for every row of steps; no condition. -/
import Derived.Test.YtkaijdhnnfldkaaPStreamEndsx2
set_option linter.unusedVariables false
set_option linter.unusedSimpArgs false
namespace Go.Proofs.Ytkaijdhnnfldkaa.Pure
open Go.RowKit Go.Proofs.Ytkaijdhnnfldkaa.PStreamEnds Go.Proofs.YtkaijdhnnfldkaaW.PrintWords Go.Proofs.YtkaijdhnnfldkaaW.PrintLast

/-- The table of the five states and ten steps. -/
def tbl : List (Int × Int × Int) := [(1, 0, 0), (3, 0, 0), (0, 2, 1), (0, 2, 1), (0, 2, 1), (1, 0, 0), (2, 0, 0), (0, 3, 0), (0, 3, 0), (0, 3, 0), (1, 0, 0), (3, 0, 0), (1, 0, 0), (3, 0, 0), (4, 0, 0), (1, 0, 0), (2, 0, 0), (1, 0, 0), (2, 0, 0), (4, 0, 0), (2, 0, 0), (4, 0, 0), (2, 0, 0), (4, 0, 0), (4, 0, 0), (2, 3, 0), (2, 3, 0), (2, 3, 0), (2, 3, 0), (4, 0, 0), (3, 1, 5), (3, 1, 5), (3, 1, 5), (3, 1, 5), (4, 0, 0), (3, 0, 0), (4, 0, 0), (3, 0, 0), (4, 0, 0), (4, 0, 0), (4, 2, 5), (4, 2, 5), (4, 2, 5), (4, 2, 5), (4, 0, 0), (4, 3, 0), (4, 3, 0), (4, 3, 0), (4, 3, 0), (4, 3, 0)]

/-- The state behind a step, its scope and its code. -/
def nx (s e : Int) : Int × Int × Int := if 0 ≤ s ∧ s ≤ 4 ∧ 1 ≤ e ∧ e ≤ 10 then tbl.getD (s * 10 + e - 1).toNat (0, 0, 0) else (s, 3, 0)

theorem nx_out (s e : Int) (h : ¬(0 ≤ s ∧ s ≤ 4 ∧ 1 ≤ e ∧ e ≤ 10)) : nx s e = (s, 3, 0) := by
  unfold nx
  rw [if_neg h]

theorem next_out (s e : Int) (h : ¬(0 ≤ s ∧ s ≤ 4 ∧ 1 ≤ e ∧ e ≤ 10)) (k : Nat) : stream_Next.f (k + 1) s e = some (s, 3, 0) := by
  unfold stream_Next.f
  by_cases h1 : s < 0
  · simp only [h1, if_pos, stream_Next.j0]
  · by_cases h2 : s > 4
    · simp only [h1, h2, if_pos, if_neg, stream_Next.j0, not_false_eq_true]
    · by_cases h3 : e < 1
      · simp only [h1, h2, h3, stream_Next.j0, reduceIte]
      · have h4 : e > 10 := by omega
        simp only [h1, h2, h3, h4, decide_true, stream_Next.j0, reduceIte]

theorem five {s : Int} (h0 : 0 ≤ s) (h : s ≤ 4) : s = 0 ∨ s = 1 ∨ s = 2 ∨ s = 3 ∨ s = 4 := by omega
theorem ten {e : Int} (h0 : 1 ≤ e) (h : e ≤ 10) : e = 1 ∨ e = 2 ∨ e = 3 ∨ e = 4 ∨ e = 5 ∨ e = 6 ∨ e = 7 ∨ e = 8 ∨ e = 9 ∨ e = 10 := by omega

theorem all_fifty (P : Int → Int → Prop) (h : ∀ s ∈ ([0, 1, 2, 3, 4] : List Int), ∀ e ∈ ([1, 2, 3, 4, 5, 6, 7, 8, 9, 10] : List Int), P s e) (s e : Int) (h0 : 0 ≤ s) (h1 : s ≤ 4) (h2 : 1 ≤ e) (h3 : e ≤ 10) : P s e := by
  rcases five h0 h1 with rfl | rfl | rfl | rfl | rfl <;> rcases ten h2 h3 with rfl | rfl | rfl | rfl | rfl | rfl | rfl | rfl | rfl | rfl <;> exact h _ (by decide) _ (by decide)

theorem next_one (s e : Int) (k : Nat) : stream_Next.f (k + 1) s e = stream_Next.f 1 s e := by
  unfold stream_Next.f
  simp only [stream_Next.j0]

theorem next_eq (s e : Int) (k : Nat) : stream_Next.f (k + 1) s e = some (nx s e) := by
  by_cases h : 0 ≤ s ∧ s ≤ 4 ∧ 1 ≤ e ∧ e ≤ 10
  · rw [next_one]
    exact all_fifty (fun s e => stream_Next.f 1 s e = some (nx s e)) (by decide +kernel) s e h.1 h.2.1 h.2.2.1 h.2.2.2
  · rw [next_out s e h k, nx_out s e h]

theorem nx_stays (s e : Int) (h0 : 0 ≤ s) (h1 : s ≤ 4) : 0 ≤ (nx s e).1 ∧ (nx s e).1 ≤ 4 := by
  by_cases h : 0 ≤ s ∧ s ≤ 4 ∧ 1 ≤ e ∧ e ≤ 10
  · exact all_fifty (fun s e => 0 ≤ (nx s e).1 ∧ (nx s e).1 ≤ 4) (by decide +kernel) s e h.1 h.2.1 h.2.2.1 h.2.2.2
  · rw [nx_out s e h]; exact ⟨h0, h1⟩

theorem wrap_next {i : Int} {n : Nat} (h0 : 0 ≤ i) (h : i < (n : Int)) (hn : (n : Int) ≤ 2000) : wrap64 (i + 1) = i + 1 := by
  unfold wrap64
  omega

/-- Has this side ended, behind a step? -/
def nd (d : Bool) (scope e : Int) : Bool := d || (decide (scope = 0) && (decide (e = 7) || decide (e = 9) || decide (e = 10)))

theorem j1_goes (d : Bool) (e next scope : Int) (h1 : d = true → scope = 0 → ¬(6 ≤ e ∧ e ≤ 9)) (h2 : scope = 0 → (e = 5 ∨ e = 10) → next = 4) (k : Nat) (l : List Int) (i : Int) :
    nunciolaw18_StreamEnds.j1 (k + 4) l d i e next scope false = nunciolaw18_StreamEnds.l0 k l next (nd d scope e) (wrap64 (i + 1)) := by
  by_cases hs : scope = 0
  · by_cases e5 : e = 5
    · have h4 := h2 hs (.inl e5)
      subst hs; subst e5; subst h4
      cases d <;> simp [nunciolaw18_StreamEnds.j1, nunciolaw18_StreamEnds.j2, nunciolaw18_StreamEnds.j3, nunciolaw18_StreamEnds.j4, nd]
    · by_cases e10 : e = 10
      · have h4 := h2 hs (.inr e10)
        subst hs; subst e10; subst h4
        cases d <;> simp [nunciolaw18_StreamEnds.j1, nunciolaw18_StreamEnds.j2, nunciolaw18_StreamEnds.j3, nunciolaw18_StreamEnds.j4, nd]
      · clear h2
        subst hs
        cases d with
        | true =>
          have h1 := h1 rfl rfl
          by_cases e6 : e ≥ 6
          · have e9 : ¬ e ≤ 9 := by omega
            have e9' : ¬ e = 9 := by omega
            have e7 : ¬ e = 7 := by omega
            simp [nunciolaw18_StreamEnds.j1, nunciolaw18_StreamEnds.j2, nunciolaw18_StreamEnds.j3, nunciolaw18_StreamEnds.j4, nd, e5, e10, e6, e7, e9, e9']
          · have e9' : ¬ e = 9 := by omega
            have e7 : ¬ e = 7 := by omega
            simp [nunciolaw18_StreamEnds.j1, nunciolaw18_StreamEnds.j2, nunciolaw18_StreamEnds.j3, nunciolaw18_StreamEnds.j4, nd, e5, e10, e6, e7, e9']
        | false =>
          by_cases e6 : e ≥ 6 <;> by_cases e7 : e = 7 <;> by_cases e9 : e = 9 <;> simp [nunciolaw18_StreamEnds.j1, nunciolaw18_StreamEnds.j2, nunciolaw18_StreamEnds.j3, nunciolaw18_StreamEnds.j4, nd, e5, e10, e6, e7, e9]
  · cases d <;> by_cases e5 : e = 5 <;> by_cases e10 : e = 10 <;> by_cases e6 : e ≥ 6 <;> simp [nunciolaw18_StreamEnds.j1, nunciolaw18_StreamEnds.j2, nunciolaw18_StreamEnds.j3, nunciolaw18_StreamEnds.j4, nd, hs, e5, e10, e6]

theorem round_ends (s e : Int) (d : Bool) (h0 : 0 ≤ s) (h1 : s ≤ 4) (hd : d = true → s = 2 ∨ s = 4) :
    (s = 4 → (nx s e).1 = 4) ∧ (d = true → (nx s e).2.1 = 0 → ¬(6 ≤ e ∧ e ≤ 9)) ∧ ((nx s e).2.1 = 0 → (e = 5 ∨ e = 10) → (nx s e).1 = 4) ∧ (nd d (nx s e).2.1 e = true → (nx s e).1 = 2 ∨ (nx s e).1 = 4) := by
  by_cases h : 0 ≤ s ∧ s ≤ 4 ∧ 1 ≤ e ∧ e ≤ 10
  · revert hd
    cases d
    · exact all_fifty (fun s e => (false = true → s = 2 ∨ s = 4) → (s = 4 → (nx s e).1 = 4) ∧ (false = true → (nx s e).2.1 = 0 → ¬(6 ≤ e ∧ e ≤ 9)) ∧ ((nx s e).2.1 = 0 → (e = 5 ∨ e = 10) → (nx s e).1 = 4) ∧ (nd false (nx s e).2.1 e = true → (nx s e).1 = 2 ∨ (nx s e).1 = 4)) (by decide +kernel) s e h.1 h.2.1 h.2.2.1 h.2.2.2
    · exact all_fifty (fun s e => (true = true → s = 2 ∨ s = 4) → (s = 4 → (nx s e).1 = 4) ∧ (true = true → (nx s e).2.1 = 0 → ¬(6 ≤ e ∧ e ≤ 9)) ∧ ((nx s e).2.1 = 0 → (e = 5 ∨ e = 10) → (nx s e).1 = 4) ∧ (nd true (nx s e).2.1 e = true → (nx s e).1 = 2 ∨ (nx s e).1 = 4)) (by decide +kernel) s e h.1 h.2.1 h.2.2.1 h.2.2.2
  · rw [nx_out s e h]
    refine ⟨fun h => h, fun _ h => absurd h (by simp), fun h => absurd h (by simp), fun h => hd ?_⟩
    unfold nd at h
    simpa using h

theorem ends_tells (l : List Int) (hn : (l.length : Int) ≤ 2000) (m : Nat) : ∀ (k : Nat) (s i : Int) (d : Bool), 0 ≤ s → s ≤ 4 → (d = true → s = 2 ∨ s = 4) → 0 ≤ i → (l.length : Int) - i ≤ m → 6 * m < k →
    nunciolaw18_StreamEnds.l0 k l s d i = some true := by
  induction m with
  | zero =>
    intro k s i d h0 h1 hd hi hm hk
    obtain ⟨k, rfl⟩ : ∃ q, k = q + 1 := ⟨k - 1, by omega⟩
    simp only [nunciolaw18_StreamEnds.l0]
    rw [if_neg (by omega), if_pos h0]
    simp [h1]
  | succ m ih =>
    intro k s i d h0 h1 hd hi hm hk
    by_cases hlt : i < (l.length : Int)
    · obtain ⟨k, rfl⟩ : ∃ q, k = q + 4 + 1 := ⟨k - 5, by omega⟩
      obtain ⟨g0, g1, g2, g3⟩ := round_ends s (rd l i) d h0 h1 hd
      obtain ⟨t0, t1⟩ := nx_stays s (rd l i) h0 h1
      simp only [nunciolaw18_StreamEnds.l0]
      rw [if_pos hlt, if_pos hi, next_eq s (rd l i) (k + 3)]
      simp only [Option.bind_some]
      have hb : ((nx s (rd l i)).1 != 4) = false ∨ ¬ s = 4 := by
        by_cases hs : s = 4
        · exact .inl (by rw [g0 hs]; rfl)
        · exact .inr hs
      have hj := j1_goes d (rd l i) (nx s (rd l i)).1 (nx s (rd l i)).2.1 g1 g2 k l i
      have hr := ih k _ _ _ t0 t1 g3 (show 0 ≤ i + 1 by omega) (by omega) (by omega)
      rw [wrap_next hi hlt hn, hr] at hj
      by_cases hs : s = 4
      · rw [if_pos hs]
        rcases hb with hb | hb
        · rw [hb]; exact hj
        · exact absurd hs hb
      · rw [if_neg hs]; exact hj
    · obtain ⟨k, rfl⟩ : ∃ q, k = q + 1 := ⟨k - 1, by omega⟩
      simp only [nunciolaw18_StreamEnds.l0]
      rw [if_neg hlt, if_pos h0]
      simp [h1]

theorem awake_true : nunciolaw18_awake.f 10 = some true := by decide +kernel

theorem StreamEnds : nunciolaw18_StreamEnds.Pure := by
  intro l _ _ _
  refine ⟨13000, ?_⟩
  unfold nunciolaw18_StreamEnds.f
  rw [at_rounds nunciolaw18_awake.mono (show 10 ≤ 13000 by omega) awake_true]
  simp only [Option.bind_some, if_true]
  by_cases h : (l.length : Int) > 2000
  · rw [if_pos h]
  · rw [if_neg h]
    exact ends_tells l (by omega) 2000 13000 0 0 false (by omega) (by omega) (by simp) (by omega) (by omega) (by omega)

end Go.Proofs.Ytkaijdhnnfldkaa.Pure
