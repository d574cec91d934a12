/- A row of steps runs as they do one by one, up to the first that may not be, and in two parts as at once; no condition. -/
import Derived.Test.YtkaijdhnnfldkaaPStreamRunsx3
set_option linter.unusedVariables false
set_option linter.unusedSimpArgs false
namespace Go.Proofs.Ytkaijdhnnfldkaa.Pure
open Go.RowKit Go.Proofs.Ytkaijdhnnfldkaa.PStreamRuns Go.Proofs.YtkaijdhnnfldkaaW.PrintWords Go.Proofs.YtkaijdhnnfldkaaW.PrintLast
open Go.Proofs.Ytkaijdhnnfldkaa.RefNext (nx nx_out all_fifty)

theorem next_out (s e : Int) (h : ¬(0 ≤ s ∧ s ≤ 4 ∧ 1 ≤ e ∧ e ≤ 10)) (k : Nat) : stream_Next.f (k + 1) s e = some (s, 3, 0) := by
  unfold stream_Next.f
  by_cases h1 : s < 0
  · simp only [h1, if_pos, stream_Next.j0]
  · by_cases h2 : s > 4
    · simp only [h1, h2, if_pos, if_neg, stream_Next.j0, not_false_eq_true]
    · by_cases h3 : e < 1
      · simp only [h1, h2, h3, stream_Next.j0, reduceIte]
      · have h4 : e > 10 := by omega
        simp only [h1, h2, h3, h4, decide_true, stream_Next.j0, reduceIte]

theorem next_eq (s e : Int) (k : Nat) : stream_Next.f (k + 1) s e = some (nx s e) := by
  by_cases h : 0 ≤ s ∧ s ≤ 4 ∧ 1 ≤ e ∧ e ≤ 10
  · have : stream_Next.f (k + 1) s e = stream_Next.f 1 s e := by
      unfold stream_Next.f
      simp only [stream_Next.j0]
    rw [this]
    exact all_fifty (fun s e => stream_Next.f 1 s e = some (nx s e)) (by decide +kernel) s e h.1 h.2.1 h.2.2.1 h.2.2.2
  · rw [next_out s e h k, nx_out s e h]

theorem next_at (s e : Int) (k : Nat) (hk : 0 < k) : stream_Next.f k s e = some (nx s e) := by
  obtain ⟨k, rfl⟩ : ∃ q, k = q + 1 := ⟨k - 1, by omega⟩
  exact next_eq s e k

/-- A row of steps, one by one: the last state, and how many were done. -/
def runs (s : Int) : List Int → Int × Int
  | [] => (s, 0)
  | e :: t => if (nx s e).2.1 = 0 then ((runs (nx s e).1 t).1, (runs (nx s e).1 t).2 + 1) else (s, 0)

theorem runs_bounds (l : List Int) : ∀ s, 0 ≤ (runs s l).2 ∧ (runs s l).2 ≤ (l.length : Int) := by
  induction l with
  | nil => intro s; simp [runs]
  | cons e t ih =>
    intro s
    simp only [runs]
    split
    · have := ih (nx s e).1
      simp only [List.length_cons]
      omega
    · simp only [List.length_cons]
      omega

theorem runs_app (a b : List Int) : ∀ s, ((runs s a).2 < (a.length : Int) → runs s (a ++ b) = runs s a) ∧ (¬ (runs s a).2 < (a.length : Int) → runs s (a ++ b) = ((runs (runs s a).1 b).1, (a.length : Int) + (runs (runs s a).1 b).2)) := by
  induction a with
  | nil => intro s; simp [runs]
  | cons e t ih =>
    intro s
    obtain ⟨h1, h2⟩ := ih (nx s e).1
    simp only [runs, List.cons_append]
    by_cases hz : (nx s e).2.1 = 0
    · rw [if_pos hz, if_pos hz]
      constructor
      · intro hlt
        simp only [List.length_cons] at hlt
        rw [h1 (by omega)]
      · intro hge
        simp only [List.length_cons] at hge
        rw [h2 (by omega)]
        simp only [List.length_cons, Prod.mk.injEq, true_and]
        omega
    · rw [if_neg hz, if_neg hz]
      constructor
      · intro _; rfl
      · intro hge
        exact absurd (by simp only [List.length_cons]; omega) hge

theorem drop_cons (l : List Int) (i : Int) (h0 : 0 ≤ i) (h : i < (l.length : Int)) : l.drop i.toNat = rd l i :: l.drop (i + 1).toNat := by
  have hl : i.toNat < l.length := by omega
  rw [List.drop_eq_getElem_cons hl, show (i + 1).toNat = i.toNat + 1 by omega]
  unfold rd
  rw [List.getD_eq_getElem?_getD, List.getElem?_eq_getElem hl, Option.getD_some]

theorem wrap_next {i : Int} {n : Nat} (h0 : 0 ≤ i) (h : i < (n : Int)) (hn : (n : Int) ≤ 2000) : wrap64 (i + 1) = i + 1 := by
  unfold wrap64
  omega

theorem run_tells (l : List Int) (hn : (l.length : Int) ≤ 2000) (m : Nat) : ∀ (k : Nat) (s i : Int), 0 ≤ i → i ≤ (l.length : Int) → (l.length : Int) - i = m → m + 1 < k →
    stream_Run.l0 k s l l (l.length : Int) i = some ((runs s (l.drop i.toNat)).1, i + (runs s (l.drop i.toNat)).2) := by
  induction m with
  | zero =>
    intro k s i h0 h1 hm hk
    obtain ⟨k, rfl⟩ : ∃ q, k = q + 1 := ⟨k - 1, by omega⟩
    simp only [stream_Run.l0]
    rw [if_neg (by omega), List.drop_of_length_le (by omega)]
    simp only [runs, Option.some.injEq, Prod.mk.injEq, true_and]
    omega
  | succ m ih =>
    intro k s i h0 h1 hm hk
    obtain ⟨k, rfl⟩ : ∃ q, k = q + 1 := ⟨k - 1, by omega⟩
    have hlt : i < (l.length : Int) := by omega
    rw [drop_cons l i h0 hlt]
    simp only [stream_Run.l0, runs]
    rw [if_pos hlt, if_pos h0, if_pos hlt, next_at _ _ k (by omega)]
    simp only [Option.bind_some]
    by_cases hz : (nx s (rd l i)).2.1 = 0
    · rw [if_pos hz, if_pos hz, wrap_next h0 hlt hn, ih k _ (i + 1) (by omega) (by omega) (by omega) (by omega)]
      simp only [Option.some.injEq, Prod.mk.injEq, true_and]
      omega
    · rw [if_neg hz, if_neg hz]
      simp

theorem run_all (l : List Int) (hn : (l.length : Int) ≤ 2000) (s : Int) (k : Nat) (hk : 2002 ≤ k) : stream_Run.f k s l = some (runs s l) := by
  unfold stream_Run.f
  rw [run_tells l hn l.length k s 0 (by omega) (by omega) (by omega) (by omega)]
  simp

theorem steps_tells (l : List Int) (hn : (l.length : Int) ≤ 2000) (m : Nat) : ∀ (k : Nat) (i : Int), 0 ≤ i → i ≤ (l.length : Int) → (l.length : Int) - i = m → m < k →
    nunciolaw18_steps.l0 k l (l.take i.toNat) i = some l := by
  induction m with
  | zero =>
    intro k i h0 h1 hm hk
    obtain ⟨k, rfl⟩ : ∃ q, k = q + 1 := ⟨k - 1, by omega⟩
    simp only [nunciolaw18_steps.l0]
    rw [if_neg (by omega), List.take_of_length_le (by omega)]
  | succ m ih =>
    intro k i h0 h1 hm hk
    obtain ⟨k, rfl⟩ : ∃ q, k = q + 1 := ⟨k - 1, by omega⟩
    have hlt : i < (l.length : Int) := by omega
    have hl : i.toNat < l.length := by omega
    simp only [nunciolaw18_steps.l0]
    have ht : l.take i.toNat ++ [rd l i] = l.take (i + 1).toNat := by
      rw [show (i + 1).toNat = i.toNat + 1 by omega, List.take_succ_eq_append_getElem hl]
      unfold rd
      rw [List.getD_eq_getElem?_getD, List.getElem?_eq_getElem hl, Option.getD_some]
    rw [if_pos hlt, if_pos h0, if_pos (by rw [List.length_take]; omega), ht, wrap_next h0 hlt hn]
    exact ih k (i + 1) (by omega) (by omega) (by omega) (by omega)

theorem steps_all (l : List Int) (hn : (l.length : Int) ≤ 2000) (k : Nat) (hk : 2001 ≤ k) : nunciolaw18_steps.f k l = some l := by
  unfold nunciolaw18_steps.f
  exact steps_tells l hn l.length k 0 (by omega) (by omega) (by omega) (by omega)

theorem cut_ok (s : Int) (l : List Int) (hn : (l.length : Int) ≤ 2000) (c : Int) (k : Nat) (hk : 2010 ≤ k) :
    nunciolaw18_StreamRuns.j1 k s l c (runs s l).1 (runs s l).2 (runs s l).1 (runs s l).2 = some true := by
  obtain ⟨k, rfl⟩ : ∃ q, k = q + 1 + 1 + 1 := ⟨k - 3, by omega⟩
  simp only [nunciolaw18_StreamRuns.j1]
  rw [if_pos trivial]
  simp only [bne_self_eq_false, nunciolaw18_StreamRuns.j2]
  rw [if_neg (by simp)]
  by_cases h0 : c < 0
  · rw [if_pos h0]
    simp [nunciolaw18_StreamRuns.j3]
  · rw [if_neg h0]
    by_cases h1 : c > (l.length : Int)
    · simp [h1, nunciolaw18_StreamRuns.j3]
    · simp only [h1, decide_false, nunciolaw18_StreamRuns.j3]
      have ht : ((l.take c.toNat).length : Int) = c := by rw [List.length_take]; omega
      have hd : ((l.drop c.toNat).length : Int) = (l.length : Int) - c := by rw [List.length_drop]; omega
      rw [if_neg (by simp), if_pos (by omega), if_pos (by omega), steps_all _ (by omega) k (by omega)]
      simp only [Option.bind_some]
      rw [run_all _ (by omega) s k (by omega)]
      simp only [Option.bind_some]
      obtain ⟨a1, a2⟩ := runs_app (l.take c.toNat) (l.drop c.toNat) s
      rw [List.take_append_drop, ht] at a1 a2
      by_cases hlt : (runs s (l.take c.toNat)).2 < c
      · rw [if_pos hlt, if_pos (by rw [a1 hlt]), a1 hlt]
        simp
      · rw [if_neg hlt, steps_all _ (by omega) k (by omega)]
        simp only [Option.bind_some]
        rw [run_all _ (by omega) _ k (by omega)]
        simp only [Option.bind_some]
        have hb := runs_bounds (l.drop c.toNat) (runs s (l.take c.toNat)).1
        have hw : wrap64 (c + (runs (runs s (l.take c.toNat)).1 (l.drop c.toNat)).2) = c + (runs (runs s (l.take c.toNat)).1 (l.drop c.toNat)).2 := by
          unfold wrap64
          omega
        rw [if_pos (by rw [a2 hlt]), hw, a2 hlt]
        simp

theorem law_tells (s0 c : Int) (l : List Int) (hn : (l.length : Int) ≤ 2000) (m : Nat) : ∀ (k : Nat) (s i : Int), 0 ≤ i → i ≤ (l.length : Int) → (l.length : Int) - i = m → m + 2100 < k →
    (runs s (l.drop i.toNat)).1 = (runs s0 l).1 → i + (runs s (l.drop i.toNat)).2 = (runs s0 l).2 →
    nunciolaw18_StreamRuns.l0 k s0 l c (runs s0 l).1 (runs s0 l).2 s i = some true := by
  induction m with
  | zero =>
    intro k s i h0 h1 hm hk e1 e2
    obtain ⟨k, rfl⟩ : ∃ q, k = q + 1 := ⟨k - 1, by omega⟩
    rw [List.drop_of_length_le (by omega)] at e1 e2
    simp only [runs] at e1 e2
    simp only [nunciolaw18_StreamRuns.l0]
    rw [if_neg (by omega)]
    have e3 : i = (runs s0 l).2 := by omega
    have := cut_ok s0 l hn c k (by omega)
    rw [← e1, ← e3] at this
    rw [← e1, ← e3]
    exact this
  | succ m ih =>
    intro k s i h0 h1 hm hk e1 e2
    obtain ⟨k, rfl⟩ : ∃ q, k = q + 1 := ⟨k - 1, by omega⟩
    have hlt : i < (l.length : Int) := by omega
    rw [drop_cons l i h0 hlt] at e1 e2
    simp only [runs] at e1 e2
    simp only [nunciolaw18_StreamRuns.l0]
    rw [if_pos hlt, if_pos h0, at_rounds (nuncioref18_Next.mono s (rd l i)) (show 9 ≤ k by omega) (ref_pure s (rd l i))]
    simp only [Option.bind_some]
    by_cases hz : (nx s (rd l i)).2.1 = 0
    · rw [if_pos hz] at e1 e2
      rw [if_pos hz, wrap_next h0 hlt hn]
      exact ih k _ (i + 1) (by omega) (by omega) (by omega) (by omega) e1 (by simp only at e2; omega)
    · rw [if_neg hz] at e1 e2
      rw [if_neg hz]
      simp only at e1 e2
      have e3 : i = (runs s0 l).2 := by omega
      have := cut_ok s0 l hn c k (by omega)
      rw [← e1, ← e3] at this
      rw [← e1, ← e3]
      exact this

theorem StreamRuns : nunciolaw18_StreamRuns.Pure := by
  intro s l c _ _ _ _ _
  refine ⟨5000, ?_⟩
  unfold nunciolaw18_StreamRuns.f
  rw [at_rounds nunciolaw18_awake.mono (show 10 ≤ 5000 by omega) (show nunciolaw18_awake.f 10 = some true by decide +kernel)]
  simp only [Option.bind_some, if_true]
  by_cases h : (l.length : Int) > 2000
  · rw [if_pos h]
  · rw [if_neg h, steps_all l (by omega) 5000 (by omega)]
    simp only [Option.bind_some]
    rw [run_all l (by omega) s 5000 (by omega)]
    simp only [Option.bind_some]
    exact law_tells s c l (by omega) l.length 5000 s 0 (by omega) (by omega) (by omega) (by omega) (by simp) (by simp)

end Go.Proofs.Ytkaijdhnnfldkaa.Pure
