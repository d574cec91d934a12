/- Two sides whose states are mirrors stay so, whatever they send one another; no condition. The pure part. -/
import Derived.Test.YtkaijdhnnfldkaaPStreamMirrorsx2
import Derived.Test.YtkaijdhnnfldkaaRefNext
set_option linter.unusedVariables false
set_option linter.unusedSimpArgs false
namespace Go.Proofs.Ytkaijdhnnfldkaa.Pure
open Go.RowKit Go.Proofs.Ytkaijdhnnfldkaa.PStreamMirrors Go.Proofs.YtkaijdhnnfldkaaW.PrintWords Go.Proofs.YtkaijdhnnfldkaaW.PrintLast
open Go.Proofs.Ytkaijdhnnfldkaa.RefNext (nx nx_out all_fifty mir ovr)

theorem next_out (s e : Int) (h : ¬(0 ≤ s ∧ s ≤ 4 ∧ 1 ≤ e ∧ e ≤ 10)) (k : Nat) : stream_Next.f (k + 1) s e = some (s, 3, 0) := by
  unfold stream_Next.f
  by_cases h1 : s < 0
  · simp only [h1, if_pos, stream_Next.j0]
  · by_cases h2 : s > 4
    · simp only [h1, h2, if_pos, if_neg, stream_Next.j0, not_false_eq_true]
    · by_cases h3 : e < 1
      · simp only [h1, h2, h3, stream_Next.j0, reduceIte]
      · have h4 : e > 10 := by omega
        simp only [h1, h2, h3, h4, decide_true, stream_Next.j0, reduceIte]

theorem next_at (s e : Int) (k : Nat) (hk : 0 < k) : stream_Next.f k s e = some (nx s e) := by
  obtain ⟨k, rfl⟩ : ∃ q, k = q + 1 := ⟨k - 1, by omega⟩
  by_cases h : 0 ≤ s ∧ s ≤ 4 ∧ 1 ≤ e ∧ e ≤ 10
  · have : stream_Next.f (k + 1) s e = stream_Next.f 1 s e := by
      unfold stream_Next.f
      simp only [stream_Next.j0]
    rw [this]
    exact all_fifty (fun s e => stream_Next.f 1 s e = some (nx s e)) (by decide +kernel) s e h.1 h.2.1 h.2.2.1 h.2.2.2
  · rw [next_out s e h k, nx_out s e h]

theorem mirror_at (s : Int) : stream_Mirror.f s = some (mir s) := by unfold stream_Mirror.f mir; split <;> (try split) <;> rfl

theorem over_at (e : Int) : stream_Over.f e = some (ovr e) := by
  unfold stream_Over.f ovr
  by_cases h1 : e < 6
  · rw [if_pos h1, if_neg (by omega)]
  · rw [if_neg h1]
    by_cases h2 : e > 10
    · rw [if_pos h2, if_neg (by omega)]
    · rw [if_neg h2, if_pos (by omega)]
      congr 1
      unfold wrap64
      omega

theorem mir_mir (s : Int) : mir (mir s) = s := by
  unfold mir
  by_cases h2 : s = 2
  · subst h2; decide
  · by_cases h3 : s = 3
    · subst h3; decide
    · rw [if_neg h2, if_neg h3, if_neg h2, if_neg h3]

theorem mir_stays (s : Int) (h0 : 0 ≤ s) (h1 : s ≤ 4) : 0 ≤ mir s ∧ mir s ≤ 4 := by
  unfold mir
  split
  · omega
  · split <;> omega

/-- What one may send, the mirror may take. -/
theorem sent (s e : Int) (h0 : 0 ≤ s) (h1 : s ≤ 4) (ho : ovr e ≠ 0) : 0 ≤ (nx s e).1 ∧ (nx s e).1 ≤ 4 ∧ ((nx s e).2.1 ≠ 0 → (nx s e).1 = s) ∧ ((nx s e).2.1 = 0 → (nx (mir s) (ovr e)).2.1 = 0 ∧ (nx (mir s) (ovr e)).1 = mir (nx s e).1) := by
  have he : 6 ≤ e ∧ e ≤ 10 := by
    unfold ovr at ho
    by_cases h : 6 ≤ e ∧ e ≤ 10
    · exact h
    · rw [if_neg h] at ho; exact absurd rfl ho
  have := all_fifty (fun s e => 6 ≤ e → 0 ≤ (nx s e).1 ∧ (nx s e).1 ≤ 4 ∧ ((nx s e).2.1 ≠ 0 → (nx s e).1 = s) ∧ ((nx s e).2.1 = 0 → (nx (mir s) (ovr e)).2.1 = 0 ∧ (nx (mir s) (ovr e)).1 = mir (nx s e).1)) (by decide +kernel) s e h0 h1 (by omega) he.2
  exact this he.1

theorem wrap_next {i : Int} {n : Nat} (h0 : 0 ≤ i) (h : i < (n : Int)) (hn : (n : Int) ≤ 2000) : wrap64 (i + 1) = i + 1 := by
  unfold wrap64
  omega

/-- One round, from the side that sends. -/
theorem round_j2 (l : List Int) (u : List Bool) (hn : (l.length : Int) ≤ 2000) (k : Nat) (hk : 2 < k) (i a b x y : Int) (m : Bool) (h0 : 0 ≤ i) (hlt : i < (l.length : Int))
    (hx0 : 0 ≤ x) (hx1 : x ≤ 4) (hy : y = mir x)
    (hgo : nunciolaw18_StreamMirrors.l0 (k - 1) l u a b (i + 1) = some true)
    (hto : ∀ n, 0 ≤ n → n ≤ 4 → nunciolaw18_StreamMirrors.j3 (k - 1) l u i m n (mir n) false = some true) :
    nunciolaw18_StreamMirrors.j2 k l u a b i m x y = some true := by
  obtain ⟨k, rfl⟩ : ∃ q, k = q + 1 := ⟨k - 1, by omega⟩
  rw [Nat.add_sub_cancel] at hgo hto
  simp only [nunciolaw18_StreamMirrors.j2]
  rw [if_pos h0, if_pos hlt, over_at]
  simp only [Option.bind_some]
  by_cases ho : ovr (rd l i) = 0
  · rw [if_pos ho, wrap_next h0 hlt hn]
    exact hgo
  · rw [if_neg ho, next_at _ _ k (by omega)]
    simp only [Option.bind_some]
    obtain ⟨g0, g1, g2, g3⟩ := sent x (rd l i) hx0 hx1 ho
    by_cases hz : (nx x (rd l i)).2.1 = 0
    · rw [if_pos hz, next_at _ _ k (by omega)]
      obtain ⟨g4, g5⟩ := g3 hz
      simp only [Option.bind_some]
      rw [hy, if_pos g4, mirror_at]
      simp only [Option.bind_some]
      rw [g5, bne_self_eq_false]
      exact hto _ g0 g1
    · rw [if_neg hz, if_pos (g2 hz), wrap_next h0 hlt hn]
      exact hgo

theorem mirrors_tell (l : List Int) (u : List Bool) (hn : (l.length : Int) ≤ 2000) (m : Nat) : ∀ (k : Nat) (a b i : Int), 0 ≤ b → b ≤ 4 → a = mir b → 0 ≤ i → (l.length : Int) - i ≤ m → 5 * m < k →
    nunciolaw18_StreamMirrors.l0 k l u a b i = some true := by
  induction m with
  | zero =>
    intro k a b i h0 h1 hab hi hm hk
    obtain ⟨k, rfl⟩ : ∃ q, k = q + 1 := ⟨k - 1, by omega⟩
    simp only [nunciolaw18_StreamMirrors.l0]
    rw [if_neg (by omega), mirror_at, hab]
    simp
  | succ m ih =>
    intro k a b i h0 h1 hab hi hm hk
    by_cases hlt : i < (l.length : Int)
    · obtain ⟨k, rfl⟩ : ∃ q, k = q + 1 := ⟨k - 1, by omega⟩
      simp only [nunciolaw18_StreamMirrors.l0]
      rw [if_pos hlt]
      obtain ⟨ma0, ma1⟩ := mir_stays b h0 h1
      have key : ∀ w : Bool, nunciolaw18_StreamMirrors.j1 k l u a b i w = some true := by
        intro w
        obtain ⟨k, rfl⟩ : ∃ q, k = q + 1 := ⟨k - 1, by omega⟩
        have hj3 : ∀ n, 0 ≤ n → n ≤ 4 → nunciolaw18_StreamMirrors.j3 (k - 1) l u i w n (mir n) false = some true := by
          intro n n0 n1
          obtain ⟨k, rfl⟩ : ∃ q, k = q + 1 + 1 := ⟨k - 2, by omega⟩
          rw [show k + 1 + 1 - 1 = k + 1 by omega]
          simp only [nunciolaw18_StreamMirrors.j3]
          rw [if_neg (by simp), wrap_next hi hlt hn]
          obtain ⟨p0, p1⟩ := mir_stays n n0 n1
          split
          · exact ih k n (mir n) (i + 1) p0 p1 (mir_mir n).symm (by omega) (by omega) (by omega)
          · exact ih k (mir n) n (i + 1) n0 n1 rfl (by omega) (by omega) (by omega)
        have hgo := ih (k - 1) a b (i + 1) h0 h1 hab (by omega) (by omega) (by omega)
        simp only [nunciolaw18_StreamMirrors.j1]
        split
        · exact round_j2 l u hn k (by omega) i a b a b w hi hlt (by rw [hab]; exact ma0) (by rw [hab]; exact ma1) (by rw [hab, mir_mir]) hgo hj3
        · exact round_j2 l u hn k (by omega) i a b b a w hi hlt h0 h1 hab hgo hj3
      by_cases hu : i < (u.length : Int)
      · rw [if_pos hu, if_pos hi]; exact key _
      · rw [if_neg hu]; exact key _
    · obtain ⟨k, rfl⟩ : ∃ q, k = q + 1 := ⟨k - 1, by omega⟩
      simp only [nunciolaw18_StreamMirrors.l0]
      rw [if_neg hlt, mirror_at, hab]
      simp

theorem StreamMirrors (l : List Int) (u : List Bool) : nunciolaw18_StreamMirrors.f 10010 l u = some true := by
  unfold nunciolaw18_StreamMirrors.f
  rw [at_rounds nunciolaw18_awake.mono (show 10 ≤ 10010 by omega) (show nunciolaw18_awake.f 10 = some true by decide +kernel)]
  simp only [Option.bind_some, if_true]
  by_cases h : (l.length : Int) > 2000
  · rw [if_pos h]
  · rw [if_neg h]
    exact mirrors_tell l u (by omega) 2000 10010 0 0 0 (by omega) (by omega) (by decide) (by omega) (by omega) (by omega)

theorem mirrors_walk (w0 : World) (A0 : Option Addr) (c0 : Nat) (l : List Int) (hr0 : Kd.C (Kd.int .i64) w0 A0 l.length l) (hc0 : l.length ≤ c0) (_ : l.length ≤ maxLen) (_ : ∀ x ∈ l, (Lit.int .i64 x).wf = true) (_ : l.length * 8 ≤ 140737488351232)
    (A1 : Option Addr) (c1 : Nat) (u : List Bool) (hr1 : Kd.C Kd.bool w0 A1 u.length u) (hc1 : u.length ≤ c1) :
    Calls Try.prog 6 #[.slice A0 l.length c0, .slice A1 u.length c1] w0 fun e w' => e = .returned (.bool true) ∧ Below w0.heap.size w0 w' := by
  exact nunciolaw18_StreamMirrors.calls 10010 A0 c0 l A1 c1 u true w0 hr0 hc0 hr1 hc1 (StreamMirrors l u)

end Go.Proofs.Ytkaijdhnnfldkaa.Pure
