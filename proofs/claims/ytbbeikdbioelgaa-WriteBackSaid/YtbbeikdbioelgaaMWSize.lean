/- What is written is no longer than it would be without pointers; what is refused has no room (plain). -/
import Derived.Test.YtbbeikdbioelgaaMWBack2
import Derived.Test.YtbbeikdbioelgaaMPlain7
set_option linter.unusedVariables false
set_option linter.unusedSimpArgs false
namespace Go.Proofs.Ytbbeikdbioelgaa.M
open Go.RowKit Go.Maps Go.Proofs.YtbbeikdbioelgaaW.PrintWords Go.Proofs.YtbbeikdbioelgaaW.PrintLast Go.Proofs.YtbbeikdbioelgaaW.PrintMore
theorem nameF_le (k : Nat) : ∀ (f : Nat) (out : List Int) (m : MM) (s : ByteArray), nameW k s → (nameF f out m s).1.length ≤ out.length + s.size := by
  induction k with
  | zero => intro f out m s h; exact absurd h id
  | succ k ih =>
    intro f out m s h
    have hpos := nameW_pos h
    cases f with
    | zero => simp only [nameF]; omega
    | succ f =>
      unfold nameF
      by_cases h1 : s.size ≤ 1
      · rw [if_pos h1]
        simp only [List.length_append, List.length_singleton]
        omega
      · rw [if_neg h1]
        cases m s.data.toList with
        | some a => simp only [List.length_append, putL_length]; omega
        | none =>
          simp only []
          rcases h with ⟨h2, _⟩ | ⟨h2, h3, h4, h5⟩
          · omega
          · refine Nat.le_trans (ih _ _ _ _ h5) ?_
            rw [List.length_append, bytesOf_length, ByteArray.size_extract, ByteArray.size_extract]
            omega
theorem nameN_le (p : WS) {s : ByteArray} (hs : isName s = true) : (nameN p s).1.length ≤ p.1.length + s.size := nameF_le _ _ _ _ _ (isName_W hs).1
theorem foldl_le (l : List ByteArray) : ∀ p : WS, (∀ s ∈ l, isName s = true) → (l.foldl nameN p).1.length ≤ p.1.length + sumS l := by
  induction l with
  | nil => intro p _; simp [sumS]
  | cons s l ih =>
    intro p h
    rw [List.foldl_cons, sumS_cons]
    have h1 := ih (nameN p s) (fun x hx => h x (by simp [hx]))
    have h2 := nameN_le p (h s (by simp))
    omega
theorem dataF_le (p : WS) {r : Rec} (hr : Right r) : (dataF p r).1.length ≤ p.1.length + (plainL r).length := by
  obtain ⟨hsm, _, hn0, hn4, hsh⟩ := check_small hr.fine hr.ok
  obtain ⟨a4, a5, a6, a7, a8⟩ := shaped_parts hsh
  have m4 := names_all hn4
  unfold dataF
  by_cases hp : pointedB r.f1 = false
  · rw [if_pos hp, bytes_plain hr]
    simp only [List.length_append]
    omega
  · rw [if_neg hp]
    by_cases h6 : r.f1 = 6
    · have hpl : (plainL r).length = sumS r.f4 + 4 * r.f5.length + (r.f6.flatMap (textL r)).length := by
        rw [plainL_six h6, List.nil_append, List.length_append, List.length_append, numsL_len, namesL_len]
      simp only [if_pos h6, if_neg (show ¬ r.f1 = 15 by omega), List.length_append, numsL_len]
      have := foldl_le r.f4 p m4
      omega
    · have hpl : (plainL r).length = 2 * r.f5.length + sumS r.f4 + (r.f6.flatMap (textL r)).length := by
        rw [plainL_not h6, List.nil_append, List.length_append, List.length_append, numsL_len, namesL_len]
      simp only [if_neg h6]
      by_cases h15 : r.f1 = 15
      · simp only [if_pos h15]
        have := foldl_le r.f4 (p.1 ++ putL (r.f5.getD 0 0) 2, p.2) m4
        simp only [List.length_append, putL_length] at this
        rw [h15] at a5
        have a5' : r.f5.length = 1 := a5
        omega
      · simp only [if_neg h15]
        have := foldl_le r.f4 p m4
        omega
theorem plainS_len {r : Rec} (hr : Right r) : (plainS r).size = (plainL r).length := by
  unfold plainS
  rw [if_pos hr.ok, strOfNums_size]
theorem recordF_le (p : WS) {r : Rec} (hr : Right r) : (recordF p r).1.length ≤ p.1.length + lenR r := by
  obtain ⟨hsm, _, hn0, hn4, hsh⟩ := check_small hr.fine hr.ok
  have h1 := dataF_le ((headF p r).1 ++ putL 0 2, (headF p r).2) hr
  have h2 := nameN_le p hn0
  unfold lenR
  rw [plainS_len hr]
  unfold recordF
  simp only [List.length_set]
  simp only [List.length_append, putL_length] at h1
  have h3 : (headF p r).1.length = (nameN p r.f0).1.length + 2 + 2 + 4 := by
    show ((nameN p r.f0).1 ++ putL r.f1 2 ++ putL r.f2 2 ++ putL r.f3 4).length = _
    simp only [List.length_append, putL_length]
  omega
theorem recsF_some (l : List Rec) : ∀ p q : WS, (∀ r ∈ l, Right r) → recsF l p = some q → q.1.length ≤ p.1.length + (l.map lenR).sum := by
  induction l with
  | nil =>
    intro p q _ h
    obtain rfl := Option.some.inj h
    simp
  | cons r l ih =>
    intro p q hr h
    rw [recsF] at h
    by_cases hc : 65535 < (recordF p r).1.length
    · rw [if_pos hc] at h
      exact absurd h (by simp)
    rw [if_neg hc] at h
    have h1 := ih _ _ (fun x hx => hr x (by simp [hx])) h
    have h2 := recordF_le p (hr r (by simp))
    rw [List.map_cons, List.sum_cons]
    omega
theorem recsF_none (l : List Rec) : ∀ p : WS, (∀ r ∈ l, Right r) → recsF l p = none → 65535 < p.1.length + (l.map lenR).sum := by
  induction l with
  | nil => intro p _ h; exact absurd h (by simp [recsF])
  | cons r l ih =>
    intro p hr h
    have h2 := recordF_le p (hr r (by simp))
    rw [List.map_cons, List.sum_cons]
    rw [recsF] at h
    by_cases hc : 65535 < (recordF p r).1.length
    · omega
    rw [if_neg hc] at h
    have h1 := ih _ (fun x hx => hr x (by simp [hx])) h
    omega
theorem ques_le (l : List Ques) : ∀ p : WS, (∀ q ∈ l, QRight q) → (l.foldl quesF p).1.length ≤ p.1.length + (l.map lenQ).sum := by
  induction l with
  | nil => intro p _; simp
  | cons q l ih =>
    intro p hq
    have h1 := ih (quesF p q) (fun x hx => hq x (by simp [hx]))
    have h2 := nameN_le p (hq q (by simp)).name
    have h3 : (quesF p q).1.length = (nameN p q.f0).1.length + 2 + 2 := by
      show ((nameN p q.f0).1 ++ putL q.f1 2 ++ putL q.f2 2).length = _
      simp only [List.length_append, putL_length]
    rw [List.foldl_cons, List.map_cons, List.sum_cons]
    unfold lenQ at h1 ⊢
    omega
theorem quesAll_le {m : Msg} (hq : ∀ q ∈ m.qs, QRight q) : (quesAll m).1.length ≤ 12 + (m.qs.map lenQ).sum := by
  have h := ques_le m.qs ((numsOf m).flatMap (fun n => putL n 2), fun _ => none) hq
  simp only [numsL_len] at h
  exact h
theorem write_size {m : Msg} {S : ByteArray} (hm : MsgOk m) (h : writeM m = (S, 0)) : S.size ≤ plainM m := by
  obtain ⟨c1, q, q1, q2, q3⟩ := write_out h
  obtain ⟨hq, hr⟩ := msg_right hm c1
  have h1 := recsF_some _ _ _ hr q1
  have h2 := quesAll_le hq
  rw [← q3, strOfNums_size]
  unfold plainM
  omega
theorem checkF_ne (r : Rec) : checkF r ≠ 3 := by
  unfold checkF
  repeat' split
  all_goals decide
theorem checkM_ne (m : Msg) : checkM m ≠ 3 := by
  unfold checkM
  split
  · decide
  split
  · decide
  generalize m.ans ++ m.auth ++ m.add = l
  induction l with
  | nil => decide
  | cons a l ih =>
    rw [firstBad]
    split
    · exact ih
    · exact checkF_ne a
theorem write_bad {m : Msg} {S : ByteArray} {e : Int} (hm : MsgOk m) (h : writeM m = (S, e)) (he : e ≠ 0) : S = ⟨#[]⟩ ∧ ((e = 3 ∧ checkM m = 0 ∧ 65535 < plainM m) ∨ (e ≠ 3 ∧ e = checkM m)) := by
  unfold writeM at h
  by_cases hc : checkM m = 0
  · rw [if_pos hc] at h
    obtain ⟨hq, hr⟩ := msg_right hm hc
    have h2 := quesAll_le hq
    cases hx : recsF (m.ans ++ m.auth ++ m.add) (quesAll m) with
    | none =>
      rw [hx] at h
      have h1 := recsF_none _ _ hr hx
      obtain ⟨e1, e2⟩ := Prod.mk.inj h
      exact ⟨e1.symm, .inl ⟨e2.symm, hc, by unfold plainM; omega⟩⟩
    | some p =>
      rw [hx] at h
      have h1 := recsF_some _ _ _ hr hx
      unfold endF at h
      by_cases hl : 65535 < p.1.length
      · simp only [if_pos hl] at h
        obtain ⟨e1, e2⟩ := Prod.mk.inj h
        exact ⟨e1.symm, .inl ⟨e2.symm, hc, by unfold plainM; omega⟩⟩
      · simp only [if_neg hl] at h
        exact absurd (Prod.mk.inj h).2.symm he
  · rw [if_neg hc] at h
    obtain ⟨e1, e2⟩ := Prod.mk.inj h
    exact ⟨e1.symm, .inr ⟨by rw [← e2]; exact checkM_ne m, e2.symm⟩⟩
theorem write_ok_check {m : Msg} {S : ByteArray} (h : writeM m = (S, 0)) : checkM m = 0 := (write_out h).1
end Go.Proofs.Ytbbeikdbioelgaa.M
