/- Further records of the question's name: what is written of them. -/
import Derived.Test.YtbbeikdbioelgaaMWrite
set_option linter.unusedVariables false
set_option linter.unusedSimpArgs false
namespace Go.Proofs.Ytbbeikdbioelgaa.M
open Go.RowKit Go.Maps Go.Proofs.YtbbeikdbioelgaaW.PrintWords Go.Proofs.YtbbeikdbioelgaaW.PrintLast Go.Proofs.YtbbeikdbioelgaaW.PrintMore
/-- The record that is added: the question's name, an address. -/
def spare (q : ByteArray) : Rec := ⟨q, 1, 1, 0, [], [], [⟨#[97, 98, 99, 100]⟩]⟩
def moreM (m : Msg) (k : Nat) (q : ByteArray) : Msg := ⟨m.id, m.flags, m.qs, m.ans, m.auth, m.add ++ List.replicate k (spare q)⟩
theorem spare_fine (q : ByteArray) : Fine (spare q) where
  len4 := by show (0 : Nat) ≤ _; omega
  names := by show 4 * 0 + sumS [] ≤ _; decide
  texts := fun j hj => by
    obtain rfl : j = 0 := by have : j < 1 := hj
                             omega
    show (4 : Nat) ≤ _
    omega
  texts2 := by show (1 : Nat) ≤ _; omega
  wf := fun j hj => absurd hj (Nat.not_lt_zero _)
theorem spare_wf (q : ByteArray) : Wf (spare q) := ⟨(by decide : (0 : Int) ≤ 1), (by decide : (1 : Int) ≤ 65535), (by decide : (0 : Int) ≤ 1), (by decide : (1 : Int) ≤ 65535), (by decide : (0 : Int) ≤ 0), (by decide : (0 : Int) ≤ 4294967295)⟩
theorem more_ok {m : Msg} (h : MsgOk m) (hl : m.add.length ≤ 300) (k : Nat) (hk : k ≤ 255) (q : ByteArray) : MsgOk (moreM m k q) where
  fine := fun r hr => by
    rcases List.mem_append.1 hr with hr | hr
    · exact h.fine r (List.mem_append.2 (.inl hr))
    · rcases List.mem_append.1 hr with hr | hr
      · exact h.fine r (List.mem_append.2 (.inr hr))
      · rw [(List.mem_replicate.1 hr).2]
        exact spare_fine q
  wf := fun r hr => by
    rcases List.mem_append.1 hr with hr | hr
    · exact h.wf r (List.mem_append.2 (.inl hr))
    · rcases List.mem_append.1 hr with hr | hr
      · exact h.wf r (List.mem_append.2 (.inr hr))
      · rw [(List.mem_replicate.1 hr).2]
        exact spare_wf q
  qs := h.qs
  id0 := h.id0
  id1 := h.id1
  fl0 := h.fl0
  fl1 := h.fl1
  n0 := h.n0
  n1 := h.n1
  n2 := h.n2
  n3 := by
    show (m.add ++ List.replicate k (spare q)).length ≤ 1000000
    rw [List.length_append, List.length_replicate]
    omega
/-- As long, and the same known. -/
def Sim (p q : WS) : Prop := p.1.length = q.1.length ∧ p.2 = q.2
theorem nameF_sim (f : Nat) (o1 o2 : List Int) (mm : List UInt8 → Option Int) (s : ByteArray) (h : o1.length = o2.length) : Sim (nameF f o1 mm s) (nameF f o2 mm s) := by
  induction f generalizing o1 o2 mm s with
  | zero => exact ⟨h, rfl⟩
  | succ f ih =>
    unfold nameF
    by_cases h1 : s.size ≤ 1
    · rw [if_pos h1, if_pos h1]
      exact ⟨by simp [h], rfl⟩
    · rw [if_neg h1, if_neg h1]
      cases mm s.data.toList with
      | some a => exact ⟨by simp [h], rfl⟩
      | none =>
        show Sim (nameF f (o1 ++ _) _ _) (nameF f (o2 ++ _) _ _)
        rw [h]
        exact ih _ _ _ _ (by simp [h])
theorem nameN_sim {p q : WS} (h : Sim p q) (s : ByteArray) : Sim (nameN p s) (nameN q s) := by
  obtain ⟨o1, m1⟩ := p
  obtain ⟨o2, m2⟩ := q
  obtain ⟨h1, h2⟩ := h
  obtain rfl : m1 = m2 := h2
  exact nameF_sim _ _ _ _ _ h1
theorem foldl_sim {α : Type} (f : WS → α → WS) (hf : ∀ p q x, Sim p q → Sim (f p x) (f q x)) (l : List α) : ∀ p q, Sim p q → Sim (l.foldl f p) (l.foldl f q) := by
  induction l with
  | nil => exact fun p q h => h
  | cons a l ih => exact fun p q h => ih _ _ (hf p q a h)
theorem app_sim {p q : WS} (h : Sim p q) (l : List Int) : Sim (p.1 ++ l, p.2) (q.1 ++ l, q.2) := ⟨by simp [h.1], h.2⟩
theorem quesF_sim {p q : WS} (x : Ques) (h : Sim p q) : Sim (quesF p x) (quesF q x) := app_sim (app_sim (nameN_sim h x.f0) _) _
theorem dataF_sim {p q : WS} (h : Sim p q) (r : Rec) : Sim (dataF p r) (dataF q r) := by
  unfold dataF
  by_cases h1 : pointedB r.f1 = false
  · rw [if_pos h1, if_pos h1]
    exact app_sim h _
  · rw [if_neg h1, if_neg h1]
    have ha : Sim (if r.f1 = 15 then (p.1 ++ putL (r.f5.getD 0 0) 2, p.2) else p) (if r.f1 = 15 then (q.1 ++ putL (r.f5.getD 0 0) 2, q.2) else q) := by
      by_cases h2 : r.f1 = 15
      · rw [if_pos h2, if_pos h2]
        exact app_sim h _
      · rw [if_neg h2, if_neg h2]
        exact h
    have hb := foldl_sim nameN (fun p q x h => nameN_sim h x) r.f4 _ _ ha
    show Sim (if r.f1 = 6 then _ else _) (if r.f1 = 6 then _ else _)
    by_cases h3 : r.f1 = 6
    · rw [if_pos h3, if_pos h3]
      exact app_sim hb _
    · rw [if_neg h3, if_neg h3]
      exact hb
theorem headF_sim {p q : WS} (h : Sim p q) (r : Rec) : Sim (headF p r) (headF q r) := app_sim (app_sim (app_sim (nameN_sim h r.f0) _) _) _
theorem recordF_sim {p q : WS} (h : Sim p q) (r : Rec) : Sim (recordF p r) (recordF q r) := by
  have hd := dataF_sim (app_sim (headF_sim h r) (putL 0 2)) r
  unfold recordF
  exact ⟨by simpa using hd.1, hd.2⟩
theorem recsF_sim (l : List Rec) : ∀ p q, Sim p q → ∀ p', recsF l p = some p' → ∃ q', recsF l q = some q' ∧ Sim p' q' := by
  induction l with
  | nil =>
    intro p q h p' hp
    obtain rfl := Option.some.inj hp
    exact ⟨q, rfl, h⟩
  | cons r l ih =>
    intro p q h p' hp
    have hr := recordF_sim h r
    unfold recsF at hp ⊢
    rw [← hr.1]
    by_cases hc : 65535 < (recordF p r).1.length
    · rw [if_pos hc] at hp
      exact absurd hp (by simp)
    · rw [if_neg hc] at hp ⊢
      exact ih _ _ hr _ hp
theorem recsF_append (l l' : List Rec) : ∀ p, recsF (l ++ l') p = (recsF l p).bind (recsF l') := by
  induction l with
  | nil => exact fun p => rfl
  | cons r l ih =>
    intro p
    rw [List.cons_append]
    unfold recsF
    by_cases hc : 65535 < (recordF p r).1.length
    · rw [if_pos hc, if_pos hc]
      rfl
    · rw [if_neg hc, if_neg hc]
      exact ih _
theorem nameF_has (f : Nat) (o : List Int) (mm : List UInt8 → Option Int) (s : ByteArray) (l : List UInt8) (h : (mm l).isSome = true) : ((nameF f o mm s).2 l).isSome = true := by
  induction f generalizing o mm s with
  | zero => exact h
  | succ f ih =>
    unfold nameF
    by_cases h1 : s.size ≤ 1
    · rw [if_pos h1]
      exact h
    · rw [if_neg h1]
      cases mm s.data.toList with
      | some a => exact h
      | none =>
        refine ih _ _ _ ?_
        by_cases h2 : o.length < 16384
        · rw [if_pos h2]
          unfold updS
          by_cases h3 : l = s.data.toList
          · rw [if_pos h3]
            rfl
          · rw [if_neg h3]
            exact h
        · rw [if_neg h2]
          exact h
theorem nameN_has (p : WS) (s : ByteArray) (l : List UInt8) (h : (p.2 l).isSome = true) : ((nameN p s).2 l).isSome = true := nameF_has _ _ _ _ _ h
theorem nameN_own (p : WS) (s : ByteArray) (h2 : 2 ≤ s.size) (hl : p.1.length < 16384) : ((nameN p s).2 s.data.toList).isSome = true := by
  unfold nameN
  unfold nameF
  rw [if_neg (by omega)]
  cases hc : p.2 s.data.toList with
  | some a => exact (by rw [hc]; rfl : (p.2 s.data.toList).isSome = true)
  | none =>
    refine nameF_has _ _ _ _ _ ?_
    rw [if_pos hl]
    unfold updS
    rw [if_pos rfl]
    rfl
theorem foldl_has {α : Type} (f : WS → α → WS) (l : List UInt8) (hf : ∀ p x, (p.2 l).isSome = true → ((f p x).2 l).isSome = true) (xs : List α) : ∀ p : WS, (p.2 l).isSome = true → ((xs.foldl f p).2 l).isSome = true := by
  induction xs with
  | nil => exact fun p h => h
  | cons a xs ih => exact fun p h => ih _ (hf p a h)
theorem dataF_has (p : WS) (r : Rec) (l : List UInt8) (h : (p.2 l).isSome = true) : ((dataF p r).2 l).isSome = true := by
  unfold dataF
  by_cases h1 : pointedB r.f1 = false
  · rw [if_pos h1]
    exact h
  · rw [if_neg h1]
    have ha : (((if r.f1 = 15 then (p.1 ++ putL (r.f5.getD 0 0) 2, p.2) else p) : WS).2 l).isSome = true := by
      by_cases h2 : r.f1 = 15
      · rw [if_pos h2]
        exact h
      · rw [if_neg h2]
        exact h
    have hb := foldl_has nameN l (fun p x h => nameN_has p x l h) r.f4 _ ha
    show ((ite (r.f1 = 6) _ _ : WS).2 l).isSome = true
    by_cases h3 : r.f1 = 6
    · rw [if_pos h3]
      exact hb
    · rw [if_neg h3]
      exact hb
theorem recordF_has (p : WS) (r : Rec) (l : List UInt8) (h : (p.2 l).isSome = true) : ((recordF p r).2 l).isSome = true := dataF_has _ r l (nameN_has p r.f0 l h)
theorem recsF_has (xs : List Rec) (l : List UInt8) : ∀ p p' : WS, (p.2 l).isSome = true → recsF xs p = some p' → (p'.2 l).isSome = true := by
  induction xs with
  | nil =>
    intro p p' h hp
    obtain rfl := Option.some.inj hp
    exact h
  | cons r xs ih =>
    intro p p' h hp
    unfold recsF at hp
    by_cases hc : 65535 < (recordF p r).1.length
    · rw [if_pos hc] at hp
      exact absurd hp (by simp)
    · rw [if_neg hc] at hp
      exact ih _ _ (recordF_has p r l h) hp
theorem spare_len (p : WS) (q : ByteArray) (h2 : 2 ≤ q.size) (h : (p.2 q.data.toList).isSome = true) (hc : checkF (spare q) = 0) : (recordF p (spare q)).1.length = p.1.length + 16 := by
  obtain ⟨a, ha⟩ := Option.isSome_iff_exists.1 h
  have hn : nameN p q = (p.1 ++ putL (a + 49152) 2, p.2) := by
    unfold nameN
    unfold nameF
    rw [if_neg (by omega), ha]
  have hp : plainS (spare q) = strOfNums [97, 98, 99, 100] := by
    unfold plainS
    rw [if_pos hc]
    rfl
  have hd : ∀ x : WS, dataF x (spare q) = (x.1 ++ bytesOf (strOfNums [97, 98, 99, 100]), x.2) := by
    intro x
    unfold dataF
    rw [if_pos (show pointedB (spare q).f1 = false from rfl), hp]
  have hh : (headF p (spare q)).1.length = p.1.length + 10 := by
    show ((nameN p q).1 ++ putL 1 2 ++ putL 1 2 ++ putL 0 4).length = _
    rw [hn]
    simp only [List.length_append, putL_length]
  unfold recordF
  simp only [List.length_set, hd, List.length_append, putL_length, hh]
  have : (bytesOf (strOfNums [97, 98, 99, 100])).length = 4 := by decide
  omega
theorem spares_len (q : ByteArray) (h2 : 2 ≤ q.size) (k : Nat) : (k = 0 ∨ checkF (spare q) = 0) → ∀ p p' : WS, (p.2 q.data.toList).isSome = true → recsF (List.replicate k (spare q)) p = some p' → p'.1.length = p.1.length + 16 * k := by
  induction k with
  | zero =>
    intro _ p p' h hp
    obtain rfl := Option.some.inj hp
    rfl
  | succ k ih =>
    intro hc p p' h hp
    have hc' : checkF (spare q) = 0 := hc.resolve_left (by omega)
    rw [List.replicate_succ] at hp
    unfold recsF at hp
    by_cases hb : 65535 < (recordF p (spare q)).1.length
    · rw [if_pos hb] at hp
      exact absurd hp (by simp)
    · rw [if_neg hb] at hp
      rw [ih (.inr hc') _ _ (recordF_has p _ _ h) hp, spare_len p q h2 h hc']
      omega
theorem write_some {m : Msg} {S : ByteArray} (h : writeM m = (S, 0)) : checkM m = 0 ∧ ∃ p, recsF (m.ans ++ m.auth ++ m.add) (quesAll m) = some p ∧ p.1.length ≤ 65535 ∧ S.size = p.1.length := by
  unfold writeM at h
  by_cases hc : checkM m = 0
  · rw [if_pos hc] at h
    refine ⟨hc, ?_⟩
    cases hr : recsF (m.ans ++ m.auth ++ m.add) (quesAll m) with
    | none =>
      rw [hr] at h
      exact absurd (congrArg Prod.snd h) (by simp [endF])
    | some p =>
      rw [hr] at h
      unfold endF at h
      by_cases hl : 65535 < p.1.length
      · simp [hl] at h
      · simp only [hl, if_false] at h
        refine ⟨p, rfl, by omega, ?_⟩
        obtain rfl : strOfNums p.1 = S := congrArg Prod.fst h
        show ((List.map (fun n => UInt8.ofNat n.toNat) p.1).toArray).size = p.1.length
        simp
  · rw [if_neg hc] at h
    exact absurd (congrArg Prod.snd h) hc
theorem spares_pure {m : Msg} {k : Nat} {qq : Ques} {S S2 : ByteArray} (hq : m.qs.length = 1) (h0 : m.qs.getD 0 zQues = qq) (h2 : 2 ≤ qq.f0.size) (h : writeM m = (S, 0)) (h' : writeM (moreM m k qq.f0) = (S2, 0)) : S2.size = S.size + 16 * k ∧ S.size ≤ 65535 := by
  obtain ⟨hc, p, hp, hl, hs⟩ := write_some h
  obtain ⟨hc2, p2, hp2, hl2, hs2⟩ := write_some h'
  have he : m.ans ++ m.auth ++ (m.add ++ List.replicate k (spare qq.f0)) = (m.ans ++ m.auth ++ m.add) ++ List.replicate k (spare qq.f0) := by rw [List.append_assoc _ m.add]
  have hsim : Sim (quesAll m) (quesAll (moreM m k qq.f0)) := by
    unfold quesAll
    refine foldl_sim quesF (fun p q x h => quesF_sim x h) m.qs _ _ ⟨?_, rfl⟩
    simp [numsOf, putL_length]
  have hqs : m.qs = [qq] := by
    match hx : m.qs, hq with
    | [x], _ =>
      rw [hx] at h0
      exact congrArg (· :: []) h0
  have hhas : ((quesAll m).2 qq.f0.data.toList).isSome = true := by
    unfold quesAll
    rw [hqs]
    refine nameN_own _ qq.f0 h2 ?_
    simp [numsOf, putL_length]
  obtain ⟨p3, hp3, hs3⟩ := recsF_sim _ _ _ hsim _ hp
  have hx : recsF ((m.ans ++ m.auth ++ m.add) ++ List.replicate k (spare qq.f0)) (quesAll (moreM m k qq.f0)) = some p2 := by
    rw [← he]
    exact hp2
  rw [recsF_append, hp3] at hx
  have hk : k = 0 ∨ checkF (spare qq.f0) = 0 := by
    rcases Nat.eq_zero_or_pos k with h | h
    · exact .inl h
    · refine .inr ((check_parts hc2).2.2 _ ?_)
      show spare qq.f0 ∈ m.ans ++ m.auth ++ (m.add ++ List.replicate k (spare qq.f0))
      rw [he]
      exact List.mem_append.2 (.inr (List.mem_replicate.2 ⟨by omega, rfl⟩))
  have hh3 : (p3.2 qq.f0.data.toList).isSome = true := by
    rw [← hs3.2]
    exact recsF_has _ _ _ _ hhas hp
  have := spares_len qq.f0 h2 k hk p3 p2 hh3 hx
  have := hs3.1
  omega
end Go.Proofs.Ytbbeikdbioelgaa.M
