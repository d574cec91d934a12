/- The plain law of HeadOther: a further field that nothing is said of changes nothing; nor does the order of those behind the pseudo-fields. -/
import Derived.Test.YtdpoookgmckclaaDoorMHPure
set_option linter.unusedVariables false
set_option linter.unusedSimpArgs false
namespace Go.Proofs.YtdpoookgmckclaaDoor.M
open Go.RowKit Go.Maps Go.Proofs.YtdpoookgmckclaaDoorW.PrintWords Go.Proofs.YtdpoookgmckclaaDoorW.PrintLast Go.Proofs.YtdpoookgmckclaaDoorW.PrintMore
/-- No pseudo-field stands behind another one. -/
def pfirst : Nat → List Fld → Bool
  | _, [] => true
  | o, f :: l => !(pseudoB f && decide (0 < o)) && pfirst (addO o f) l
/-- Each counted field stands there once. -/
def Once (c : List Fld) (l : List Fld) : Prop := (∀ f ∈ l, hasN c f.1 = false) ∧ (l.map Prod.fst).Nodup
theorem hasN_one (f : Fld) (n : ByteArray) : hasN [f] n = decide (f.1 = n) := by simp [hasN]
theorem hasN_nil (n : ByteArray) : hasN [] n = false := rfl
theorem once_nil (c : List Fld) : Once c [] := ⟨fun f hf => absurd hf (by simp), by simp⟩
theorem once_cons (c : List Fld) (f : Fld) (l : List Fld) : Once c (f :: l) ↔ hasN c f.1 = false ∧ Once (c ++ [f]) l := by
  unfold Once
  constructor
  · rintro ⟨h1, h2⟩
    rw [List.map_cons, List.nodup_cons] at h2
    refine ⟨h1 f (by simp), fun g hg => ?_, h2.2⟩
    rw [hasN_app, h1 g (by simp [hg]), hasN_one, Bool.false_or]
    exact decide_eq_false (fun e => h2.1 (by rw [e]; exact List.mem_map_of_mem hg))
  · rintro ⟨h1, h2, h3⟩
    refine ⟨fun g hg => ?_, ?_⟩
    · rcases List.mem_cons.1 hg with rfl | hg
      · exact h1
      · have := h2 g hg
        rw [hasN_app, Bool.or_eq_false_iff] at this
        exact this.1
    · rw [List.map_cons, List.nodup_cons]
      refine ⟨fun hm => ?_, h3⟩
      obtain ⟨g, hg, e⟩ := List.mem_map.1 hm
      have := h2 g hg
      rw [hasN_app, hasN_one, Bool.or_eq_false_iff] at this
      exact absurd e.symm (of_decide_eq_false this.2)
theorem headGo_iff (l : List Fld) : ∀ (o : Nat) (c d : List Fld), headGo l o c = some d ↔ ((∀ f ∈ l, rightFB f = true ∧ barredB f = false) ∧ pfirst o l = true ∧ Once c (l.filter countedB) ∧ d = c ++ l.filter countedB) := by
  induction l with
  | nil =>
    intro o c d
    rw [headGo]
    constructor
    · intro h
      exact ⟨fun f hf => absurd hf (by simp), rfl, once_nil c, by rw [← Option.some.inj h]; simp⟩
    · rintro ⟨_, _, _, h⟩
      rw [h]
      simp
  | cons f l ih =>
    intro o c d
    rw [headGo]
    by_cases h1 : oneB f o c = true
    · rw [if_pos h1, ih]
      unfold oneB at h1
      simp only [Bool.and_eq_true, Bool.not_eq_true'] at h1
      obtain ⟨r1, r2, r3, r4⟩ := h1
      rw [pfirst, r3]
      by_cases hc : countedB f = true
      · rw [List.filter_cons_of_pos hc, once_cons]
        rw [hc, Bool.true_and] at r4
        have ha : addC c f = c ++ [f] := if_pos hc
        rw [ha]
        constructor
        · rintro ⟨k1, k2, k3, k4⟩
          exact ⟨fun g hg => (List.mem_cons.1 hg).elim (fun e => e ▸ ⟨r1, r2⟩) (k1 g), by simpa using k2, ⟨r4, k3⟩, by rw [k4]; simp⟩
        · rintro ⟨k1, k2, ⟨_, k3⟩, k4⟩
          exact ⟨fun g hg => k1 g (by simp [hg]), by simpa using k2, k3, by rw [k4]; simp⟩
      · rw [List.filter_cons_of_neg hc]
        have ha : addC c f = c := if_neg hc
        rw [ha]
        constructor
        · rintro ⟨k1, k2, k3, k4⟩
          exact ⟨fun g hg => (List.mem_cons.1 hg).elim (fun e => e ▸ ⟨r1, r2⟩) (k1 g), by simpa using k2, k3, k4⟩
        · rintro ⟨k1, k2, k3, k4⟩
          exact ⟨fun g hg => k1 g (by simp [hg]), by simpa using k2, k3, k4⟩
    · rw [if_neg h1]
      constructor
      · intro h
        exact absurd h (by simp)
      · rintro ⟨k1, k2, k3, k4⟩
        refine absurd ?_ h1
        obtain ⟨r1, r2⟩ := k1 f (by simp)
        rw [pfirst, Bool.and_eq_true] at k2
        unfold oneB
        rw [r1, r2, k2.1]
        by_cases hc : countedB f = true
        · rw [List.filter_cons_of_pos hc, once_cons] at k3
          simp [k3.1]
        · simp [hc]
theorem pfirst_app (l l' : List Fld) : ∀ o : Nat, pfirst o (l ++ l') = (pfirst o l && pfirst (o + othersN l) l') := by
  induction l with
  | nil => intro o; simp [pfirst, othersN]
  | cons f l ih =>
    intro o
    rw [List.cons_append, pfirst, pfirst, ih, addO_eq, Bool.and_assoc]
theorem pfirst_plain (l : List Fld) (h : ∀ f ∈ l, pseudoB f = false) : ∀ o : Nat, pfirst o l = true := by
  induction l with
  | nil => intro o; rfl
  | cons f l ih =>
    intro o
    rw [pfirst, h f (by simp), ih (fun g hg => h g (by simp [hg]))]
    rfl
theorem pfirst_late (l : List Fld) : ∀ o : Nat, 0 < o → pfirst o l = true → ∀ f ∈ l, pseudoB f = false := by
  induction l with
  | nil => intro o _ _ f hf; exact absurd hf (by simp)
  | cons g l ih =>
    intro o ho h f hf
    rw [pfirst, Bool.and_eq_true] at h
    have hg : pseudoB g = false := by
      cases hp : pseudoB g
      · rfl
      · rw [hp] at h
        simp [ho] at h
    rcases List.mem_cons.1 hf with rfl | hf
    · exact hg
    · exact ih (addO o g) (by unfold addO; rw [hg]; simp) h.2 f hf
/-- Behind its first pseudo-fields a right head has no more of them. -/
theorem plain_rest (l : List Fld) : ∀ o : Nat, pfirst o l = true → ∀ f ∈ l.dropWhile pseudoB, pseudoB f = false := by
  induction l with
  | nil => intro o _ f hf; exact absurd hf (by simp)
  | cons g l ih =>
    intro o h f hf
    rw [pfirst, Bool.and_eq_true] at h
    by_cases hg : pseudoB g = true
    · rw [List.dropWhile_cons_of_pos hg] at hf
      exact ih _ h.2 f hf
    · rw [List.dropWhile_cons_of_neg hg] at hf
      have hg' : pseudoB g = false := by simpa using hg
      rcases List.mem_cons.1 hf with rfl | hf
      · exact hg'
      · exact pfirst_late l (addO o g) (by unfold addO; rw [hg']; simp) h.2 f hf
theorem valN_cons (f : Fld) (c : List Fld) (n : ByteArray) : valN (f :: c) n = if f.1 = n then f.2 else valN c n := by
  unfold valN
  rw [List.find?_cons]
  by_cases h : f.1 = n
  · rw [if_pos h, decide_eq_true h]
    rfl
  · rw [if_neg h, decide_eq_false h]
theorem hasN_cons (f : Fld) (c : List Fld) (n : ByteArray) : hasN (f :: c) n = (decide (f.1 = n) || hasN c n) := by simp [hasN]
theorem hasN_rev (c : List Fld) (n : ByteArray) : hasN c.reverse n = hasN c n := by unfold hasN; rw [List.any_reverse]
theorem valN_rev (c : List Fld) (h : (c.map Prod.fst).Nodup) (n : ByteArray) : valN c.reverse n = valN c n := by
  induction c with
  | nil => rfl
  | cons f c ih =>
    rw [List.map_cons, List.nodup_cons] at h
    rw [List.reverse_cons, valN_app, hasN_rev, ih h.2, valN_cons, valN_cons]
    by_cases h1 : f.1 = n
    · rw [if_pos h1, if_pos h1, if_neg]
      intro h2
      obtain ⟨g, hg, e⟩ := List.any_eq_true.1 h2
      exact h.1 (by rw [h1, ← of_decide_eq_true e]; exact List.mem_map_of_mem hg)
    · rw [if_neg h1, if_neg h1]
      by_cases h2 : hasN c n = true
      · rw [if_pos h2]
      · rw [if_neg h2]
        have e : c.find? (fun f => decide (f.1 = n)) = none := List.find?_eq_none.2 (fun g hg e => h2 (List.any_eq_true.2 ⟨g, hg, e⟩))
        unfold valN
        rw [e]
        rfl
theorem request_same {l l' : List Fld} {c c' : List Fld} (h : headGo l 0 [] = some c) (h' : headGo l' 0 [] = some c') (hh : ∀ n, hasN c' n = hasN c n) (hv : ∀ n, valN c' n = valN c n) (hn : nps c' = nps c) : requestF l' = requestF l := by
  unfold requestF headF
  rw [h, h']
  simp only []
  unfold endH
  rw [hh, hv, hv]
  have hr : reqOk c' = reqOk c := by
    unfold reqOk
    simp only [hh, hv, hn]
  by_cases k1 : hasN c clN = true
  · rw [if_pos k1, if_pos k1]
    by_cases k2 : (decF (valN c clN) 999999999).2 = true
    · rw [if_pos k2, if_pos k2]
      simp only [hr, hv]
    · rw [if_neg k2, if_neg k2]
  · rw [if_neg k1, if_neg k1]
    simp only [hr, hv]
/-- What may stand behind a body, and is not counted, is plain. -/
theorem other_plain {f : Fld} (h : trailersF [f] = true) (h1 : f.1 ≠ ctN) (h2 : f.1 ≠ clN) : rightFB f = true ∧ barredB f = false ∧ pseudoB f = false ∧ countedB f = false := by
  unfold trailersF headF at h
  cases hg : headGo [f] 0 [] with
  | none => rw [hg] at h; exact absurd h (by simp)
  | some c =>
    rw [hg] at h
    simp only [] at h
    obtain ⟨k1, k2, k3, k4⟩ := (headGo_iff [f] 0 [] c).1 hg
    obtain ⟨r1, r2⟩ := k1 f (by simp)
    have hp : pseudoB f = false := by
      cases hp : pseudoB f with
      | false => rfl
      | true =>
        exfalso
        have hc : countedB f = true := by unfold countedB; rw [hp]; rfl
        rw [List.filter_cons_of_pos hc, List.nil_append] at k4
        have hn : nps c = 1 := by rw [k4]; simp [nps, hp]
        cases he : endH c with
        | none => rw [he] at h; exact absurd h (by simp)
        | some y =>
          obtain ⟨c', m, n⟩ := y
          rw [he] at h
          have hc' : c' = c := by
            unfold endH at he
            split at he
            · split at he
              · exact (Prod.mk.inj (Option.some.inj he)).1.symm
              · exact absurd he (by simp)
            · exact (Prod.mk.inj (Option.some.inj he)).1.symm
          have := of_decide_eq_true h
          rw [hc', hn] at this
          exact absurd this (by decide)
    refine ⟨r1, r2, hp, ?_⟩
    unfold countedB
    rw [hp, decide_eq_false h1, decide_eq_false h2]
    rfl
structure OtherIs (l : List Fld) (f : Fld) : Prop where
  behind : requestF (l ++ [f]) = requestF l
  between : requestF ((l.takeWhile pseudoB ++ [f]) ++ l.dropWhile pseudoB) = requestF l
  turned : requestF (l.takeWhile pseudoB ++ (l.dropWhile pseudoB).reverse) = requestF l
theorem other_law {l : List Fld} {x : ByteArray × ByteArray × ByteArray × Int} (h : requestF l = some x) {f : Fld} (hf : trailersF [f] = true) (h1 : f.1 ≠ ctN) (h2 : f.1 ≠ clN) : OtherIs l f := by
  obtain ⟨r1, r2, r3, r4⟩ := other_plain hf h1 h2
  obtain ⟨c, m, n, k1, -, -, -⟩ := request_head h
  obtain ⟨a1, a2, a3, a4⟩ := (headGo_iff l 0 [] c).1 k1
  rw [List.nil_append] at a4
  have hs : l.takeWhile pseudoB ++ l.dropWhile pseudoB = l := List.takeWhile_append_dropWhile
  have hq := plain_rest l 0 a2
  obtain ⟨P, hP⟩ : ∃ P, l.takeWhile pseudoB = P := ⟨_, rfl⟩
  obtain ⟨Q, hQ⟩ : ∃ Q, l.dropWhile pseudoB = Q := ⟨_, rfl⟩
  rw [hP, hQ] at hs
  rw [hQ] at hq
  have hfil : [f].filter countedB = [] := by rw [List.filter_cons_of_neg (by rw [r4]; decide)]; rfl
  have hP1 : pfirst 0 P = true := by
    rw [← hs, pfirst_app, Bool.and_eq_true] at a2
    exact a2.1
  have hone : ∀ g ∈ [f], pseudoB g = false := fun g hg => by rw [List.mem_singleton.1 hg]; exact r3
  constructor
  · refine request_same k1 (c' := c) ?_ (fun _ => rfl) (fun _ => rfl) rfl
    refine (headGo_iff _ _ _ _).2 ⟨fun g hg => ?_, ?_, ?_, ?_⟩
    · rcases List.mem_append.1 hg with hg | hg
      · exact a1 g hg
      · rw [List.mem_singleton.1 hg]; exact ⟨r1, r2⟩
    · rw [pfirst_app, a2, pfirst_plain _ hone]; rfl
    · rw [List.filter_append, hfil, List.append_nil]; exact a3
    · rw [List.filter_append, hfil, List.append_nil]; exact a4
  · rw [hP, hQ]
    refine request_same k1 (c' := c) ?_ (fun _ => rfl) (fun _ => rfl) rfl
    have hfl : ((P ++ [f]) ++ Q).filter countedB = l.filter countedB := by
      rw [List.filter_append, List.filter_append, hfil, List.append_nil, ← List.filter_append, hs]
    refine (headGo_iff _ _ _ _).2 ⟨fun g hg => ?_, ?_, ?_, ?_⟩
    · rcases List.mem_append.1 hg with hg | hg
      · rcases List.mem_append.1 hg with hg | hg
        · exact a1 g (by rw [← hs]; exact List.mem_append.2 (.inl hg))
        · rw [List.mem_singleton.1 hg]; exact ⟨r1, r2⟩
      · exact a1 g (by rw [← hs]; exact List.mem_append.2 (.inr hg))
    · rw [pfirst_app, pfirst_app, hP1, pfirst_plain _ hone, pfirst_plain _ hq]; rfl
    · rw [hfl]; exact a3
    · rw [hfl]; exact a4
  · rw [hP, hQ]
    have hfl : (P ++ Q.reverse).filter countedB = P.filter countedB ++ (Q.filter countedB).reverse := by rw [List.filter_append, List.filter_reverse]
    have hc : c = P.filter countedB ++ Q.filter countedB := by rw [a4, ← hs, List.filter_append]
    have hnd : ((P.filter countedB ++ Q.filter countedB).map Prod.fst).Nodup := by rw [← hc, a4]; exact a3.2
    have hnd2 : ((Q.filter countedB).map Prod.fst).Nodup := by
      rw [List.map_append] at hnd
      exact (List.nodup_append.1 hnd).2.1
    refine request_same k1 (c' := P.filter countedB ++ (Q.filter countedB).reverse) ?_ ?_ ?_ ?_
    · refine (headGo_iff _ _ _ _).2 ⟨fun g hg => ?_, ?_, ⟨fun g _ => rfl, ?_⟩, by rw [hfl, List.nil_append]⟩
      · rcases List.mem_append.1 hg with hg | hg
        · exact a1 g (by rw [← hs]; exact List.mem_append.2 (.inl hg))
        · exact a1 g (by rw [← hs]; exact List.mem_append.2 (.inr (List.mem_reverse.1 hg)))
      · rw [pfirst_app, hP1, pfirst_plain _ (fun g hg => hq g (List.mem_reverse.1 hg))]; rfl
      · rw [hfl]
        refine List.Perm.nodup ?_ hnd
        exact List.Perm.map _ (List.Perm.append_left _ (List.reverse_perm _).symm)
    · intro n
      rw [hc, hasN_app, hasN_app, hasN_rev]
    · intro n
      rw [hc, valN_app, valN_app, valN_rev _ hnd2]
    · rw [hc, nps_app, nps_app]
      unfold nps
      rw [List.countP_reverse]
end Go.Proofs.YtdpoookgmckclaaDoor.M
