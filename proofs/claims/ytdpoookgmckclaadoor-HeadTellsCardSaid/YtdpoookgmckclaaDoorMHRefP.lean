/- The plain law: the document's right head is a head that tells something. -/
import Derived.Test.YtdpoookgmckclaaDoorMHRefB
set_option linter.unusedVariables false
set_option linter.unusedSimpArgs false
namespace Go.Proofs.YtdpoookgmckclaaDoor.M
open Go.RowKit Go.Maps Go.Proofs.YtdpoookgmckclaaDoorW.PrintWords Go.Proofs.YtdpoookgmckclaaDoorW.PrintLast Go.Proofs.YtdpoookgmckclaaDoorW.PrintMore
/-- The document's walk through a head. -/
def rG (L : List Fld) : List Fld → Bool → Bool
  | [], _ => true
  | f :: l, o => rightFB f && (!barredB f && (!(pseudoB f && o) && (!(decide (1 < cntN L f.1) && countedB f) && rG L l (o || !pseudoB f))))
def refRightF (L : List Fld) : Bool := rG L L false && (decide (cntN L clN = 0) || (decF (valN L clN) 999999999).2)
def bG : List Fld → Bool → Bool
  | [], _ => true
  | f :: l, o => rightFB f && (!barredB f && (!(pseudoB f && o) && bG l (o || !pseudoB f)))
def dG : List Fld → List Fld → Bool
  | [], _ => true
  | f :: l, c => !(countedB f && hasN c f.1) && dG l (addC c f)
theorem rG_split (L l : List Fld) : ∀ o, rG L l o = (bG l o && l.all fun f => !(decide (1 < cntN L f.1) && countedB f)) := by
  induction l with
  | nil => intro o; rfl
  | cons f l ih =>
    intro o
    rw [rG, bG, ih, List.all_cons]
    cases rightFB f <;> cases barredB f <;> cases (pseudoB f && o) <;> cases (decide (1 < cntN L f.1) && countedB f) <;> simp
theorem addO_pos (o : Nat) (f : Fld) : decide (0 < addO o f) = (decide (0 < o) || !pseudoB f) := by
  unfold addO
  cases hp : pseudoB f with
  | true => rw [if_pos rfl]; simp
  | false => rw [if_neg (by decide)]; simp
theorem headGo_split (l : List Fld) : ∀ (o : Nat) (c : List Fld), (headGo l o c).isSome = (bG l (decide (0 < o)) && dG l c) := by
  induction l with
  | nil => intro o c; rfl
  | cons f l ih =>
    intro o c
    rw [headGo, bG, dG]
    by_cases h : oneB f o c = true
    · rw [if_pos h, ih, addO_pos]
      unfold oneB at h
      rw [Bool.and_eq_true, Bool.and_eq_true, Bool.and_eq_true] at h
      rw [h.1, h.2.1, h.2.2.1, h.2.2.2]
      simp
    · rw [if_neg h]
      unfold oneB at h
      revert h
      cases rightFB f <;> cases barredB f <;> cases (pseudoB f && decide (0 < o)) <;> cases (countedB f && hasN c f.1) <;> simp
def countS (s : ByteArray) : Bool := pseudoS s || (decide (s = clN) || decide (s = ctN))
theorem counted_name (f : Fld) : countedB f = countS f.1 := rfl
theorem cnt_zero {l : List Fld} {n : ByteArray} : cntN l n = 0 ↔ ∀ g ∈ l, g.1 ≠ n := by
  unfold cntN
  rw [List.countP_eq_zero]
  constructor
  · intro h g hg e
    exact h g hg (decide_eq_true e)
  · intro h g hg e
    exact h g hg (of_decide_eq_true e)
theorem dG_iff (l : List Fld) : ∀ c, dG l c = true ↔ ∀ f ∈ l, countedB f = true → cntN l f.1 ≤ 1 ∧ hasN c f.1 = false := by
  induction l with
  | nil => intro c; exact ⟨fun _ f hf => absurd hf (by simp), fun _ => rfl⟩
  | cons f l ih =>
    intro c
    rw [dG, Bool.and_eq_true, ih]
    by_cases hc : countedB f = true
    · unfold addC
      rw [if_pos hc, hc, Bool.true_and]
      constructor
      · rintro ⟨h1, h2⟩ g hg hgc
        have h1 : hasN c f.1 = false := by simpa using h1
        have h3 : ∀ g ∈ l, g.1 ≠ f.1 := by
          intro g hg e
          have := (h2 g hg (by rw [counted_name, e, ← counted_name]; exact hc)).2
          rw [hasN_app, Bool.or_eq_false_iff] at this
          have h4 := this.2
          rw [hasN_cons, Bool.or_eq_false_iff, decide_eq_false_iff_not] at h4
          exact h4.1 e.symm
        rcases List.mem_cons.1 hg with rfl | hg
        · rw [cntN_cons, if_pos rfl, cnt_zero.2 h3]
          exact ⟨Nat.le_refl _, h1⟩
        · obtain ⟨h5, h6⟩ := h2 g hg hgc
          rw [hasN_app, Bool.or_eq_false_iff] at h6
          rw [cntN_cons, if_neg (fun e => h3 g hg e.symm)]
          exact ⟨h5, h6.1⟩
      · intro h
        obtain ⟨h1, h2⟩ := h f (List.mem_cons_self ..) hc
        rw [cntN_cons, if_pos rfl] at h1
        have h3 := cnt_zero.1 (show cntN l f.1 = 0 by omega)
        refine ⟨by rw [h2]; rfl, fun g hg hgc => ?_⟩
        obtain ⟨h4, h5⟩ := h g (List.mem_cons_of_mem _ hg) hgc
        rw [cntN_cons, if_neg (fun e => h3 g hg e.symm)] at h4
        refine ⟨h4, ?_⟩
        rw [hasN_app, h5, hasN_cons, decide_eq_false (fun e => h3 g hg e.symm)]
        rfl
    · have hc' : countedB f = false := by simpa using hc
      unfold addC
      rw [if_neg hc, hc', Bool.false_and]
      constructor
      · rintro ⟨_, h2⟩ g hg hgc
        rcases List.mem_cons.1 hg with rfl | hg
        · exact absurd hgc hc
        · obtain ⟨h5, h6⟩ := h2 g hg hgc
          rw [cntN_cons, if_neg (fun e => hc (by rw [counted_name, e, ← counted_name]; exact hgc))]
          exact ⟨h5, h6⟩
      · intro h
        refine ⟨rfl, fun g hg hgc => ?_⟩
        obtain ⟨h4, h5⟩ := h g (List.mem_cons_of_mem _ hg) hgc
        rw [cntN_cons, if_neg (fun e => hc (by rw [counted_name, e, ← counted_name]; exact hgc))] at h4
        exact ⟨h4, h5⟩
theorem rG_head (L : List Fld) : rG L L false = (headGo L 0 []).isSome := by
  rw [rG_split, headGo_split, show decide (0 < 0) = false from rfl]
  congr 1
  rw [Bool.eq_iff_iff, dG_iff, List.all_eq_true]
  constructor
  · intro h f hf hc
    have := h f hf
    rw [hc, Bool.and_true] at this
    exact ⟨by simpa using this, rfl⟩
  · intro h f hf
    by_cases hc : countedB f = true
    · have := (h f hf hc).1
      rw [hc, Bool.and_true, decide_eq_false (by omega)]
      rfl
    · have hc' : countedB f = false := by simpa using hc
      rw [hc', Bool.and_false]
      rfl
theorem has_cnt (l : List Fld) (n : ByteArray) : hasN l n = decide (0 < cntN l n) := by
  rw [Bool.eq_iff_iff, decide_eq_true_iff]
  unfold hasN cntN
  rw [List.any_eq_true, List.countP_pos_iff]
theorem has_filter (L : List Fld) {n : ByteArray} (hn : countS n = true) : hasN (L.filter countedB) n = hasN L n := by
  induction L with
  | nil => rfl
  | cons f l ih =>
    rw [hasN_cons]
    by_cases hc : countedB f = true
    · rw [List.filter_cons_of_pos hc, hasN_cons, ih]
    · rw [List.filter_cons_of_neg hc, ih, decide_eq_false (fun e => hc (by rw [counted_name, e]; exact hn)), Bool.false_or]
theorem val_filter (L : List Fld) {n : ByteArray} (hn : countS n = true) : valN (L.filter countedB) n = valN L n := by
  induction L with
  | nil => rfl
  | cons f l ih =>
    rw [valN_cons]
    by_cases hc : countedB f = true
    · rw [List.filter_cons_of_pos hc, valN_cons, ih]
    · rw [List.filter_cons_of_neg hc, ih, if_neg (fun e => hc (by rw [counted_name, e]; exact hn))]
theorem nps_filter (L : List Fld) : nps (L.filter countedB) = nps L := by
  induction L with
  | nil => rfl
  | cons f l ih =>
    rw [nps_cons]
    by_cases hc : countedB f = true
    · rw [List.filter_cons_of_pos hc, nps_cons, ih]
    · have hp : ¬ pseudoB f = true := fun e => hc (by unfold countedB; rw [e]; rfl)
      rw [List.filter_cons_of_neg hc, ih, if_neg hp]
      rfl
theorem head_filter {L c : List Fld} (h : headGo L 0 [] = some c) : c = L.filter countedB := by
  have := headGo_mem _ _ _ _ h
  rw [List.nil_append] at this
  exact this
theorem refRight_head (L : List Fld) : refRightF L = (headF L).isSome := by
  unfold refRightF headF
  rw [rG_head]
  cases h : headGo L 0 [] with
  | none => rfl
  | some c =>
    have hc := head_filter h
    simp only [Option.isSome_some, Bool.true_and]
    unfold endH
    rw [hc, has_filter _ (show countS clN = true by decide +kernel), val_filter _ (show countS clN = true by decide +kernel), has_cnt]
    by_cases h0 : cntN L clN = 0
    · rw [decide_eq_true h0, decide_eq_false (by omega)]
      rfl
    · rw [decide_eq_false h0, decide_eq_true (by omega), if_pos rfl, Bool.false_or]
      cases h2 : (decF (valN L clN) 999999999).2 with
      | true => rfl
      | false => rfl
/-- What a right head holds, by the document's counts. -/
structure RefIs (L c : List Fld) (m : ByteArray) (n : Int) : Prop where
  cnt : ∀ nm, countS nm = true → cntN L nm = b2n (hasN c nm)
  val : ∀ nm, countS nm = true → valN L nm = valN c nm
  nps : nps L = nps c
  media : mediaF (valN L ctN) = m
  len0 : cntN L clN = 0 → n = -1
  len1 : cntN L clN ≠ 0 → (decF (valN L clN) 999999999) = (n, true)
theorem head_ref {L c : List Fld} {m : ByteArray} {n : Int} (h : headF L = some (c, m, n)) : RefIs L c m n := by
  unfold headF at h
  cases h1 : headGo L 0 [] with
  | none => rw [h1] at h; exact absurd h (by simp)
  | some c' =>
    rw [h1] at h
    simp only [] at h
    have hc := head_filter h1
    have hd : dG L [] = true := by
      have := headGo_split L 0 []
      rw [h1, Option.isSome_some] at this
      have := this.symm
      rw [Bool.and_eq_true] at this
      exact this.2
    rw [dG_iff] at hd
    have e : c' = c ∧ mediaF (valN c' ctN) = m ∧ (hasN c' clN = false → n = -1) ∧ (hasN c' clN = true → decF (valN c' clN) 999999999 = (n, true)) := by
      unfold endH at h
      by_cases h2 : hasN c' clN = true
      · rw [if_pos h2] at h
        by_cases h3 : (decF (valN c' clN) 999999999).2 = true
        · rw [if_pos h3] at h
          obtain ⟨e1, e2⟩ := Prod.mk.inj (Option.some.inj h)
          obtain ⟨e3, e4⟩ := Prod.mk.inj e2
          exact ⟨e1, e3, fun hh => absurd (h2.symm.trans hh) (by decide), fun _ => Prod.ext e4 h3⟩
        · rw [if_neg h3] at h
          exact absurd h (by simp)
      · rw [if_neg h2] at h
        obtain ⟨e1, e2⟩ := Prod.mk.inj (Option.some.inj h)
        obtain ⟨e3, e4⟩ := Prod.mk.inj e2
        exact ⟨e1, e3, fun _ => e4.symm, fun hh => absurd hh h2⟩
    obtain ⟨rfl, e2, e3, e4⟩ := e
    have hcl : countS clN = true := by decide +kernel
    have hct : countS ctN = true := by decide +kernel
    have hcnt : ∀ nm, countS nm = true → cntN L nm = b2n (hasN c' nm) := by
      intro nm hn
      rw [hc, has_filter _ hn, has_cnt]
      by_cases h0 : cntN L nm = 0
      · rw [h0]; rfl
      · have : ∃ g ∈ L, g.1 = nm := by
          refine Classical.byContradiction fun hh => h0 (cnt_zero.2 fun g hg e => hh ⟨g, hg, e⟩)
        obtain ⟨g, hg, e⟩ := this
        have h5 := (hd g hg (by rw [counted_name, e]; exact hn)).1
        rw [e] at h5
        rw [decide_eq_true (by omega)]
        show cntN L nm = 1
        omega
    have hv : ∀ nm, countS nm = true → valN L nm = valN c' nm := fun nm hn => by rw [hc, val_filter _ hn]
    refine ⟨hcnt, hv, by rw [hc, nps_filter], by rw [hv _ hct]; exact e2, fun h0 => e3 ?_, fun h0 => ?_⟩
    · rw [hc, has_filter _ hcl, has_cnt, h0]
      rfl
    · rw [hv _ hcl]
      exact e4 (by rw [hc, has_filter _ hcl, has_cnt]; exact decide_eq_true (by omega))
/-- A status of three digits. -/
theorem three_digits {v : ByteArray} (h : (decF v 599).2 = true) (h1 : 100 ≤ (decF v 599).1) : v.size = 3 := by
  unfold decF at h h1
  by_cases c1 : v.size < 1 ∨ 9 < v.size ∨ (1 < v.size ∧ bt v 0 = 48)
  · rw [if_pos c1] at h; exact absurd h (by decide)
  rw [if_neg c1] at h h1
  by_cases c2 : (bytesOf v).all digI = false
  · rw [if_pos c2] at h; exact absurd h (by decide)
  rw [if_neg c2] at h h1
  by_cases c3 : 599 < valD 0 (bytesOf v)
  · rw [if_pos c3] at h; exact absurd h (by decide)
  rw [if_neg c3] at h1
  have h1 : 100 ≤ valD 0 (bytesOf v) := h1
  have hd : (bytesOf v).all digI = true := by simpa using c2
  have hl : (bytesOf v).length = v.size := bytesOf_length v
  have hz : 1 < (bytesOf v).length → (bytesOf v).getD 0 0 ≠ 48 := by
    intro hh e
    have h3 := bt_getD v 0
    rw [e] at h3
    exact c1 (.inr (.inr ⟨by omega, h3.symm⟩))
  have hb := dg_back (v.size - 1) (bytesOf v) (by rw [hl]; omega) hd hz
  have h4 := (dg_ok (valD 0 (bytesOf v)).toNat).2.2.2.1
  have h5 := dg_len 2 (valD 0 (bytesOf v)).toNat (by omega)
  rw [hb, hl] at h4 h5
  have h6 : 100 < 10 ^ v.size := by omega
  rcases Nat.lt_or_ge v.size 3 with hh | hh
  · have : v.size = 1 ∨ v.size = 2 := by omega
    rcases this with e | e <;> rw [e] at h6 <;> exact absurd h6 (by decide)
  · omega
end Go.Proofs.YtdpoookgmckclaaDoor.M
