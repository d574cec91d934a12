/- The plain law of HeadWrong: each of these fields behind a right request, and a counted one a second time, makes it wrong. -/
import Derived.Test.YtdpoookgmckclaaDoorMHOther
set_option linter.unusedVariables false
set_option linter.unusedSimpArgs false
namespace Go.Proofs.YtdpoookgmckclaaDoor.M
open Go.RowKit Go.Maps Go.Proofs.YtdpoookgmckclaaDoorW.PrintWords Go.Proofs.YtdpoookgmckclaaDoorW.PrintLast Go.Proofs.YtdpoookgmckclaaDoorW.PrintMore
def w0F : Fld := (⟨#[88]⟩, ⟨#[121]⟩)
def w1F : Fld := (b1N, ⟨#[99, 108, 111, 115, 101]⟩)
def w2F : Fld := (teN, ⟨#[103, 122, 105, 112]⟩)
def w3F : Fld := (⟨#[120]⟩, ⟨#[32, 121]⟩)
def w4F : Fld := (⟨#[]⟩, ⟨#[121]⟩)
def w5F : Fld := (b4N, ⟨#[99, 104, 117, 110, 107, 101, 100]⟩)
def w6F : Fld := (clN, ⟨#[48, 49]⟩)
def w7F : Fld := (⟨#[58, 111, 116, 104, 101, 114]⟩, ⟨#[121]⟩)
def w8F : Fld := (meN, ⟨#[71, 69, 84]⟩)
def w9F : Fld := (⟨#[120, 32, 121]⟩, ⟨#[122]⟩)
def wrongL : List Fld := [w0F, w1F, w2F, w3F, w4F, w5F, w6F, w7F, w8F, w9F]
theorem endH_fst {c c' : List Fld} {m : ByteArray} {n : Int} (h : endH c = some (c', m, n)) : c' = c := by
  unfold endH at h
  split at h
  · split at h
    · exact (Prod.mk.inj (Option.some.inj h)).1.symm
    · exact absurd h (by simp)
  · exact (Prod.mk.inj (Option.some.inj h)).1.symm
theorem request_of {l c : List Fld} (h : headGo l 0 [] = some c) (hn : endH c = none ∨ reqOk c = false) : requestF l = none := by
  unfold requestF headF
  rw [h]
  simp only []
  cases he : endH c with
  | none => rfl
  | some y =>
    obtain ⟨c', m, n⟩ := y
    obtain rfl := endH_fst he
    simp only []
    rw [if_neg]
    rcases hn with hn | hn
    · rw [he] at hn; exact absurd hn (by simp)
    · rw [hn]; decide
theorem wrong_six {l : List Fld} {x : ByteArray × ByteArray × ByteArray × Int} (h : requestF l = some x) : requestF (l ++ [w6F]) = none := by
  obtain ⟨c, m, n, h1, h2, h3, h4⟩ := request_head h
  have hc : countedB w6F = true := by decide +kernel
  by_cases ho : oneB w6F (othersN l) c = true
  · refine request_of (c := addC c w6F) (by rw [head_one h1, if_pos ho]) (.inl ?_)
    unfold oneB at ho
    simp only [Bool.and_eq_true, Bool.not_eq_true', hc, Bool.true_and] at ho
    have hh := ho.2.2.2
    have ha : addC c w6F = c ++ [w6F] := if_pos hc
    rw [ha]
    unfold endH
    have hv : valN (c ++ [w6F]) clN = ⟨#[48, 49]⟩ := by
      rw [valN_app, if_neg (by rw [show clN = w6F.1 from rfl, hh]; decide), valN_cons, if_pos (show w6F.1 = clN from rfl)]
      rfl
    rw [hv, hasN_app, hasN_one, show decide (w6F.1 = clN) = true from decide_eq_true rfl, Bool.or_true, if_pos rfl, if_neg (by decide +kernel)]
  · exact request_none (by rw [head_one h1, if_neg ho])
theorem wrong_seven {l : List Fld} {x : ByteArray × ByteArray × ByteArray × Int} (h : requestF l = some x) : requestF (l ++ [w7F]) = none := by
  obtain ⟨c, m, n, h1, h2, h3, h4⟩ := request_head h
  have hc : countedB w7F = true := by decide +kernel
  have hp : pseudoB w7F = true := by decide +kernel
  by_cases ho : oneB w7F (othersN l) c = true
  · refine request_of (c := addC c w7F) (by rw [head_one h1, if_pos ho]) (.inr ?_)
    have ha : addC c w7F = c ++ [w7F] := if_pos hc
    rw [ha]
    have hn := (reqOk_parts h3).2.2.2
    have e1 : nps (c ++ [w7F]) = nps c + 1 := by rw [nps_app]; simp [nps, hp]
    have e2 : hasN (c ++ [w7F]) auN = hasN c auN := by rw [hasN_app, hasN_one, show decide (w7F.1 = auN) = false by decide +kernel, Bool.or_false]
    unfold reqOk
    rw [e1, e2, decide_eq_false (show ¬ nps c + 1 = 3 + b2n (hasN c auN) by omega)]
    simp
  · exact request_none (by rw [head_one h1, if_neg ho])
theorem wrong_eight {l : List Fld} {x : ByteArray × ByteArray × ByteArray × Int} (h : requestF l = some x) : requestF (l ++ [w8F]) = none := by
  refine wrong_twice h (by decide +kernel) ?_
  obtain ⟨c, m, n, h1, h2, h3, h4⟩ := request_head h
  have hd := headGo_mem _ _ _ _ h1
  rw [List.nil_append] at hd
  obtain ⟨g, hg, e⟩ := List.any_eq_true.1 (reqOk_parts h3).1
  rw [hd] at hg
  exact ⟨g, (List.mem_filter.1 hg).1, of_decide_eq_true e, (List.mem_filter.1 hg).2⟩
theorem wrong_all {l : List Fld} {x : ByteArray × ByteArray × ByteArray × Int} (h : requestF l = some x) : ∀ f ∈ wrongL, requestF (l ++ [f]) = none := by
  intro f hf
  simp only [wrongL, List.mem_cons, List.not_mem_nil, or_false] at hf
  rcases hf with rfl | rfl | rfl | rfl | rfl | rfl | rfl | rfl | rfl | rfl
  · exact wrong_one h (.inl (by decide +kernel))
  · exact wrong_one h (.inr (by decide +kernel))
  · exact wrong_one h (.inr (by decide +kernel))
  · exact wrong_one h (.inl (by decide +kernel))
  · exact wrong_one h (.inl (by decide +kernel))
  · exact wrong_one h (.inr (by decide +kernel))
  · exact wrong_six h
  · exact wrong_seven h
  · exact wrong_eight h
  · exact wrong_one h (.inl (by decide +kernel))
/-- A field of a right request has a name; and it is not counted, or may not stand there twice. -/
theorem wrong_at {l : List Fld} {x : ByteArray × ByteArray × ByteArray × Int} (h : requestF l = some x) {f : Fld} (hf : f ∈ l) : f.1.size ≠ 0 ∧ (requestF (l ++ [f]) = none ∨ (bt f.1 0 ≠ 58 ∧ f.1 ≠ clN ∧ f.1 ≠ ctN)) := by
  obtain ⟨c, m, n, h1, h2, h3, h4⟩ := request_head h
  obtain ⟨a1, a2, a3, a4⟩ := (headGo_iff l 0 [] c).1 h1
  have hr := (a1 f hf).1
  have hz : f.1.size ≠ 0 := by
    intro e
    have hnp : pseudoS f.1 = false := by unfold pseudoS; rw [decide_eq_false (by omega : ¬ f.1.size ≠ 0)]; rfl
    unfold rightFB trimP tokenF at hr
    rw [hnp] at hr
    simp [e] at hr
  refine ⟨hz, ?_⟩
  by_cases hc : countedB f = true
  · exact .inl (wrong_twice h hc ⟨f, hf, rfl, hc⟩)
  · right
    have hc' : countedB f = false := by simpa using hc
    unfold countedB pseudoB pseudoS at hc'
    simp only [Bool.or_eq_false_iff, Bool.and_eq_false_iff, decide_eq_false_iff_not] at hc'
    obtain ⟨k1, k2, k3⟩ := hc'
    exact ⟨k1.resolve_left (fun e => e hz), k2, k3⟩
end Go.Proofs.YtdpoookgmckclaaDoor.M
