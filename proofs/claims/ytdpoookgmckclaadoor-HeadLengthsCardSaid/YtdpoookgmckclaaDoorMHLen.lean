/- The plain law of HeadLengths: a content-length is told as its number, or the head is wrong. -/
import Derived.Test.YtdpoookgmckclaaDoorMHWrong
import Derived.Test.YtdpoookgmckclaaDoorMDigs
set_option linter.unusedVariables false
set_option linter.unusedSimpArgs false
namespace Go.Proofs.YtdpoookgmckclaaDoor.M
open Go.RowKit Go.Maps Go.Proofs.YtdpoookgmckclaaDoorW.PrintWords Go.Proofs.YtdpoookgmckclaaDoorW.PrintLast Go.Proofs.YtdpoookgmckclaaDoorW.PrintMore
def l0F : Fld := (meN, ⟨#[71, 69, 84]⟩)
def l1F : Fld := (scN, ⟨#[104, 116, 116, 112, 115]⟩)
def l2F : Fld := (paN, ⟨#[47]⟩)
def s0F : Fld := (stN, ⟨#[50, 48, 48]⟩)
theorem one_cl (v : ByteArray) (o : Nat) (c : List Fld) (h : hasN c clN = false) : oneB (clN, v) o c = valueF v := by
  have h1 : tokenF (trimP clN) = true := by decide +kernel
  have h2 : decide (foldS (trimP clN) = trimP clN) = true := by decide +kernel
  have h3 : pseudoS clN = false := by decide +kernel
  have h4 : barredB (clN, v) = false := by
    unfold barredB
    rw [if_neg (show ¬ (clN = b1N ∨ clN = b2N ∨ clN = b3N ∨ clN = b4N ∨ clN = b5N) by decide +kernel), if_neg (show ¬ clN = teN by decide +kernel)]
  unfold oneB rightFB
  rw [h4]
  simp only [h1, h2, h, Bool.true_and, Bool.and_false, Bool.not_false, Bool.and_true]
  unfold pseudoB
  rw [h3]
  simp
theorem counted_cl (v : ByteArray) : countedB (clN, v) = true := by
  unfold countedB
  simp
theorem head_req (v : ByteArray) : headGo [l0F, l1F, l2F, (clN, v)] 0 [] = if valueF v = true then some [l0F, l1F, l2F, (clN, v)] else none := by
  have h1 : headGo [l0F, l1F, l2F] 0 [] = some [l0F, l1F, l2F] := by decide +kernel
  rw [show [l0F, l1F, l2F, (clN, v)] = [l0F, l1F, l2F] ++ [(clN, v)] from rfl, head_one h1, one_cl _ _ _ (by decide +kernel)]
  by_cases h : valueF v = true
  · rw [if_pos h, if_pos h]
    unfold addC
    rw [if_pos (counted_cl v)]
  · rw [if_neg h, if_neg h]
theorem head_res (v : ByteArray) : headGo [s0F, (clN, v)] 0 [] = if valueF v = true then some [s0F, (clN, v)] else none := by
  have h1 : headGo [s0F] 0 [] = some [s0F] := by decide +kernel
  rw [show [s0F, (clN, v)] = [s0F] ++ [(clN, v)] from rfl, head_one h1, one_cl _ _ _ (by decide +kernel)]
  by_cases h : valueF v = true
  · rw [if_pos h, if_pos h]
    unfold addC
    rw [if_pos (counted_cl v)]
  · rw [if_neg h, if_neg h]
theorem n1 : (l0F.1 = clN) = False := by rw [eq_iff_iff]; exact ⟨fun h => absurd h (by decide +kernel), False.elim⟩
theorem val_cl3 (v : ByteArray) : valN [l0F, l1F, l2F, (clN, v)] clN = v := by
  rw [valN_cons, if_neg (by decide +kernel), valN_cons, if_neg (by decide +kernel), valN_cons, if_neg (by decide +kernel), valN_cons, if_pos rfl]
theorem val_cl1 (v : ByteArray) : valN [s0F, (clN, v)] clN = v := by
  rw [valN_cons, if_neg (by decide +kernel), valN_cons, if_pos rfl]
theorem has_cl3 (v : ByteArray) : hasN [l0F, l1F, l2F, (clN, v)] clN = true := by
  rw [hasN_cons, hasN_cons, hasN_cons, hasN_cons, decide_eq_true (show ((clN, v) : Fld).1 = clN from rfl)]
  simp
theorem has_cl1 (v : ByteArray) : hasN [s0F, (clN, v)] clN = true := by
  rw [hasN_cons, hasN_cons, decide_eq_true (show ((clN, v) : Fld).1 = clN from rfl)]
  simp
def getV : ByteArray := ⟨#[71, 69, 84]⟩
def slashV : ByteArray := ⟨#[47]⟩
theorem req_ok3 (v : ByteArray) : reqOk [l0F, l1F, l2F, (clN, v)] = true := by
  have hp : pseudoB (clN, v) = false := by unfold pseudoB; exact (by decide +kernel : pseudoS clN = false)
  have e1 : hasN [l0F, l1F, l2F, (clN, v)] meN = true := by rw [hasN_cons, decide_eq_true (show l0F.1 = meN from rfl)]; rfl
  have e2 : hasN [l0F, l1F, l2F, (clN, v)] scN = true := by rw [hasN_cons, hasN_cons, decide_eq_true (show l1F.1 = scN from rfl)]; simp
  have e3 : hasN [l0F, l1F, l2F, (clN, v)] paN = true := by rw [hasN_cons, hasN_cons, hasN_cons, decide_eq_true (show l2F.1 = paN from rfl)]; simp
  have e4 : hasN [l0F, l1F, l2F, (clN, v)] auN = false := by
    rw [hasN_cons, hasN_cons, hasN_cons, hasN_cons, decide_eq_false (by decide +kernel : ¬ l0F.1 = auN), decide_eq_false (by decide +kernel : ¬ l1F.1 = auN), decide_eq_false (by decide +kernel : ¬ l2F.1 = auN), decide_eq_false (by decide +kernel : ¬ clN = auN)]
    rfl
  have e5 : nps [l0F, l1F, l2F, (clN, v)] = 3 := by
    rw [show [l0F, l1F, l2F, (clN, v)] = [l0F, l1F, l2F] ++ [(clN, v)] from rfl, nps_app, show nps [l0F, l1F, l2F] = 3 by decide +kernel]
    simp [nps, hp]
  have v1 : valN [l0F, l1F, l2F, (clN, v)] meN = getV := by rw [valN_cons, if_pos (show l0F.1 = meN from rfl)]; rfl
  have v2 : valN [l0F, l1F, l2F, (clN, v)] paN = slashV := by rw [valN_cons, if_neg (by decide +kernel), valN_cons, if_neg (by decide +kernel), valN_cons, if_pos (show l2F.1 = paN from rfl)]; rfl
  have v3 : valN [l0F, l1F, l2F, (clN, v)] scN = l1F.2 := by rw [valN_cons, if_neg (by decide +kernel), valN_cons, if_pos (show l1F.1 = scN from rfl)]
  unfold reqOk
  rw [e1, e2, e3, e4, e5, v1, v2, v3]
  decide +kernel
/-- The request's length. -/
theorem len_req (v : ByteArray) : requestF [l0F, l1F, l2F, (clN, v)] = if valueF v = true ∧ (decF v 999999999).2 = true then some (getV, slashV, ⟨#[]⟩, (decF v 999999999).1) else none := by
  unfold requestF headF
  rw [head_req]
  by_cases h : valueF v = true
  · rw [if_pos h]
    simp only []
    unfold endH
    rw [if_pos (has_cl3 v), val_cl3]
    by_cases h2 : (decF v 999999999).2 = true
    · rw [if_pos h2, if_pos ⟨h, h2⟩]
      simp only [req_ok3, if_true]
      rw [show valN [l0F, l1F, l2F, (clN, v)] meN = getV by rw [valN_cons, if_pos (show l0F.1 = meN from rfl)]; rfl]
      rw [show valN [l0F, l1F, l2F, (clN, v)] paN = slashV by rw [valN_cons, if_neg (by decide +kernel), valN_cons, if_neg (by decide +kernel), valN_cons, if_pos (show l2F.1 = paN from rfl)]; rfl]
      rw [show valN [l0F, l1F, l2F, (clN, v)] ctN = ⟨#[]⟩ by rw [valN_cons, if_neg (by decide +kernel), valN_cons, if_neg (by decide +kernel), valN_cons, if_neg (by decide +kernel), valN_cons, if_neg (show ¬ clN = ctN by decide +kernel)]; rfl]
      rw [show mediaF ⟨#[]⟩ = ⟨#[]⟩ by decide +kernel]
    · rw [if_neg h2, if_neg (fun e => h2 e.2)]
  · rw [if_neg h, if_neg (fun e => h e.1)]
theorem len_res (v : ByteArray) : responseF [s0F, (clN, v)] = if valueF v = true ∧ (decF v 999999999).2 = true then some (200, ⟨#[]⟩, (decF v 999999999).1) else none := by
  have hp : pseudoB (clN, v) = false := by unfold pseudoB; exact (by decide +kernel : pseudoS clN = false)
  unfold responseF headF
  rw [head_res]
  by_cases h : valueF v = true
  · rw [if_pos h]
    simp only []
    unfold endH
    rw [if_pos (has_cl1 v), val_cl1]
    by_cases h2 : (decF v 999999999).2 = true
    · rw [if_pos h2, if_pos ⟨h, h2⟩]
      simp only []
      have e5 : nps [s0F, (clN, v)] = 1 := by
        rw [show [s0F, (clN, v)] = [s0F] ++ [(clN, v)] from rfl, nps_app, show nps [s0F] = 1 by decide +kernel]
        simp [nps, hp]
      have e1 : hasN [s0F, (clN, v)] stN = true := by rw [hasN_cons, decide_eq_true (show s0F.1 = stN from rfl)]; rfl
      have e2 : valN [s0F, (clN, v)] stN = s0F.2 := by rw [valN_cons, if_pos (show s0F.1 = stN from rfl)]
      have e3 : valN [s0F, (clN, v)] ctN = ⟨#[]⟩ := by rw [valN_cons, if_neg (by decide +kernel), valN_cons, if_neg (show ¬ clN = ctN by decide +kernel)]; rfl
      rw [if_pos ⟨e5, e1⟩, e2, if_pos (by decide +kernel), e3, show mediaF ⟨#[]⟩ = ⟨#[]⟩ by decide +kernel, show (decF s0F.2 599).1 = 200 by decide +kernel]
    · rw [if_neg h2, if_neg (fun e => h2 e.2)]
  · rw [if_neg h, if_neg (fun e => h e.1)]
theorem dig_shown (c : Int) (h : digI c = true) : shownI c = true ∧ blankI c = false := by
  unfold digI inI at h
  have h := of_decide_eq_true h
  unfold shownI blankI
  exact ⟨decide_eq_true (by omega), decide_eq_false (by omega)⟩
theorem digs_value {s : ByteArray} (h : (bytesOf s).all digI = true) : valueF s = true := by
  rw [List.all_eq_true] at h
  have hb : ∀ j : Nat, j < s.size → digI (bt s (j : Int)) = true := by
    intro j hj
    have hl : j < (bytesOf s).length := by rw [bytesOf_length]; exact hj
    have h1 := bt_getD s j
    rw [List.getD_eq_getElem?_getD, List.getElem?_eq_getElem hl, Option.getD_some] at h1
    rw [← h1]
    exact h _ (List.getElem_mem hl)
  unfold valueF
  rw [Bool.and_eq_true]
  refine ⟨List.all_eq_true.2 fun c hc => (dig_shown c (h c hc)).1, ?_⟩
  by_cases hz : s.size = 0
  · simp [hz]
  · have h1 := (dig_shown _ (hb 0 (by omega))).2
    have h2 := (dig_shown _ (hb (s.size - 1) (by omega))).2
    rw [show ((0 : Nat) : Int) = 0 from rfl] at h1
    simp [hz, h1, h2]
/-- The texts that are no numbers. -/
def badV (v : ByteArray) : Nat → ByteArray
  | 0 => ⟨#[43]⟩ ++ v
  | 1 => ⟨#[48]⟩ ++ v
  | 2 => v ++ ⟨#[120]⟩
  | 3 => ⟨#[45]⟩ ++ v
  | 4 => (v ++ ⟨#[32]⟩) ++ v
  | _ => ⟨#[]⟩
theorem num_digs {n : Int} (h0 : 0 ≤ n) : (bytesOf (numF n)).all digI = true ∧ 1 ≤ (numF n).size := by
  have hd := dg_ok n.toNat
  have hb : bytesOf (numF n) = dgI n.toNat := by
    unfold numF
    rw [if_neg (by omega)]
    rfl
  rw [hb]
  refine ⟨hd.1, ?_⟩
  rw [← bytesOf_length, hb]
  exact hd.2.2.1
theorem bad_dec {n : Int} (h0 : 0 ≤ n) (k : Nat) : (decF (badV (numF n) k) 999999999).2 = false := by
  obtain ⟨h1, h2⟩ := num_digs h0
  obtain ⟨v, hv⟩ : ∃ v, numF n = v := ⟨_, rfl⟩
  rw [hv] at h1 h2 ⊢
  have hno : ∀ s : ByteArray, (bytesOf s).all digI = false → (decF s 999999999).2 = false := fun s h => by rw [dec_not s _ h]
  match k with
  | 0 => exact hno _ (by show (bytesOf (⟨#[43]⟩ ++ v)).all digI = false; rw [tb_app, List.all_append]; rw [show (bytesOf ⟨#[43]⟩).all digI = false by decide +kernel]; rfl)
  | 1 =>
    show (decF (⟨#[48]⟩ ++ v) 999999999).2 = false
    have hz : (⟨#[48]⟩ ++ v).size = 1 + v.size := by rw [ByteArray.size_append]; rfl
    have hb : bt (⟨#[48]⟩ ++ v) 0 = 48 := by
      have := bt_getD (⟨#[48]⟩ ++ v) 0
      rw [tb_app] at this
      exact this.symm
    unfold decF
    rw [if_pos (.inr (.inr ⟨by omega, hb⟩))]
  | 2 => exact hno _ (by show (bytesOf (v ++ ⟨#[120]⟩)).all digI = false; rw [tb_app, List.all_append, show (bytesOf ⟨#[120]⟩).all digI = false by decide +kernel, Bool.and_false])
  | 3 => exact hno _ (by show (bytesOf (⟨#[45]⟩ ++ v)).all digI = false; rw [tb_app, List.all_append]; rw [show (bytesOf ⟨#[45]⟩).all digI = false by decide +kernel]; rfl)
  | 4 => exact hno _ (by show (bytesOf ((v ++ ⟨#[32]⟩) ++ v)).all digI = false; rw [tb_app, List.all_append, tb_app, List.all_append, show (bytesOf ⟨#[32]⟩).all digI = false by decide +kernel, Bool.and_false, Bool.false_and])
  | k + 5 => exact (by decide +kernel : (decF ⟨#[]⟩ 999999999).2 = false)
structure LenIs (n : Int) (v : ByteArray) : Prop where
  req : requestF [l0F, l1F, l2F, (clN, v)] = some (getV, slashV, ⟨#[]⟩, n)
  res : responseF [s0F, (clN, v)] = some (200, ⟨#[]⟩, n)
  bad : ∀ k, requestF [l0F, l1F, l2F, (clN, badV v k)] = none ∧ responseF [s0F, (clN, badV v k)] = none
theorem len_law {n : Int} (h0 : 0 ≤ n) (h1 : n ≤ 999999999) : LenIs n (numF n) := by
  have hd : decF (numF n) 999999999 = (n, true) := by rw [dec_num, if_pos ⟨h0, h1⟩]
  have hv := digs_value (num_digs h0).1
  constructor
  · rw [len_req, if_pos ⟨hv, by rw [hd]⟩, hd]
  · rw [len_res, if_pos ⟨hv, by rw [hd]⟩, hd]
  · intro k
    have hb := bad_dec h0 k
    exact ⟨by rw [len_req, if_neg (fun e => by rw [hb] at e; exact absurd e.2 (by decide))], by rw [len_res, if_neg (fun e => by rw [hb] at e; exact absurd e.2 (by decide))]⟩
end Go.Proofs.YtdpoookgmckclaaDoor.M
