/- The law TextMedias: the plain law. -/
import Derived.Test.YtfoflodgegehfaaDoorMFolds
set_option linter.unusedVariables false
set_option linter.unusedSimpArgs false
namespace Go.Proofs.YtfoflodgegehfaaDoor.M
open Go.RowKit Go.Maps Go.Proofs.YtfoflodgegehfaaDoorW.PrintWords Go.Proofs.YtfoflodgegehfaaDoorW.PrintLast Go.Proofs.YtfoflodgegehfaaDoorW.PrintMore
attribute [local go_sem] max2_int min2_int max_two min_two max_three min_three max_four min_four
attribute [local go_sem ↓] Go.wp_at_zero Go.wp_at_succ
/-- A sign that is no blank and no semicolon. -/
def solid (c : Int) : Prop := blankI c = false ∧ c ≠ 59
theorem solid_fold {c : Int} (h : solid c) : solid (foldI c) := by
  unfold foldI
  split
  · unfold solid blankI
    refine ⟨?_, by omega⟩
    simp
    omega
  · exact h
theorem solid_sign {c : Int} (h : signI c = true) : solid c := by
  refine ⟨?_, ?_⟩
  · cases hb : blankI c with
    | false => rfl
    | true =>
      exfalso
      have : c = 32 ∨ c = 9 := by
        unfold blankI at hb
        simp at hb
        omega
      rcases this with rfl | rfl
      · exact absurd h (by decide)
      · exact absurd h (by decide)
  · rintro rfl
    exact absurd h (by decide)
theorem head_all (l : List Int) (h : ∀ c ∈ l, c ≠ 59) : headI l 59 = l := by
  have := List.takeWhile_append_of_pos (p := fun x : Int => x != 59) (l₁ := l) (l₂ := []) (by intro c hc; simp [h c hc])
  rw [List.append_nil] at this
  unfold headI
  rw [this]
  simp
theorem head_semi (l m : List Int) (h : ∀ c ∈ l, c ≠ 59) : headI (l ++ 59 :: m) 59 = l := by
  unfold headI
  rw [List.takeWhile_append_of_pos (by intro c hc; simp [h c hc])]
  simp
theorem trimL_blank (a l : List Int) (h : ∀ c ∈ a, blankI c = true) : trimL (a ++ l) = trimL l := by
  unfold trimL
  exact List.dropWhile_append_of_pos h
theorem trimR_blank (l b : List Int) (h : ∀ c ∈ b, blankI c = true) : trimR (l ++ b) = trimR l := by
  unfold trimR
  rw [List.reverse_append, List.dropWhile_append_of_pos (by intro c hc; exact h c (List.mem_reverse.1 hc))]
theorem trimL_solid (l m : List Int) (h : ∀ c ∈ l, blankI c = false) (hl : l ≠ []) : trimL (l ++ m) = l ++ m := by
  cases l with
  | nil => exact absurd rfl hl
  | cons c l =>
    unfold trimL
    rw [List.cons_append, List.dropWhile_cons, h c (List.mem_cons_self ..)]
    rfl
theorem trimR_solid (a l : List Int) (h : ∀ c ∈ l, blankI c = false) (hl : l ≠ []) : trimR (a ++ l) = a ++ l := by
  rcases List.eq_nil_or_concat l with rfl | ⟨m, z, rfl⟩
  · exact absurd rfl hl
  rw [List.concat_eq_append] at h ⊢
  rw [← List.append_assoc, trimR_snoc, h z (by simp)]
  rfl
theorem trim_law (a b l : List Int) (ha : ∀ c ∈ a, blankI c = true) (hb : ∀ c ∈ b, blankI c = true) (h : ∀ c ∈ l, blankI c = false) (hl : l ≠ []) : trimL (trimR (a ++ l ++ b)) = l := by
  rw [trimR_blank _ _ hb, trimR_solid _ _ h hl, trimL_blank _ _ ha]
  have := trimL_solid l [] h hl
  simpa using this
theorem media_of (s u : ByteArray) (a b m : List Int) (ha : ∀ c ∈ a, blankI c = true) (hb : ∀ c ∈ b, blankI c = true) (hs : ∀ c ∈ bytesOf s, solid c) (hn : s.size ≠ 0) (hu : bytesOf u = a ++ bytesOf s ++ b ∨ bytesOf u = a ++ bytesOf s ++ b ++ 59 :: m) : mediaF u = foldS s := by
  have hl : bytesOf s ≠ [] := fun e => hn (by rw [← bytesOf_length s, e]; rfl)
  have hne : ∀ c ∈ a ++ bytesOf s ++ b, c ≠ 59 := by
    intro c hc
    rw [List.mem_append, List.mem_append] at hc
    rcases hc with (hc | hc) | hc
    · rintro rfl; exact absurd (ha _ hc) (by decide)
    · exact (hs c hc).2
    · rintro rfl; exact absurd (hb _ hc) (by decide)
  have hh : headI (bytesOf u) 59 = a ++ bytesOf s ++ b := by
    rcases hu with hu | hu
    · rw [hu, head_all _ hne]
    · rw [hu, head_semi _ _ hne]
  have hr : ∀ c ∈ a ++ bytesOf s ++ b, 0 ≤ c ∧ c < 256 := by
    intro c hc
    have : c ∈ bytesOf u := by
      rcases hu with hu | hu
      · rw [hu]; exact hc
      · rw [hu]; exact List.mem_append_left _ hc
    exact tb_range u c this
  unfold mediaF trimF
  rw [hh, tb_byt hr, trim_law _ _ _ ha hb (fun c hc => (hs c hc).1) hl, tb_str]
theorem solid_all {s : ByteArray} (h : tokenF s = true) : (∀ c ∈ bytesOf s, solid c) ∧ s.size ≠ 0 := by
  unfold tokenF at h
  simp only [Bool.and_eq_true, Bool.not_eq_true', decide_eq_false_iff_not, List.all_eq_true] at h
  exact ⟨fun c hc => solid_sign (h.2 c hc), h.1⟩
theorem solid_folds {s : ByteArray} (h : ∀ c ∈ bytesOf s, solid c) : ∀ c ∈ bytesOf (foldS s), solid c := by
  intro c hc
  rw [fold_bytes] at hc
  obtain ⟨x, hx, rfl⟩ := List.mem_map.1 hc
  exact solid_fold (h x hx)
/-- So many blanks. -/
def spcF : Nat → ByteArray
  | 0 => ⟨#[]⟩
  | n + 1 => spcF n ++ ⟨#[32, 9]⟩
theorem spc_size (n : Nat) : (spcF n).size = 2 * n := by
  induction n with
  | zero => rfl
  | succ n ih =>
    show (spcF n ++ ⟨#[32, 9]⟩).size = _
    rw [ByteArray.size_append, ih]
    show 2 * n + 2 = _
    omega
theorem spc_blank (n : Nat) : ∀ c ∈ bytesOf (spcF n), blankI c = true := by
  induction n with
  | zero => intro c hc; exact absurd hc (by rw [show bytesOf (spcF 0) = [] from rfl]; simp)
  | succ n ih =>
    intro c hc
    rw [show bytesOf (spcF (n + 1)) = bytesOf (spcF n) ++ [32, 9] from by show bytesOf (spcF n ++ ⟨#[32, 9]⟩) = _; rw [tb_app]; rfl] at hc
    rw [List.mem_append] at hc
    rcases hc with hc | hc
    · exact ih c hc
    · simp at hc
      rcases hc with rfl | rfl <;> decide
theorem media1 (s : ByteArray) (h : tokenF s = true) : mediaF s = foldS s := media_of s s [] [] [] (by simp) (by simp) (solid_all h).1 (solid_all h).2 (.inl (by simp))
theorem media2 (s : ByteArray) (n : Nat) (h : tokenF s = true) : mediaF (spcF n ++ s ++ spcF n) = foldS s := media_of s _ _ _ [] (spc_blank n) (spc_blank n) (solid_all h).1 (solid_all h).2 (.inl (by rw [tb_app, tb_app]))
theorem media3 (s m : ByteArray) (h : tokenF s = true) : mediaF (s ++ ⟨#[59]⟩ ++ m) = foldS s := media_of s _ [] [] (bytesOf m) (by simp) (by simp) (solid_all h).1 (solid_all h).2 (.inr (by rw [tb_app, tb_app]; simp; rfl))
theorem media4 (s m : ByteArray) (n : Nat) (h : tokenF s = true) : mediaF (spcF n ++ s ++ spcF n ++ ⟨#[59]⟩ ++ m) = foldS s := media_of s _ _ _ (bytesOf m) (spc_blank n) (spc_blank n) (solid_all h).1 (solid_all h).2 (.inr (by rw [tb_app, tb_app, tb_app, tb_app]; simp; rfl))
theorem media5 (s : ByteArray) (h : tokenF s = true) : mediaF (foldS s) = foldS s := by
  have := media_of (foldS s) (foldS s) [] [] [] (by simp) (by simp) (solid_folds (solid_all h).1) (by rw [fold_size]; exact (solid_all h).2) (.inl (by simp))
  rw [this, fold_twice]
end Go.Proofs.YtfoflodgegehfaaDoor.M
