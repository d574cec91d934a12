/- What a head tells, plain: its fields, the counted ones; a request, an answer, trailers. -/
import Derived.Test.YtdpoookgmckclaaDoorMText9
set_option linter.unusedVariables false
set_option linter.unusedSimpArgs false
namespace Go.Proofs.YtdpoookgmckclaaDoor.M
open Go.RowKit Go.Maps Go.Proofs.YtdpoookgmckclaaDoorW.PrintWords Go.Proofs.YtdpoookgmckclaaDoorW.PrintLast Go.Proofs.YtdpoookgmckclaaDoorW.PrintMore

/-- A field: its name, its value. -/
abbrev Fld := ByteArray × ByteArray
def clN : ByteArray := ⟨#[99, 111, 110, 116, 101, 110, 116, 45, 108, 101, 110, 103, 116, 104]⟩
def ctN : ByteArray := ⟨#[99, 111, 110, 116, 101, 110, 116, 45, 116, 121, 112, 101]⟩
def meN : ByteArray := ⟨#[58, 109, 101, 116, 104, 111, 100]⟩
def scN : ByteArray := ⟨#[58, 115, 99, 104, 101, 109, 101]⟩
def paN : ByteArray := ⟨#[58, 112, 97, 116, 104]⟩
def auN : ByteArray := ⟨#[58, 97, 117, 116, 104, 111, 114, 105, 116, 121]⟩
def stN : ByteArray := ⟨#[58, 115, 116, 97, 116, 117, 115]⟩
def b1N : ByteArray := ⟨#[99, 111, 110, 110, 101, 99, 116, 105, 111, 110]⟩
def b2N : ByteArray := ⟨#[107, 101, 101, 112, 45, 97, 108, 105, 118, 101]⟩
def b3N : ByteArray := ⟨#[112, 114, 111, 120, 121, 45, 99, 111, 110, 110, 101, 99, 116, 105, 111, 110]⟩
def b4N : ByteArray := ⟨#[116, 114, 97, 110, 115, 102, 101, 114, 45, 101, 110, 99, 111, 100, 105, 110, 103]⟩
def b5N : ByteArray := ⟨#[117, 112, 103, 114, 97, 100, 101]⟩
def teN : ByteArray := ⟨#[116, 101]⟩
def trV : ByteArray := ⟨#[116, 114, 97, 105, 108, 101, 114, 115]⟩
def pseudoS (s : ByteArray) : Bool := decide (s.size ≠ 0) && decide (bt s 0 = 58)
def pseudoB (f : Fld) : Bool := pseudoS f.1
def trimP (s : ByteArray) : ByteArray := if pseudoS s = true then s.extract 1 s.size else s
def rightFB (f : Fld) : Bool := tokenF (trimP f.1) && (decide (foldS (trimP f.1) = trimP f.1) && valueF f.2)
def barredB (f : Fld) : Bool := if f.1 = b1N ∨ f.1 = b2N ∨ f.1 = b3N ∨ f.1 = b4N ∨ f.1 = b5N then true else if f.1 = teN then !decide (f.2 = trV) else false
def countedB (f : Fld) : Bool := pseudoB f || (decide (f.1 = clN) || decide (f.1 = ctN))
/-- Is a name among the counted fields? -/
def hasN (c : List Fld) (n : ByteArray) : Bool := c.any fun f => decide (f.1 = n)
/-- Its value, if it is; else none. -/
def valN (c : List Fld) (n : ByteArray) : ByteArray := ((c.find? fun f => decide (f.1 = n)).map Prod.snd).getD ⟨#[]⟩
/-- How many of them are pseudo-fields. -/
def nps (c : List Fld) : Nat := c.countP pseudoB
def oneB (f : Fld) (o : Nat) (c : List Fld) : Bool := rightFB f && (!barredB f && (!(pseudoB f && decide (0 < o)) && !(countedB f && hasN c f.1)))
def addC (c : List Fld) (f : Fld) : List Fld := if countedB f = true then c ++ [f] else c
def addO (o : Nat) (f : Fld) : Nat := if pseudoB f = true then o else o + 1
/-- The counted fields of a right head. -/
def headGo : List Fld → Nat → List Fld → Option (List Fld)
  | [], _, c => some c
  | f :: l, o, c => if oneB f o c = true then headGo l (addO o f) (addC c f) else none
/-- What a head tells: its counted fields, the media type, the length. -/
def endH (c : List Fld) : Option (List Fld × ByteArray × Int) :=
  if hasN c clN = true then (if (decF (valN c clN) 999999999).2 = true then some (c, mediaF (valN c ctN), (decF (valN c clN) 999999999).1) else none)
  else some (c, mediaF (valN c ctN), -1)
def headF (l : List Fld) : Option (List Fld × ByteArray × Int) := match headGo l 0 [] with
  | none => none
  | some c => endH c
def b2n (b : Bool) : Nat := if b = true then 1 else 0
/-- May these be a request's? -/
def reqOk (c : List Fld) : Bool := decide (b2n (hasN c meN) + b2n (hasN c scN) + b2n (hasN c paN) = 3) && (decide (nps c = 3 + b2n (hasN c auN)) && (!decide (valN c meN = ⟨#[]⟩) && (!decide (valN c paN = ⟨#[]⟩) && !decide (valN c scN = ⟨#[]⟩))))
/-- A request: method, path, media type, length. -/
def requestF (l : List Fld) : Option (ByteArray × ByteArray × ByteArray × Int) := match headF l with
  | none => none
  | some (c, m, n) => if reqOk c = true then some (valN c meN, valN c paN, m, n) else none
/-- An answer: status, media type, length. -/
def responseF (l : List Fld) : Option (Int × ByteArray × Int) := match headF l with
  | none => none
  | some (c, m, n) => if nps c = 1 ∧ hasN c stN = true then (if (decF (valN c stN) 599).2 = true ∧ 100 ≤ (decF (valN c stN) 599).1 then some ((decF (valN c stN) 599).1, m, n) else none) else none
def trailersF (l : List Fld) : Bool := match headF l with
  | none => false
  | some (c, _, _) => decide (nps c = 0)
theorem hasN_app (c d : List Fld) (n : ByteArray) : hasN (c ++ d) n = (hasN c n || hasN d n) := by unfold hasN; rw [List.any_append]
theorem valN_app (c d : List Fld) (n : ByteArray) : valN (c ++ d) n = if hasN c n = true then valN c n else valN d n := by
  unfold valN hasN
  rw [List.find?_append]
  cases h : c.find? fun f => decide (f.1 = n) with
  | none =>
    rw [if_neg]
    · rfl
    · intro h2
      obtain ⟨f, hf, h3⟩ := List.any_eq_true.1 h2
      exact absurd h3 (by simpa using List.find?_eq_none.1 h f hf)
  | some f =>
    rw [if_pos (List.any_eq_true.2 ⟨f, List.mem_of_find?_eq_some h, by have := List.find?_some h; exact this⟩)]
    rfl
theorem nps_app (c d : List Fld) : nps (c ++ d) = nps c + nps d := by unfold nps; rw [List.countP_append]
/-- How many fields are no pseudo-fields. -/
def othersN (l : List Fld) : Nat := l.countP fun f => !pseudoB f
theorem addO_eq (o : Nat) (f : Fld) (l : List Fld) : addO o f + othersN l = o + othersN (f :: l) := by
  unfold addO othersN
  rw [List.countP_cons]
  cases pseudoB f <;> simp <;> omega
theorem headGo_app (l : List Fld) : ∀ (l' : List Fld) (o : Nat) (c : List Fld), headGo (l ++ l') o c = (headGo l o c).bind fun d => headGo l' (o + othersN l) d := by
  induction l with
  | nil => intro l' o c; rfl
  | cons f l ih =>
    intro l' o c
    rw [List.cons_append, headGo, headGo]
    by_cases h : oneB f o c = true
    · rw [if_pos h, if_pos h, ih, addO_eq]
    · rw [if_neg h, if_neg h]
      rfl
theorem headGo_mem (l : List Fld) : ∀ (o : Nat) (c d : List Fld), headGo l o c = some d → d = c ++ l.filter countedB := by
  induction l with
  | nil => intro o c d h; rw [← Option.some.inj h]; simp
  | cons f l ih =>
    intro o c d h
    rw [headGo] at h
    by_cases h1 : oneB f o c = true
    · rw [if_pos h1] at h
      rw [ih _ _ _ h]
      unfold addC
      by_cases h2 : countedB f = true
      · rw [if_pos h2, List.filter_cons_of_pos h2]
        simp
      · rw [if_neg h2, List.filter_cons_of_neg h2]
    · rw [if_neg h1] at h
      exact absurd h (by simp)
/-- One more field behind a right head. -/
theorem head_one {l : List Fld} {c : List Fld} (h : headGo l 0 [] = some c) (f : Fld) : headGo (l ++ [f]) 0 [] = if oneB f (othersN l) c = true then some (addC c f) else none := by
  rw [headGo_app, h]
  show headGo [f] (0 + othersN l) c = _
  rw [headGo, Nat.zero_add]
  rfl
theorem request_head {l : List Fld} {x : ByteArray × ByteArray × ByteArray × Int} (h : requestF l = some x) : ∃ c m n, headGo l 0 [] = some c ∧ endH c = some (c, m, n) ∧ reqOk c = true ∧ x = (valN c meN, valN c paN, m, n) := by
  unfold requestF headF at h
  cases h1 : headGo l 0 [] with
  | none => rw [h1] at h; exact absurd h (by simp)
  | some c =>
    rw [h1] at h
    simp only [] at h
    cases h2 : endH c with
    | none => rw [h2] at h; exact absurd h (by simp)
    | some y =>
      obtain ⟨c', m, n⟩ := y
      have hc : c' = c := by
        unfold endH at h2
        split at h2
        · split at h2
          · exact (Prod.mk.inj (Option.some.inj h2)).1.symm
          · exact absurd h2 (by simp)
        · exact (Prod.mk.inj (Option.some.inj h2)).1.symm
      subst hc
      rw [h2] at h
      simp only [] at h
      by_cases h3 : reqOk c' = true
      · rw [if_pos h3] at h
        exact ⟨c', m, n, rfl, h2, h3, (Option.some.inj h).symm⟩
      · rw [if_neg h3] at h
        exact absurd h (by simp)
theorem request_none {l : List Fld} (h : headGo l 0 [] = none) : requestF l = none := by
  unfold requestF headF
  rw [h]
/-- A further field that may not stand there makes a request wrong. -/
theorem wrong_one {l : List Fld} {x : ByteArray × ByteArray × ByteArray × Int} (h : requestF l = some x) {f : Fld} (hf : rightFB f = false ∨ barredB f = true) : requestF (l ++ [f]) = none := by
  obtain ⟨c, m, n, h1, h2, h3, h4⟩ := request_head h
  refine request_none ?_
  rw [head_one h1, if_neg]
  unfold oneB
  rcases hf with hf | hf <;> simp [hf]
theorem reqOk_parts {c : List Fld} (h : reqOk c = true) : hasN c meN = true ∧ hasN c scN = true ∧ hasN c paN = true ∧ nps c = 3 + b2n (hasN c auN) := by
  unfold reqOk at h
  simp only [Bool.and_eq_true, decide_eq_true_eq] at h
  obtain ⟨h1, h2, _⟩ := h
  unfold b2n at h1 h2 ⊢
  refine ⟨?_, ?_, ?_, h2⟩
  all_goals
    revert h1
    cases hasN c meN <;> cases hasN c scN <;> cases hasN c paN <;> simp
/-- A second time. -/
theorem wrong_twice {l : List Fld} {x : ByteArray × ByteArray × ByteArray × Int} (h : requestF l = some x) {f : Fld} (hc : countedB f = true) (hm : ∃ g ∈ l, g.1 = f.1 ∧ countedB g = true) : requestF (l ++ [f]) = none := by
  obtain ⟨c, m, n, h1, h2, h3, h4⟩ := request_head h
  have hd := headGo_mem _ _ _ _ h1
  rw [List.nil_append] at hd
  refine request_none ?_
  rw [head_one h1, if_neg]
  have hh : hasN c f.1 = true := by
    obtain ⟨g, g1, g2, g3⟩ := hm
    unfold hasN
    refine List.any_eq_true.2 ⟨g, ?_, decide_eq_true g2⟩
    rw [hd]
    exact List.mem_filter.2 ⟨g1, g3⟩
  unfold oneB
  simp [hc, hh]
end Go.Proofs.YtdpoookgmckclaaDoor.M
