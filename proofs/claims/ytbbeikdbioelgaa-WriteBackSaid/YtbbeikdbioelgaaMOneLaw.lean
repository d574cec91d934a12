/- The plain law of WriteOne: messages with the same bytes are the same. Both messages are right, and none is too long. -/
import Derived.Test.YtbbeikdbioelgaaMOnePure
set_option linter.unusedVariables false
set_option linter.unusedSimpArgs false
namespace Go.Proofs.Ytbbeikdbioelgaa.M
open Go.RowKit Go.Maps Go.Proofs.YtbbeikdbioelgaaW.PrintWords Go.Proofs.YtbbeikdbioelgaaW.PrintLast Go.Proofs.YtbbeikdbioelgaaW.PrintMore

theorem bytesOf_split (s : ByteArray) (k : Nat) : bytesOf s = bytesOf (s.extract 0 k) ++ bytesOf (s.extract k s.size) := by
  rw [bytesOf_take, bytesOf_drop, List.take_append_drop]
theorem bytes_eq {s t : ByteArray} (h : bytesOf s = bytesOf t) : s = t := ByteArray.ext (Array.toList_inj.1 (bytesOf_inj h))
theorem bytesOf_one {s : ByteArray} (h : s.size = 1) : bytesOf s = [(nb s 0 : Int)] := by
  have h0 := bytesOf_zero s (by omega)
  have hl := bytesOf_length s
  match hb : bytesOf s, hl with
  | [x], _ =>
    rw [hb] at h0
    exact congrArg (· :: []) (Option.some.inj h0)
  | [], hl => simp at hl; omega
  | _ :: _ :: _, hl => simp at hl; omega
theorem take_cons (s : ByteArray) (h : 0 < s.size) (k : Nat) : bytesOf (s.extract 0 (k + 1)) = (nb s 0 : Int) :: ((bytesOf s).drop 1).take k := by
  rw [bytesOf_take]
  have h0 := bytesOf_zero s h
  match hb : bytesOf s with
  | [] => rw [hb] at h0; exact absurd h0 (by simp)
  | x :: l =>
    rw [hb] at h0
    have := Option.some.inj h0
    rw [← this]
    simp
theorem nameB_end (f : Nat) (m : MM) (s : ByteArray) (h : s.size ≤ 1) : nameB (f + 1) m s = [0] := by
  unfold nameB
  rw [if_pos h]
theorem nameB_known (f : Nat) {m : MM} {s : ByteArray} {a : Int} (h : ¬ s.size ≤ 1) (hm : m s.data.toList = some a) : nameB (f + 1) m s = putL (a + 49152) 2 := by
  unfold nameB
  rw [if_neg h, hm]
theorem nameB_new (f : Nat) {m : MM} {s : ByteArray} (h : ¬ s.size ≤ 1) (hm : m s.data.toList = none) : nameB (f + 1) m s = bytesOf (s.extract 0 (nb s 0 + 1)) ++ nameB f m (s.extract (nb s 0 + 1) s.size) := by
  rw [nameB]
  rw [if_neg h, hm]
theorem put2_cons (a : Int) : putL a 2 = [a / 256 % 256, a % 256] := by
  simp [putL]
theorem nameB_inj {m : MM} {n : Nat} (hg : Good m n) (f : Nat) : ∀ (f' k k' : Nat) (s t : ByteArray) (R R' : List Int), nameV k s → nameV k' t → s.size < f → t.size < f' → nameB f m s ++ R = nameB f' m t ++ R' → s = t := by
  induction f with
  | zero => intro f' k k' s t R R' _ _ h; omega
  | succ f ih =>
    intro f' k k' s t R R' hs ht hf hf' h
    match f', hf' with
    | f' + 1, hf' =>
    match k, hs with
    | k + 1, hs =>
    match k', ht with
    | k' + 1, ht =>
    rcases hs with ⟨s1, s2⟩ | ⟨s1, s2, s3, s4⟩ <;> rcases ht with ⟨t1, t2⟩ | ⟨t1, t2, t3, t4⟩
    · refine bytes_eq ?_
      rw [bytesOf_one s1, bytesOf_one t1, s2, t2]
    · exfalso
      rw [nameB_end f m s (by omega)] at h
      cases hm : m t.data.toList with
      | some a =>
        have ha := hg.near _ _ hm
        rw [nameB_known f' (by omega) hm, put2_cons] at h
        have := (List.cons.inj h).1
        omega
      | none =>
        rw [nameB_new f' (by omega) hm, take_cons t (by omega)] at h
        have := (List.cons.inj h).1
        omega
    · exfalso
      rw [nameB_end f' m t (by omega)] at h
      cases hm : m s.data.toList with
      | some a =>
        have ha := hg.near _ _ hm
        rw [nameB_known f (by omega) hm, put2_cons] at h
        have := (List.cons.inj h).1
        omega
      | none =>
        rw [nameB_new f (by omega) hm, take_cons s (by omega)] at h
        have := (List.cons.inj h).1
        omega
    · cases hm : m s.data.toList with
      | some a =>
        have ha := hg.near _ _ hm
        rw [nameB_known f (by omega) hm] at h
        cases hm' : m t.data.toList with
        | some b =>
          have hb := hg.near _ _ hm'
          rw [nameB_known f' (by omega) hm'] at h
          have he := (putL2_inj ⟨by omega, by omega⟩ ⟨by omega, by omega⟩ h).1
          have hab : a = b := by omega
          subst hab
          exact ByteArray.ext (Array.toList_inj.1 (hg.inj _ _ _ hm hm'))
        | none =>
          exfalso
          rw [nameB_new f' (by omega) hm', take_cons t (by omega), put2_cons] at h
          have := (List.cons.inj h).1
          omega
      | none =>
        rw [nameB_new f (by omega) hm] at h
        cases hm' : m t.data.toList with
        | some b =>
          exfalso
          have hb := hg.near _ _ hm'
          rw [nameB_known f' (by omega) hm', take_cons s (by omega), put2_cons] at h
          have := (List.cons.inj h).1
          omega
        | none =>
          rw [nameB_new f' (by omega) hm'] at h
          have h0 := h
          rw [take_cons s (by omega), take_cons t (by omega)] at h0
          have he : nb s 0 = nb t 0 := by
            have := (List.cons.inj h0).1
            omega
          rw [← he] at h t3 t4
          rw [List.append_assoc, List.append_assoc] at h
          obtain ⟨e1, e2⟩ := List.append_inj h (by rw [bytesOf_length, bytesOf_length, ByteArray.size_extract, ByteArray.size_extract]; omega)
          have e3 := ih f' k k' _ _ R R' s4 t4 (by rw [ByteArray.size_extract]; omega) (by rw [ByteArray.size_extract]; omega) e2
          refine bytes_eq ?_
          rw [bytesOf_split s (nb s 0 + 1), bytesOf_split t (nb s 0 + 1), e1, e3]
theorem isName_V {s : ByteArray} (h : isName s = true) : nameV (s.size + 1) s := by
  unfold isName split at h
  by_cases hb : 255 < s.size
  · rw [if_pos hb] at h; exact absurd h (by decide)
  · rw [if_neg hb] at h; exact nameV_split _ _ _ h
abbrev GoodP (p : WS) : Prop := Good p.2 p.1.length
theorem nameN_inj {p : WS} (hg : GoodP p) {s t : ByteArray} (hs : isName s = true) (ht : isName t = true) {R R' : List Int} (h : (nameN p s).1 ++ R = (nameN p t).1 ++ R') : s = t := by
  unfold nameN at h
  rw [nameF_out, nameF_out, List.append_assoc, List.append_assoc] at h
  exact nameB_inj hg _ _ _ _ _ _ _ _ (isName_V hs) (isName_V ht) (by omega) (by omega) (List.append_cancel_left h)
theorem nameN_good {p : WS} (hg : GoodP p) (s : ByteArray) : GoodP (nameN p s) := nameF_good _ _ _ _ hg
theorem app_good {p : WS} (hg : GoodP p) (l : List Int) : GoodP (p.1 ++ l, p.2) := hg.more (by simp)
theorem foldl_good {l : List ByteArray} : ∀ {p : WS}, GoodP p → GoodP (l.foldl nameN p) := by
  induction l with
  | nil => exact fun h => h
  | cons s l ih => exact fun h => ih (nameN_good h s)
theorem names_inj (l : List ByteArray) : ∀ (l' : List ByteArray) (p : WS) (R R' : List Int), GoodP p → (∀ s ∈ l, isName s = true) → (∀ s ∈ l', isName s = true) → l.length = l'.length → (l.foldl nameN p).1 ++ R = (l'.foldl nameN p).1 ++ R' → l = l' := by
  induction l with
  | nil =>
    intro l' p R R' hg h1 h2 hl h
    match l', hl with
    | [], _ => rfl
  | cons a l ih =>
    intro l' p R R' hg h1 h2 hl h
    match l', hl with
    | b :: l', hl =>
      rw [List.foldl_cons, List.foldl_cons] at h
      obtain ⟨t, ht⟩ := foldl_pre l (nameN p a)
      obtain ⟨t', ht'⟩ := foldl_pre l' (nameN p b)
      have hab : a = b := by
        refine nameN_inj hg (h1 a (by simp)) (h2 b (by simp)) (R := t ++ R) (R' := t' ++ R') ?_
        rw [← List.append_assoc, ← List.append_assoc, ← ht, ← ht', h]
      subst hab
      rw [ih l' _ R R' (nameN_good hg a) (fun s hs => h1 s (by simp [hs])) (fun s hs => h2 s (by simp [hs])) (by simpa using hl) h]
theorem putL4_inj {a b : Int} {R R' : List Int} (ha : 0 ≤ a ∧ a ≤ 4294967295) (hb : 0 ≤ b ∧ b ≤ 4294967295) (h : putL a 4 ++ R = putL b 4 ++ R') : a = b ∧ R = R' := by
  simp [putL] at h
  exact ⟨by omega, h.2.2.2.2⟩
theorem nums_inj (k : Nat) (B : Int) (hput : ∀ (a b : Int) (R R' : List Int), 0 ≤ a ∧ a ≤ B → 0 ≤ b ∧ b ≤ B → putL a k ++ R = putL b k ++ R' → a = b ∧ R = R') (l : List Int) : ∀ (l' : List Int) (R R' : List Int), (∀ x ∈ l, 0 ≤ x ∧ x ≤ B) → (∀ x ∈ l', 0 ≤ x ∧ x ≤ B) → l.length = l'.length → l.flatMap (fun n => putL n k) ++ R = l'.flatMap (fun n => putL n k) ++ R' → l = l' ∧ R = R' := by
  induction l with
  | nil =>
    intro l' R R' h1 h2 hl h
    match l', hl with
    | [], _ => exact ⟨rfl, h⟩
  | cons a l ih =>
    intro l' R R' h1 h2 hl h
    match l', hl with
    | b :: l', hl =>
      rw [List.flatMap_cons, List.flatMap_cons, List.append_assoc, List.append_assoc] at h
      obtain ⟨rfl, h3⟩ := hput a b _ _ (h1 a (by simp)) (h2 b (by simp)) h
      obtain ⟨rfl, h4⟩ := ih l' R R' (fun s hs => h1 s (by simp [hs])) (fun s hs => h2 s (by simp [hs])) (by simpa using hl) h3
      exact ⟨rfl, h4⟩
theorem text_inj (l : List ByteArray) : ∀ (l' : List ByteArray), (∀ s ∈ l, s.size ≤ 255) → (∀ s ∈ l', s.size ≤ 255) → (l.flatMap fun s => (s.size : Int) % 256 :: bytesOf s) = (l'.flatMap fun s => (s.size : Int) % 256 :: bytesOf s) → l = l' := by
  induction l with
  | nil =>
    intro l' h1 h2 h
    match l' with
    | [] => rfl
    | b :: l' => simp at h
  | cons a l ih =>
    intro l' h1 h2 h
    match l' with
    | [] => simp at h
    | b :: l' =>
      rw [List.flatMap_cons, List.flatMap_cons, List.cons_append, List.cons_append] at h
      obtain ⟨e1, e2⟩ := List.cons.inj h
      have := h1 a (by simp)
      have := h2 b (by simp)
      obtain ⟨e3, e4⟩ := List.append_inj e2 (by rw [bytesOf_length, bytesOf_length]; omega)
      rw [bytes_eq e3, ih l' (fun s hs => h1 s (by simp [hs])) (fun s hs => h2 s (by simp [hs])) e4]
/-- Bytes. -/
def Byt (l : List Int) : Prop := ∀ x ∈ l, 0 ≤ x ∧ x < 256
theorem Byt.nil : Byt [] := fun x hx => absurd hx (by simp)
theorem Byt.append {l l' : List Int} (h : Byt l) (h' : Byt l') : Byt (l ++ l') := fun x hx => (List.mem_append.1 hx).elim (h x) (h' x)
theorem Byt.bytes (s : ByteArray) : Byt (bytesOf s) := by
  intro x hx
  unfold bytesOf at hx
  obtain ⟨b, _, rfl⟩ := List.mem_map.1 hx
  have := b.toNat_lt
  omega
theorem Byt.put (n : Int) (k : Nat) : Byt (putL n k) := by
  induction k with
  | zero => exact Byt.nil
  | succ k ih =>
    intro x hx
    unfold putL at hx
    rcases List.mem_cons.1 hx with rfl | hx
    · omega
    · exact ih x hx
theorem Byt.flat {α : Type} (f : α → List Int) (hf : ∀ a, Byt (f a)) (l : List α) : Byt (l.flatMap f) := by
  intro x hx
  obtain ⟨a, _, ha⟩ := List.mem_flatMap.1 hx
  exact hf a x ha
theorem Byt.text (r : Rec) (s : ByteArray) : Byt (textL r s) := by
  unfold textL
  refine Byt.append ?_ (Byt.bytes s)
  split
  · intro x hx
    rw [List.mem_singleton.1 hx]
    omega
  · exact Byt.nil
theorem Byt.plain (r : Rec) : Byt (plainL r) := by
  unfold plainL
  refine Byt.append (Byt.append (Byt.append ?_ (Byt.flat _ Byt.bytes _)) ?_) (Byt.flat _ (Byt.text r) _)
  · split
    · exact Byt.nil
    · exact Byt.flat _ (fun n => Byt.put n 2) _
  · split
    · exact Byt.flat _ (fun n => Byt.put n 4) _
    · exact Byt.nil
theorem bytes_str {l : List Int} (h : Byt l) : bytesOf (strOfNums l) = l := by
  unfold bytesOf
  rw [strOfNums_data, List.map_map]
  induction l with
  | nil => rfl
  | cons a l ih =>
    rw [List.map_cons, ih (fun x hx => h x (by simp [hx]))]
    have := h a (by simp)
    congr 1
    simp only [Function.comp]
    rw [UInt8.toNat_ofNat']
    omega
theorem str_inj {l l' : List Int} (h : Byt l) (h' : Byt l') (e : strOfNums l = strOfNums l') : l = l' := by
  rw [← bytes_str h, ← bytes_str h', e]
theorem nameF_byt (f : Nat) (out : List Int) (m : MM) (s : ByteArray) (h : Byt out) : Byt (nameF f out m s).1 := by
  induction f generalizing out m s with
  | zero => exact h
  | succ f ih =>
    unfold nameF
    by_cases h1 : s.size ≤ 1
    · rw [if_pos h1]
      exact h.append (by intro x hx; rw [List.mem_singleton.1 hx]; omega)
    · rw [if_neg h1]
      cases m s.data.toList with
      | some a => exact h.append (Byt.put _ _)
      | none => exact ih _ _ _ (h.append (Byt.bytes _))
abbrev BytP (p : WS) : Prop := Byt p.1
theorem foldl_byt {α : Type} (f : WS → α → WS) (hf : ∀ p x, BytP p → BytP (f p x)) (l : List α) : ∀ p, BytP p → BytP (l.foldl f p) := by
  induction l with
  | nil => exact fun p h => h
  | cons a l ih => exact fun p h => ih _ (hf p a h)
theorem nameN_byt (p : WS) (s : ByteArray) (h : BytP p) : BytP (nameN p s) := nameF_byt _ _ _ _ h
theorem dataF_byt (p : WS) (r : Rec) (h : BytP p) : BytP (dataF p r) := by
  unfold dataF
  by_cases h1 : pointedB r.f1 = false
  · rw [if_pos h1]
    exact h.append (Byt.bytes _)
  · rw [if_neg h1]
    have ha : BytP (if r.f1 = 15 then (p.1 ++ putL (r.f5.getD 0 0) 2, p.2) else p) := by
      by_cases h2 : r.f1 = 15
      · rw [if_pos h2]
        exact h.append (Byt.put _ _)
      · rw [if_neg h2]
        exact h
    have hb := foldl_byt nameN nameN_byt r.f4 _ ha
    show BytP (if r.f1 = 6 then _ else _)
    by_cases h3 : r.f1 = 6
    · rw [if_pos h3]
      exact hb.append (Byt.flat _ (fun n => Byt.put n 4) _)
    · rw [if_neg h3]
      exact hb
theorem dataF_good {p : WS} (h : GoodP p) (r : Rec) : GoodP (dataF p r) := by
  unfold dataF
  by_cases h1 : pointedB r.f1 = false
  · rw [if_pos h1]
    exact app_good h _
  · rw [if_neg h1]
    have ha : GoodP (if r.f1 = 15 then (p.1 ++ putL (r.f5.getD 0 0) 2, p.2) else p) := by
      by_cases h2 : r.f1 = 15
      · rw [if_pos h2]
        exact app_good h _
      · rw [if_neg h2]
        exact h
    have hb := foldl_good (l := r.f4) ha
    show GoodP (if r.f1 = 6 then _ else _)
    by_cases h3 : r.f1 = 6
    · rw [if_pos h3]
      exact app_good hb _
    · rw [if_neg h3]
      exact hb
theorem recordF_out (p : WS) (r : Rec) : ∃ D, (dataF ((headF p r).1 ++ putL 0 2, (headF p r).2) r).1 = (headF p r).1 ++ putL 0 2 ++ D ∧ (recordF p r).1 = (headF p r).1 ++ (putL (D.length : Int) 2 ++ D) := by
  obtain ⟨D, hD⟩ := dataF_pre ((headF p r).1 ++ putL 0 2, (headF p r).2) r
  refine ⟨D, hD, ?_⟩
  unfold recordF
  simp only [hD]
  rw [put2_cons, put2_cons]
  have hn : ((((headF p r).1 ++ [0 / 256 % 256, 0 % 256] ++ D).length : Nat) : Int) - ((headF p r).1.length : Int) - 2 = D.length := by
    simp only [List.length_append, List.length_cons, List.length_nil]
    omega
  rw [hn, List.append_assoc, List.set_append_right _ _ (by omega), List.set_append_right _ _ (by omega)]
  simp
theorem recordF_byt (p : WS) (r : Rec) (h : BytP p) : BytP (recordF p r) := by
  obtain ⟨D, h1, h2⟩ := recordF_out p r
  have hh : Byt (headF p r).1 := (((nameN_byt p r.f0 h).append (Byt.put _ _)).append (Byt.put _ _)).append (Byt.put _ _)
  have hd := dataF_byt ((headF p r).1 ++ putL 0 2, (headF p r).2) r (hh.append (Byt.put _ _))
  show Byt (recordF p r).1
  rw [h2]
  refine hh.append ((Byt.put _ _).append ?_)
  intro x hx
  exact hd x (by rw [h1]; exact List.mem_append.2 (.inr hx))
theorem headF_good {p : WS} (h : GoodP p) (r : Rec) : GoodP (headF p r) := app_good (app_good (app_good (nameN_good h r.f0) _) _) _
theorem recordF_good {p : WS} (h : GoodP p) (r : Rec) : GoodP (recordF p r) := by
  have := dataF_good (app_good (headF_good h r) (putL 0 2)) r
  unfold recordF
  exact this.more (by simp)
/-- A record that may be written. -/
structure Right (r : Rec) : Prop where
  fine : Fine r
  wf : Wf r
  ok : checkF r = 0
theorem shaped_parts {r : Rec} (h : shapedB r = true) : r.f4.length = (shapeOf r.f1).1 ∧ r.f5.length = (shapeOf r.f1).2.1 ∧ (r.f6.length = (shapeOf r.f1).2.2 ∨ r.f1 = 16 ∧ r.f6.length ≠ 0) ∧ (r.f1 = 6 ∨ (r.f5.all fun n => decide (n ≤ 65535)) = true) ∧ shapedE r = true := by
  unfold shapedB at h
  rw [Bool.and_eq_true, decide_eq_true_iff] at h
  exact ⟨h.1.1, h.1.2.1, h.1.2.2.1, h.1.2.2.2, h.2⟩
theorem nums_wide {r : Rec} (h : Fine r) : ∀ x ∈ r.f5, 0 ≤ x ∧ x ≤ 4294967295 := by
  intro x hx
  obtain ⟨j, hj, rfl⟩ := List.getElem_of_mem hx
  have := h.wf j hj
  rwa [List.getD_eq_getElem?_getD, List.getElem?_eq_getElem hj] at this
theorem nums_small {r : Rec} (h : Fine r) (hs : shapedB r = true) (h6 : r.f1 ≠ 6) : ∀ x ∈ r.f5, 0 ≤ x ∧ x ≤ 65535 := by
  intro x hx
  have h1 := nums_wide h x hx
  have h2 := (shaped_parts hs).2.2.2.1.resolve_left h6
  rw [List.all_eq_true] at h2
  exact ⟨h1.1, of_decide_eq_true (h2 x hx)⟩
theorem texts_small {r : Rec} (hs : shapedB r = true) (h : r.f1 = 16) : ∀ s ∈ r.f6, s.size ≤ 255 := by
  intro s hm
  have h2 := (shaped_parts hs).2.2.2.2
  unfold shapedE at h2
  rw [if_neg (by omega), if_neg (by omega), if_pos h] at h2
  have h3 : (r.f6.any tooLong) = false := by simpa using h2
  rw [List.any_eq_false] at h3
  have h4 := h3 s hm
  unfold tooLong at h4
  simpa using h4
theorem names_all {l : List ByteArray} (h : (l.any notName) = false) : ∀ s ∈ l, isName s = true := by
  intro s hs
  rw [List.any_eq_false] at h
  have := h s hs
  unfold notName at this
  simpa using this
theorem len_one {α : Type} {l : List α} (h : l.length = 1) : ∃ a, l = [a] := by
  match l, h with
  | [a], _ => exact ⟨a, rfl⟩
theorem pointed_of {k : Int} (h : ¬ pointedB k = false) : k = 2 ∨ k = 5 ∨ k = 12 ∨ k = 6 ∨ k = 15 := by
  unfold pointedB at h
  by_cases h1 : k = 2
  · exact .inl h1
  by_cases h2 : k = 5
  · exact .inr (.inl h2)
  by_cases h3 : k = 12
  · exact .inr (.inr (.inl h3))
  by_cases h4 : k = 6
  · exact .inr (.inr (.inr (.inl h4)))
  by_cases h5 : k = 15
  · exact .inr (.inr (.inr (.inr h5)))
  rw [if_neg h1, if_neg h2, if_neg h3, if_neg h4, if_neg h5] at h
  exact absurd rfl h
theorem shape_free {k : Int} (h : pointedB k = false) (h33 : k ≠ 33) : shapeOf k = (0, 0, 1) := by
  unfold pointedB at h
  unfold shapeOf
  repeat' (split at h; · exact absurd h (by decide))
  rw [if_neg (by omega), if_neg (by omega), if_neg (by omega), if_neg (by omega), if_neg (by omega), if_neg h33]
theorem dataF_inj {p : WS} (hg : GoodP p) {r r' : Rec} (h1 : r.f1 = r'.f1) (hr : Right r) (hr' : Right r') (h : (dataF p r).1 = (dataF p r').1) : r.f4 = r'.f4 ∧ r.f5 = r'.f5 ∧ r.f6 = r'.f6 := by
  obtain ⟨hsm, _, hn0, hn4, hsh⟩ := check_small hr.fine hr.ok
  obtain ⟨hsm', _, hn0', hn4', hsh'⟩ := check_small hr'.fine hr'.ok
  obtain ⟨a4, a5, a6, a7, a8⟩ := shaped_parts hsh
  obtain ⟨b4, b5, b6, b7, b8⟩ := shaped_parts hsh'
  rw [← h1] at b4 b5 b6
  by_cases hp : pointedB r.f1 = false
  · unfold dataF at h
    rw [if_pos hp, if_pos (h1 ▸ hp)] at h
    have h2 := List.append_cancel_left h
    unfold plainS at h2
    rw [if_pos hr.ok, if_pos hr'.ok, bytes_str (Byt.plain r), bytes_str (Byt.plain r')] at h2
    have n6 : r.f1 ≠ 6 := fun e => by rw [e] at hp; exact absurd hp (by decide)
    rw [plainL_not n6, plainL_not (h1 ▸ n6)] at h2
    simp only [List.nil_append, List.append_assoc] at h2
    obtain ⟨e5, h3⟩ := nums_inj 2 65535 (fun a b R R' => putL2_inj) _ _ _ _ (nums_small hr.fine hsh n6) (nums_small hr'.fine hsh' (h1 ▸ n6)) (by rw [a5, b5]) h2
    by_cases h33 : r.f1 = 33
    · rw [h33] at a4 a6 b4 b6
      have a0 : r.f6 = [] := List.length_eq_zero_iff.1 (a6.resolve_right (by omega))
      have b0 : r'.f6 = [] := List.length_eq_zero_iff.1 (b6.resolve_right (by omega))
      obtain ⟨s, hs⟩ := len_one a4
      obtain ⟨t, ht⟩ := len_one b4
      rw [a0, b0, hs, ht] at h3
      simp only [List.flatMap_cons, List.flatMap_nil, List.append_nil] at h3
      exact ⟨by rw [hs, ht, bytes_eq h3], e5, by rw [a0, b0]⟩
    · have hf := shape_free hp h33
      rw [hf] at a4 a6 b4 b6
      have a0 : r.f4 = [] := List.length_eq_zero_iff.1 a4
      have b0 : r'.f4 = [] := List.length_eq_zero_iff.1 b4
      rw [a0, b0, List.flatMap_nil, List.nil_append, List.nil_append] at h3
      refine ⟨by rw [a0, b0], e5, ?_⟩
      by_cases h16 : r.f1 = 16
      · have e1 : textL r = fun s => (s.size : Int) % 256 :: bytesOf s := by
          funext s
          unfold textL
          rw [if_pos h16]
          rfl
        have e2 : textL r' = fun s => (s.size : Int) % 256 :: bytesOf s := by
          funext s
          unfold textL
          rw [if_pos (h1 ▸ h16)]
          rfl
        rw [e1, e2] at h3
        exact text_inj _ _ (texts_small hsh h16) (texts_small hsh' (h1 ▸ h16)) h3
      · obtain ⟨s, hs⟩ := len_one (a6.resolve_right (fun e => h16 e.1))
        obtain ⟨t, ht⟩ := len_one (b6.resolve_right (fun e => h16 e.1))
        rw [hs, ht] at h3
        simp only [List.flatMap_cons, List.flatMap_nil, List.append_nil] at h3
        unfold textL at h3
        rw [if_neg h16, if_neg (h1 ▸ h16)] at h3
        rw [hs, ht, bytes_eq h3]
  · have hk := pointed_of hp
    have hz : ∀ k : Int, k = 2 ∨ k = 5 ∨ k = 12 ∨ k = 6 ∨ k = 15 → (shapeOf k).2.2 = 0 := by
      rintro k (rfl | rfl | rfl | rfl | rfl) <;> rfl
    have a0 : r.f6 = [] := List.length_eq_zero_iff.1 (by
      rw [hz _ hk] at a6
      exact a6.resolve_right (fun e => by omega))
    have b0 : r'.f6 = [] := List.length_eq_zero_iff.1 (by
      rw [hz _ hk] at b6
      exact b6.resolve_right (fun e => by omega))
    have hl4 : r.f4.length = r'.f4.length := by rw [a4, b4]
    have hl5 : r.f5.length = r'.f5.length := by rw [a5, b5]
    have m4 := names_all hn4
    have m4' := names_all hn4'
    have w5 := nums_wide hr.fine
    have w5' := nums_wide hr'.fine
    refine (fun x : _ ∧ _ => ⟨x.1, x.2, by rw [a0, b0]⟩) (show r.f4 = r'.f4 ∧ r.f5 = r'.f5 from ?_)
    unfold dataF at h
    simp only [← h1, if_neg hp] at h
    by_cases h15 : r.f1 = 15
    · have n6 : ¬ r.f1 = 6 := by omega
      simp only [if_pos h15, if_neg n6] at h
      rw [h15] at a5 b5
      obtain ⟨x, hx⟩ := len_one a5
      obtain ⟨y, hy⟩ := len_one b5
      have hxs := nums_small hr.fine hsh n6
      have hys := nums_small hr'.fine hsh' (h1 ▸ n6)
      rw [hx] at hxs
      rw [hy] at hys
      rw [hx, hy, List.getD_cons_zero, List.getD_cons_zero] at h
      obtain ⟨t, ht⟩ := foldl_pre r.f4 (p.1 ++ putL x 2, p.2)
      obtain ⟨t', ht'⟩ := foldl_pre r'.f4 (p.1 ++ putL y 2, p.2)
      have h0 := h
      rw [ht, ht'] at h0
      simp only [List.append_assoc] at h0
      obtain ⟨rfl, _⟩ := putL2_inj (hxs x (by simp)) (hys y (by simp)) (List.append_cancel_left h0)
      refine ⟨names_inj _ _ _ [] [] (app_good hg (putL x 2)) m4 m4' hl4 (by rw [h]), by rw [hx, hy]⟩
    · simp only [if_neg h15] at h
      by_cases h6 : r.f1 = 6
      · simp only [if_pos h6] at h
        have e4 := names_inj _ _ _ _ _ hg m4 m4' hl4 h
        rw [e4] at h
        exact ⟨e4, (nums_inj 4 4294967295 (fun a b R R' => putL4_inj) _ _ [] [] w5 w5' hl5 (by rw [List.append_nil, List.append_nil]; exact List.append_cancel_left h)).1⟩
      · simp only [if_neg h6] at h
        have e4 := names_inj _ _ _ [] [] hg m4 m4' hl4 (by rw [h])
        have hz5 : ∀ k : Int, k = 2 ∨ k = 5 ∨ k = 12 ∨ k = 6 ∨ k = 15 → k ≠ 15 → k ≠ 6 → (shapeOf k).2.1 = 0 := by
          rintro k (rfl | rfl | rfl | rfl | rfl) h h'
          · rfl
          · rfl
          · rfl
          · exact absurd rfl h'
          · exact absurd rfl h
        have c0 := hz5 _ hk h15 h6
        exact ⟨e4, by rw [List.length_eq_zero_iff.1 (a5.trans c0), List.length_eq_zero_iff.1 (b5.trans c0)]⟩
theorem rec_ext {r r' : Rec} (h0 : r.f0 = r'.f0) (h1 : r.f1 = r'.f1) (h2 : r.f2 = r'.f2) (h3 : r.f3 = r'.f3) (h4 : r.f4 = r'.f4) (h5 : r.f5 = r'.f5) (h6 : r.f6 = r'.f6) : r = r' := by
  cases r
  cases r'
  simp_all
theorem recordF_inj {p : WS} (hg : GoodP p) {r r' : Rec} (hr : Right r) (hr' : Right r') {R R' : List Int} (hl : (recordF p r).1.length ≤ 65535) (hl' : (recordF p r').1.length ≤ 65535) (h : (recordF p r).1 ++ R = (recordF p r').1 ++ R') : r = r' := by
  obtain ⟨D, d1, d2⟩ := recordF_out p r
  obtain ⟨D', d1', d2'⟩ := recordF_out p r'
  rw [d2] at hl h
  rw [d2'] at hl' h
  obtain ⟨hsm, _, hn0, hn4, hsh⟩ := check_small hr.fine hr.ok
  obtain ⟨hsm', _, hn0', hn4', hsh'⟩ := check_small hr'.fine hr'.ok
  have hw := hr.wf
  have hw' := hr'.wf
  have hh : ∀ r, (headF p r).1 = (nameN p r.f0).1 ++ putL r.f1 2 ++ putL r.f2 2 ++ putL r.f3 4 := fun r => rfl
  rw [hh, hh] at h
  simp only [List.append_assoc] at h
  have e0 := nameN_inj hg hn0 hn0' h
  rw [e0] at h
  obtain ⟨e1, h⟩ := putL2_inj ⟨hw.t0, hw.t1⟩ ⟨hw'.t0, hw'.t1⟩ (List.append_cancel_left h)
  obtain ⟨e2, h⟩ := putL2_inj ⟨hw.c0, hw.c1⟩ ⟨hw'.c0, hw'.c1⟩ h
  obtain ⟨e3, h⟩ := putL4_inj ⟨hw.l0, hw.l1⟩ ⟨hw'.l0, hw'.l1⟩ h
  simp only [List.length_append] at hl hl'
  obtain ⟨e, h⟩ := putL2_inj (a := (D.length : Int)) (b := (D'.length : Int)) (by omega) (by omega) h
  obtain ⟨e5, _⟩ := List.append_inj h (by omega)
  have he : headF p r = headF p r' := by
    unfold headF
    rw [e0, e1, e2, e3]
  rw [he, e5, ← d1'] at d1
  obtain ⟨f4, f5, f6⟩ := dataF_inj (app_good (headF_good hg r') (putL 0 2)) e1 hr hr' d1
  exact rec_ext e0 e1 e2 e3 f4 f5 f6
theorem recordF_pre (p : WS) (r : Rec) : ∃ t, (recordF p r).1 = p.1 ++ t := by
  obtain ⟨D, d1, d2⟩ := recordF_out p r
  obtain ⟨u, hu⟩ := nameF_pre (r.f0.size + 1) p.1 p.2 r.f0
  rw [d2]
  show ∃ t, (nameF (r.f0.size + 1) p.1 p.2 r.f0).1 ++ putL r.f1 2 ++ putL r.f2 2 ++ putL r.f3 4 ++ (putL (D.length : Int) 2 ++ D) = _
  rw [hu]
  exact ⟨u ++ (putL r.f1 2 ++ (putL r.f2 2 ++ (putL r.f3 4 ++ (putL (D.length : Int) 2 ++ D)))), by simp only [List.append_assoc]⟩
theorem recsF_pre (l : List Rec) : ∀ (p q : WS), recsF l p = some q → ∃ t, q.1 = p.1 ++ t := by
  induction l with
  | nil =>
    intro p q h
    obtain rfl := Option.some.inj h
    exact ⟨[], by simp⟩
  | cons r l ih =>
    intro p q h
    unfold recsF at h
    by_cases hc : 65535 < (recordF p r).1.length
    · rw [if_pos hc] at h
      exact absurd h (by simp)
    · rw [if_neg hc] at h
      obtain ⟨t, ht⟩ := ih _ _ h
      obtain ⟨u, hu⟩ := recordF_pre p r
      exact ⟨u ++ t, by rw [ht, hu, List.append_assoc]⟩
theorem recsF_byt (l : List Rec) : ∀ (p q : WS), BytP p → recsF l p = some q → BytP q := by
  induction l with
  | nil =>
    intro p q hp h
    obtain rfl := Option.some.inj h
    exact hp
  | cons r l ih =>
    intro p q hp h
    unfold recsF at h
    by_cases hc : 65535 < (recordF p r).1.length
    · rw [if_pos hc] at h
      exact absurd h (by simp)
    · rw [if_neg hc] at h
      exact ih _ _ (recordF_byt p r hp) h
theorem recsF_inj (l : List Rec) : ∀ (l' : List Rec) (p q q' : WS), GoodP p → (∀ r ∈ l, Right r) → (∀ r ∈ l', Right r) → l.length = l'.length → recsF l p = some q → recsF l' p = some q' → q.1 = q'.1 → l = l' := by
  induction l with
  | nil =>
    intro l' p q q' hg h1 h2 hl h h' e
    match l', hl with
    | [], _ => rfl
  | cons r l ih =>
    intro l' p q q' hg h1 h2 hl h h' e
    match l', hl with
    | r' :: l', hl =>
      unfold recsF at h h'
      by_cases hc : 65535 < (recordF p r).1.length
      · rw [if_pos hc] at h
        exact absurd h (by simp)
      by_cases hc' : 65535 < (recordF p r').1.length
      · rw [if_pos hc'] at h'
        exact absurd h' (by simp)
      rw [if_neg hc] at h
      rw [if_neg hc'] at h'
      obtain ⟨t, ht⟩ := recsF_pre _ _ _ h
      obtain ⟨t', ht'⟩ := recsF_pre _ _ _ h'
      obtain rfl := recordF_inj hg (h1 r (by simp)) (h2 r' (by simp)) (R := t) (R' := t') (by omega) (by omega) (by rw [← ht, ← ht', e])
      rw [ih l' _ q q' (recordF_good hg r) (fun s hs => h1 s (by simp [hs])) (fun s hs => h2 s (by simp [hs])) (by simpa using hl) h h' e]
theorem quesF_good {p : WS} (h : GoodP p) (q : Ques) : GoodP (quesF p q) := app_good (app_good (nameN_good h q.f0) _) _
theorem quesF_byt (p : WS) (q : Ques) (h : BytP p) : BytP (quesF p q) := ((nameN_byt p q.f0 h).append (Byt.put _ _)).append (Byt.put _ _)
theorem quesF_pre (p : WS) (q : Ques) : ∃ t, (quesF p q).1 = p.1 ++ t := by
  obtain ⟨u, hu⟩ := nameF_pre (q.f0.size + 1) p.1 p.2 q.f0
  show ∃ t, (nameF (q.f0.size + 1) p.1 p.2 q.f0).1 ++ putL q.f1 2 ++ putL q.f2 2 = _
  rw [hu]
  exact ⟨u ++ (putL q.f1 2 ++ putL q.f2 2), by simp only [List.append_assoc]⟩
theorem ques_pre (l : List Ques) : ∀ p : WS, ∃ t, (l.foldl quesF p).1 = p.1 ++ t := by
  induction l with
  | nil => exact fun p => ⟨[], by simp⟩
  | cons q l ih =>
    intro p
    obtain ⟨t, ht⟩ := ih (quesF p q)
    obtain ⟨u, hu⟩ := quesF_pre p q
    exact ⟨u ++ t, by rw [List.foldl_cons, ht, hu, List.append_assoc]⟩
theorem ques_good (l : List Ques) : ∀ p : WS, GoodP p → GoodP (l.foldl quesF p) := by
  induction l with
  | nil => exact fun p h => h
  | cons q l ih => exact fun p h => ih _ (quesF_good h q)
structure QRight (q : Ques) : Prop where
  name : isName q.f0 = true
  r1 : 0 ≤ q.f1 ∧ q.f1 ≤ 65535
  r2 : 0 ≤ q.f2 ∧ q.f2 ≤ 65535
theorem ques_inj (l : List Ques) : ∀ (l' : List Ques) (p : WS) (R R' : List Int), GoodP p → (∀ q ∈ l, QRight q) → (∀ q ∈ l', QRight q) → l.length = l'.length → (l.foldl quesF p).1 ++ R = (l'.foldl quesF p).1 ++ R' → l = l' := by
  induction l with
  | nil =>
    intro l' p R R' hg h1 h2 hl h
    match l', hl with
    | [], _ => rfl
  | cons q l ih =>
    intro l' p R R' hg h1 h2 hl h
    match l', hl with
    | q' :: l', hl =>
      rw [List.foldl_cons, List.foldl_cons] at h
      obtain ⟨t, ht⟩ := ques_pre l (quesF p q)
      obtain ⟨t', ht'⟩ := ques_pre l' (quesF p q')
      have hq := h1 q (by simp)
      have hq' := h2 q' (by simp)
      have hqq : q = q' := by
        have h0 := h
        rw [ht, ht'] at h0
        have hh : ∀ q, (quesF p q).1 = (nameN p q.f0).1 ++ putL q.f1 2 ++ putL q.f2 2 := fun q => rfl
        rw [hh, hh] at h0
        simp only [List.append_assoc] at h0
        have e0 := nameN_inj hg hq.name hq'.name h0
        rw [e0] at h0
        obtain ⟨e1, h0⟩ := putL2_inj hq.r1 hq'.r1 (List.append_cancel_left h0)
        obtain ⟨e2, h0⟩ := putL2_inj hq.r2 hq'.r2 h0
        cases q
        cases q'
        simp_all
      subst hqq
      rw [ih l' _ R R' (quesF_good hg q) (fun s hs => h1 s (by simp [hs])) (fun s hs => h2 s (by simp [hs])) (by simpa using hl) h]
theorem start_good (l : List Int) : GoodP ((l, fun _ => none) : WS) := ⟨fun _ _ _ h => absurd h (by simp), fun _ _ h => absurd h (by simp), fun _ _ h => absurd h (by simp)⟩
theorem write_out {m : Msg} {S : ByteArray} (h : writeM m = (S, 0)) : checkM m = 0 ∧ ∃ p, recsF (m.ans ++ m.auth ++ m.add) (quesAll m) = some p ∧ p.1.length ≤ 65535 ∧ strOfNums p.1 = S := by
  unfold writeM at h
  by_cases hc : checkM m = 0
  · rw [if_pos hc] at h
    refine ⟨hc, ?_⟩
    cases hr : recsF (m.ans ++ m.auth ++ m.add) (quesAll m) with
    | none =>
      rw [hr] at h
      exact absurd (congrArg Prod.snd h) (by simp [endF])
    | some p =>
      rw [hr] at h
      unfold endF at h
      by_cases hl : 65535 < p.1.length
      · simp [hl] at h
      · simp only [hl, if_false] at h
        exact ⟨p, rfl, by omega, congrArg Prod.fst h⟩
  · rw [if_neg hc] at h
    exact absurd (congrArg Prod.snd h) hc
theorem quesAll_byt (m : Msg) : BytP (quesAll m) := foldl_byt quesF quesF_byt m.qs _ (Byt.flat _ (fun n => Byt.put n 2) _)
theorem msg_right {m : Msg} (h : MsgOk m) (hc : checkM m = 0) : (∀ q ∈ m.qs, QRight q) ∧ ∀ r ∈ m.ans ++ m.auth ++ m.add, Right r := by
  obtain ⟨c1, c2, c3⟩ := check_parts hc
  refine ⟨fun q hq => ?_, fun r hr => ⟨h.fine r hr, h.wf r hr, c3 r hr⟩⟩
  obtain ⟨q0, q1, q2, q3⟩ := h.qs q hq
  refine ⟨?_, ⟨q0, q1⟩, ⟨q2, q3⟩⟩
  obtain ⟨j, hj, rfl⟩ := List.getElem_of_mem hq
  have := c2 j hj
  rwa [List.getD_eq_getElem?_getD, List.getElem?_eq_getElem hj] at this
/-- Messages with the same bytes are the same. -/
theorem oneLaw (a b : Msg) (S : ByteArray) (ha : MsgOk a) (hb : MsgOk b) (h : writeM a = (S, 0)) (h' : writeM b = (S, 0)) : a = b := by
  obtain ⟨c1, p, p1, p2, p3⟩ := write_out h
  obtain ⟨c2, q, q1, q2, q3⟩ := write_out h'
  have hpq : p.1 = q.1 := str_inj (recsF_byt _ _ _ (quesAll_byt a) p1) (recsF_byt _ _ _ (quesAll_byt b) q1) (p3.trans q3.symm)
  obtain ⟨aq, ar⟩ := msg_right ha c1
  obtain ⟨bq, br⟩ := msg_right hb c2
  have na := (check_parts c1).1
  have nb' := (check_parts c2).1
  obtain ⟨t, ht⟩ := recsF_pre _ _ _ p1
  obtain ⟨t', ht'⟩ := recsF_pre _ _ _ q1
  have e := hpq
  rw [ht, ht'] at e
  obtain ⟨u, hu⟩ := ques_pre a.qs ((numsOf a).flatMap (fun n => putL n 2), fun _ => none)
  obtain ⟨u', hu'⟩ := ques_pre b.qs ((numsOf b).flatMap (fun n => putL n 2), fun _ => none)
  have e' := e
  unfold quesAll at e'
  rw [hu, hu', List.append_assoc, List.append_assoc] at e'
  have rg : ∀ m : Msg, MsgOk m → m.qs.length + m.ans.length + m.auth.length + m.add.length ≤ 256 → ∀ x ∈ numsOf m, 0 ≤ x ∧ x ≤ 65535 := by
    intro m hm hl x hx
    have h1 := hm.id0
    have h2 := hm.id1
    have h3 := hm.fl0
    have h4 := hm.fl1
    unfold numsOf at hx
    simp only [List.mem_cons, List.not_mem_nil, or_false] at hx
    rcases hx with rfl | rfl | rfl | rfl | rfl | rfl <;> omega
  obtain ⟨en, _⟩ := nums_inj 2 65535 (fun a b R R' => putL2_inj) _ _ _ _ (rg a ha na) (rg b hb nb') rfl e'
  have en' := en
  unfold numsOf at en'
  simp only [List.cons.injEq, and_true] at en'
  obtain ⟨e1, e2, e3, e4, e5, e6⟩ := en'
  unfold quesAll at e
  rw [en] at e
  have eq := ques_inj _ _ _ _ _ (start_good _) aq bq (by omega) e
  have eA : quesAll a = quesAll b := by
    unfold quesAll
    rw [en, eq]
  rw [eA] at p1
  have er := recsF_inj _ _ _ _ _ (ques_good _ _ (start_good _)) ar br (by simp only [List.length_append]; omega) p1 q1 hpq
  obtain ⟨e7, e8⟩ := List.append_inj er (by simp only [List.length_append]; omega)
  obtain ⟨e9, e10⟩ := List.append_inj e7 (by omega)
  cases a
  cases b
  simp_all
end Go.Proofs.Ytbbeikdbioelgaa.M
