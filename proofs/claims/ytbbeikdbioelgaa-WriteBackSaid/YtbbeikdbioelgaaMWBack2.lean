/- What is written is read as it was: data, records, the message; how long it is without pointers. -/
import Derived.Test.YtbbeikdbioelgaaMWBack
import Derived.Test.YtbbeikdbioelgaaMRef05c
set_option linter.unusedVariables false
set_option linter.unusedSimpArgs false
namespace Go.Proofs.Ytbbeikdbioelgaa.M
open Go.RowKit Go.Maps Go.Proofs.YtbbeikdbioelgaaW.PrintWords Go.Proofs.YtbbeikdbioelgaaW.PrintLast Go.Proofs.YtbbeikdbioelgaaW.PrintMore

theorem bytes_plain {r : Rec} (hr : Right r) : bytesOf (plainS r) = plainL r := by
  unfold plainS
  rw [if_pos hr.ok, bytes_str (Byt.plain r)]
theorem data_end (en : Int) (names texts : List ByteArray) (nums : List Int) {a : Int} (h : a = en) : dataE en names nums (texts, a) = .ok ((names, nums, texts), a) := by
  rw [dataE]
  rw [if_pos h]
theorem data_plain {S : ByteArray} {L R : List Int} (hS : bytesOf S = L) {p : List Int} {r : Rec} (hr : Right r) (hp : pointedB r.f1 = false) (hL : L = (p ++ plainL r) ++ R) :
    dataR S r.f1 ((p ++ plainL r).length : Int) (p.length : Int) = .ok ((r.f4, r.f5, r.f6), ((p ++ plainL r).length : Int)) := by
  obtain ⟨hsm, _, hn0, hn4, hsh⟩ := check_small hr.fine hr.ok
  obtain ⟨a4, a5, a6, a7, a8⟩ := shaped_parts hsh
  have n6 : r.f1 ≠ 6 := fun e => by rw [e] at hp; exact absurd hp (by decide)
  have hsz : S.size = L.length := by rw [← hS, bytesOf_length]
  have hd : (bytesOf S).drop p.length = plainL r ++ R := by rw [hS, hL]; simp
  have hlen := congrArg List.length hL
  rw [List.length_append] at hlen
  obtain ⟨en, hen⟩ : ∃ en : Nat, (p ++ plainL r).length = en := ⟨_, rfl⟩
  rw [hen] at hlen ⊢
  rw [List.length_append] at hen
  have hpl : (plainL r).length = 2 * r.f5.length + (sumS r.f4 + (r.f6.flatMap (textL r)).length) := by
    rw [plainL_not n6, List.nil_append, List.length_append, List.length_append, numsL_len, namesL_len, Nat.add_assoc]
  rw [plainL_not n6] at hd
  simp only [List.nil_append, List.append_assoc] at hd
  have hnums : numsR S 2 (en : Int) r.f5.length [] (p.length : Int) = .ok ([] ++ r.f5, ((p.length + 2 * r.f5.length : Nat) : Int)) :=
    nums_w (S := S) (z := 2) (B := 65535) (en := (en : Int)) (by decide) (fun a x R h hx => get2p h hx) r.f5 p.length [] _ hd (nums_small hr.fine hsh n6) (by omega)
  have hd2 := drop_next hd
  rw [numsL_len] at hd2
  unfold dataR
  rw [if_neg n6, ← a5, hnums]
  simp only [List.nil_append]
  rw [dataM]
  by_cases h33 : r.f1 = 33
  · have a0 : r.f6 = [] := List.length_eq_zero_iff.1 ((by rw [h33] at a6; exact a6.resolve_right (by omega)))
    obtain ⟨s, hs⟩ := len_one (by rw [h33] at a4; exact a4)
    have hnm := names_all hn4 s (by rw [hs]; simp)
    have hW := isName_W hnm
    rw [hs, a0] at hd2 hpl
    simp only [List.flatMap_cons, List.flatMap_nil, List.append_nil, List.nil_append] at hd2
    simp only [sumS_cons, sumS_nil, List.flatMap_nil, List.length_nil, Nat.add_zero] at hpl
    obtain ⟨a, ha⟩ : ∃ a : Nat, p.length + 2 * r.f5.length = a := ⟨_, rfl⟩
    rw [ha] at hd2 ⊢
    have hrd := Rd.of_name (bytesOf S) a _ s a R hW.1 hd2 (by rw [bytesOf_length]; omega)
    have hbr := bare_w (S := S) _ s a R [] 257 hW.1 hd2 (by simp; omega) (by omega)
    rw [h33, hs, a0]
    have hw : withinF S 33 (a : Int) (en : Int) = .ok (bytesOf s, ((a + s.size : Nat) : Int)) := by
      unfold withinF endsF
      rw [hrd.ends rfl _ (en : Int) (by omega) (by omega), if_neg (by decide), if_pos rfl]
      exact hbr
    have hn : namesR S 33 (en : Int) (shapeOf 33).1 [] (a : Int) = .ok ([s], ((a + s.size : Nat) : Int)) := by
      show namesR S 33 (en : Int) 1 [] (a : Int) = _
      rw [namesR, hw]
      simp only [tb_str]
      rfl
    rw [hn]
    simp only []
    rw [dataN]
    rw [if_neg (by decide)]
    unfold dataT
    rw [if_neg (by decide), if_neg (by decide), data_end _ _ _ _ (by omega)]
    congr 2
    omega
  · have hf := shape_free hp h33
    rw [hf] at a4 a5 a6
    have b4 : r.f4 = [] := List.length_eq_zero_iff.1 a4
    have b5 : r.f5 = [] := List.length_eq_zero_iff.1 a5
    rw [b4, b5] at hd2 hpl
    simp only [List.flatMap_nil, List.nil_append, List.length_nil, Nat.mul_zero, Nat.add_zero, Nat.zero_add, sumS_nil] at hd2 hpl
    rw [hf, b4, b5]
    have hn : namesR S r.f1 (en : Int) ((0, 0, 1) : Nat × Nat × Nat).1 [] ((p.length + 2 * ([] : List Int).length : Nat) : Int) = .ok ([], (p.length : Int)) := rfl
    rw [hn]
    simp only []
    rw [dataN]
    rw [if_neg n6]
    unfold dataT
    by_cases h16 : r.f1 = 16
    · rw [if_pos h16]
      have e1 : textL r = fun s => (s.size : Int) % 256 :: bytesOf s := by
        funext s
        unfold textL
        rw [if_pos h16]
        rfl
      rw [e1] at hd2 hpl
      rw [texts_w r.f6 p.length [] _ R (by omega) hd2 (texts_small hsh h16) (by omega) (by omega)]
      simp only [List.nil_append]
      exact data_end _ _ _ _ rfl
    · rw [if_neg h16, hf, if_pos (by decide)]
      obtain ⟨s, hs⟩ := len_one (a6.resolve_right (fun e => h16 e.1))
      have e1 : textL r s = bytesOf s := by
        unfold textL
        rw [if_neg h16]
        rfl
      rw [hs] at hd2 hpl
      simp only [List.flatMap_cons, List.flatMap_nil, List.append_nil, e1, bytesOf_length] at hd2 hpl
      rw [show (en : Int) - (p.length : Int) = (s.size : Int) by omega, part_w hd2 (by omega), hs]
      simp only []
      exact data_end _ _ _ _ rfl
theorem data_pointed {S : ByteArray} {L R : List Int} (hS : bytesOf S = L) {p : WS} (hg : GoodK p) {r : Rec} (hr : Right r) (hp : ¬ pointedB r.f1 = false) (hL : L = (dataF p r).1 ++ R) :
    dataR S r.f1 ((dataF p r).1.length : Int) (p.1.length : Int) = .ok ((r.f4, r.f5, r.f6), ((dataF p r).1.length : Int)) ∧ GoodK (dataF p r) := by
  obtain ⟨hsm, _, hn0, hn4, hsh⟩ := check_small hr.fine hr.ok
  obtain ⟨a4, a5, a6, a7, a8⟩ := shaped_parts hsh
  have hk := pointed_of hp
  have hz : ∀ k : Int, k = 2 ∨ k = 5 ∨ k = 12 ∨ k = 6 ∨ k = 15 → (shapeOf k).2.2 = 0 ∧ ¬ (shapeOf k).1 + (shapeOf k).2.1 = 0 := by
    rintro k (rfl | rfl | rfl | rfl | rfl) <;> decide
  have a0 : r.f6 = [] := List.length_eq_zero_iff.1 (by
    rw [(hz _ hk).1] at a6
    exact a6.resolve_right (fun e => by omega))
  have hsh0 := (hz _ hk).2
  have m4 := names_all hn4
  have n16 : r.f1 ≠ 16 := by omega
  have n33 : r.f1 ≠ 33 := by omega
  by_cases h6 : r.f1 = 6
  · have hD : dataF p r = ((r.f4.foldl nameN p).1 ++ r.f5.flatMap (fun n => putL n 4), (r.f4.foldl nameN p).2) := by
      unfold dataF
      rw [if_neg hp]
      simp only [if_neg (show ¬ r.f1 = 15 by omega), if_pos h6]
    rw [hD] at hL ⊢
    simp only [] at hL ⊢
    obtain ⟨en, hen⟩ : ∃ en : Nat, ((r.f4.foldl nameN p).1 ++ r.f5.flatMap (fun n => putL n 4)).length = en := ⟨_, rfl⟩
    rw [hen]
    rw [List.length_append, numsL_len] at hen
    obtain ⟨e1, e2⟩ := names_w hS n33 (en := (en : Int)) r.f4 p [] _ hg m4 (by rw [hL, List.append_assoc]) (by omega)
    refine ⟨?_, app_K e2 _⟩
    have hd : (bytesOf S).drop (r.f4.foldl nameN p).1.length = r.f5.flatMap (fun n => putL n 4) ++ R := by rw [hS, hL]; simp
    have hnums : numsR S 4 (en : Int) r.f5.length [] ((r.f4.foldl nameN p).1.length : Int) = .ok ([] ++ r.f5, (((r.f4.foldl nameN p).1.length + 4 * r.f5.length : Nat) : Int)) :=
      nums_w (S := S) (z := 4) (B := 4294967295) (en := (en : Int)) (by decide) (fun a x R h hx => get4p h hx) r.f5 _ [] R hd (nums_wide hr.fine) (by omega)
    unfold dataR
    rw [if_pos h6]
    rw [dataM]
    rw [← a4, e1]
    simp only [List.nil_append]
    rw [dataN]
    rw [if_pos h6, ← a5, hnums]
    simp only [List.nil_append]
    unfold dataT
    rw [if_neg n16, if_neg hsh0, a0, data_end _ _ _ _ (by omega), hen]
  · obtain ⟨p1, hp1, hD⟩ : ∃ p1 : WS, p1 = (p.1 ++ r.f5.flatMap (fun n => putL n 2), p.2) ∧ dataF p r = r.f4.foldl nameN p1 := by
      refine ⟨_, rfl, ?_⟩
      unfold dataF
      rw [if_neg hp]
      simp only [if_neg h6]
      by_cases h15 : r.f1 = 15
      · obtain ⟨x, hx⟩ := len_one (by rw [h15] at a5; exact a5)
        simp only [if_pos h15, hx, List.getD_cons_zero, List.flatMap_cons, List.flatMap_nil, List.append_nil]
      · have hz5 : ∀ k : Int, k = 2 ∨ k = 5 ∨ k = 12 ∨ k = 6 ∨ k = 15 → k ≠ 15 → k ≠ 6 → (shapeOf k).2.1 = 0 := by
          rintro k (rfl | rfl | rfl | rfl | rfl) h h'
          · rfl
          · rfl
          · rfl
          · exact absurd rfl h'
          · exact absurd rfl h
        have c0 : r.f5 = [] := List.length_eq_zero_iff.1 (a5.trans (hz5 _ hk h15 h6))
        simp only [if_neg h15, c0, List.flatMap_nil, List.append_nil]
    rw [hD] at hL ⊢
    have hg1 : GoodK p1 := by rw [hp1]; exact app_K hg _
    have hl1 : p1.1.length = p.1.length + 2 * r.f5.length := by rw [hp1]; simp only [List.length_append, numsL_len]
    obtain ⟨T, hT⟩ := foldl_pre r.f4 p1
    obtain ⟨en, hen⟩ : ∃ en : Nat, (r.f4.foldl nameN p1).1.length = en := ⟨_, rfl⟩
    have hen2 := hen
    rw [hT, List.length_append] at hen2
    obtain ⟨e1, e2⟩ := names_w hS n33 (en := (en : Int)) r.f4 p1 [] R hg1 m4 hL (by omega)
    refine ⟨?_, e2⟩
    rw [hen] at e1 ⊢
    have hd : (bytesOf S).drop p.1.length = r.f5.flatMap (fun n => putL n 2) ++ (T ++ R) := by rw [hS, hL, hT, hp1]; simp
    have hnums : numsR S 2 (en : Int) r.f5.length [] (p.1.length : Int) = .ok ([] ++ r.f5, ((p.1.length + 2 * r.f5.length : Nat) : Int)) :=
      nums_w (S := S) (z := 2) (B := 65535) (en := (en : Int)) (by decide) (fun a x R h hx => get2p h hx) r.f5 p.1.length [] _ hd (nums_small hr.fine hsh h6) (by omega)
    unfold dataR
    rw [if_neg h6, ← a5, hnums]
    simp only [List.nil_append]
    rw [dataM]
    rw [← hl1, ← a4, e1]
    simp only [List.nil_append]
    rw [dataN]
    rw [if_neg h6]
    unfold dataT
    rw [if_neg n16, if_neg hsh0, a0, data_end _ _ _ _ rfl]
theorem data_w {S : ByteArray} {L R : List Int} (hS : bytesOf S = L) {p : WS} (hg : GoodK p) {r : Rec} (hr : Right r) (hL : L = (dataF p r).1 ++ R) :
    dataR S r.f1 ((dataF p r).1.length : Int) (p.1.length : Int) = .ok ((r.f4, r.f5, r.f6), ((dataF p r).1.length : Int)) ∧ GoodK (dataF p r) := by
  by_cases hp : pointedB r.f1 = false
  · have hD : dataF p r = (p.1 ++ plainL r, p.2) := by
      unfold dataF
      rw [if_pos hp, bytes_plain hr]
    rw [hD] at hL ⊢
    exact ⟨data_plain hS hr hp hL, app_K hg _⟩
  · exact data_pointed hS hg hr hp hL
theorem nameF_two (f : Nat) : ∀ (out out' : List Int) (m : MM) (s : ByteArray), out.length = out'.length → (nameF f out m s).2 = (nameF f out' m s).2 := by
  induction f with
  | zero => intro out out' m s _; rfl
  | succ f ih =>
    intro out out' m s h
    unfold nameF
    by_cases h1 : s.size ≤ 1
    · rw [if_pos h1, if_pos h1]
    · rw [if_neg h1, if_neg h1]
      cases m s.data.toList with
      | some a => rfl
      | none =>
        simp only []
        rw [h]
        exact ih _ _ _ _ (by rw [List.length_append, List.length_append, h])
theorem foldl_any (l : List ByteArray) : ∀ (o o' : List Int) (m : MM), o.length = o'.length → ∃ T, (l.foldl nameN (o, m)).1 = o ++ T ∧ (l.foldl nameN (o', m)).1 = o' ++ T ∧ (l.foldl nameN (o, m)).2 = (l.foldl nameN (o', m)).2 := by
  induction l with
  | nil => intro o o' m h; exact ⟨[], by simp, by simp, rfl⟩
  | cons s l ih =>
    intro o o' m h
    have h1 : (nameN (o, m) s).1 = o ++ nameB (s.size + 1) m s := nameF_out _ _ _ _
    have h2 : (nameN (o', m) s).1 = o' ++ nameB (s.size + 1) m s := nameF_out _ _ _ _
    have h3 : (nameN (o, m) s).2 = (nameN (o', m) s).2 := nameF_two _ _ _ _ _ h
    obtain ⟨T, t1, t2, t3⟩ := ih (o ++ nameB (s.size + 1) m s) (o' ++ nameB (s.size + 1) m s) (nameN (o', m) s).2 (by rw [List.length_append, List.length_append, h])
    have e1 : nameN (o, m) s = (o ++ nameB (s.size + 1) m s, (nameN (o', m) s).2) := Prod.ext h1 h3
    have e2 : nameN (o', m) s = (o' ++ nameB (s.size + 1) m s, (nameN (o', m) s).2) := Prod.ext h2 rfl
    rw [List.foldl_cons, List.foldl_cons, e1, e2]
    exact ⟨nameB (s.size + 1) m s ++ T, by rw [t1, List.append_assoc], by rw [t2, List.append_assoc], t3⟩
theorem dataF_any (o o' : List Int) (m : MM) (r : Rec) (h : o.length = o'.length) : ∃ T, (dataF (o, m) r).1 = o ++ T ∧ (dataF (o', m) r).1 = o' ++ T ∧ (dataF (o, m) r).2 = (dataF (o', m) r).2 := by
  unfold dataF
  by_cases hp : pointedB r.f1 = false
  · rw [if_pos hp, if_pos hp]
    exact ⟨_, rfl, rfl, rfl⟩
  · rw [if_neg hp, if_neg hp]
    simp only []
    by_cases h15 : r.f1 = 15
    · have n6 : ¬ r.f1 = 6 := by omega
      simp only [if_pos h15, if_neg n6]
      obtain ⟨T, t1, t2, t3⟩ := foldl_any r.f4 (o ++ putL (r.f5.getD 0 0) 2) (o' ++ putL (r.f5.getD 0 0) 2) m (by rw [List.length_append, List.length_append, h])
      exact ⟨putL (r.f5.getD 0 0) 2 ++ T, by rw [t1, List.append_assoc], by rw [t2, List.append_assoc], t3⟩
    · simp only [if_neg h15]
      obtain ⟨T, t1, t2, t3⟩ := foldl_any r.f4 o o' m h
      by_cases h6 : r.f1 = 6
      · simp only [if_pos h6]
        exact ⟨T ++ r.f5.flatMap (fun n => putL n 4), by rw [t1, List.append_assoc], by rw [t2, List.append_assoc], t3⟩
      · simp only [if_neg h6]
        exact ⟨T, t1, t2, t3⟩
theorem recordF_eq (p : WS) (r : Rec) : ∃ n : Nat, (n : Int) + (headF p r).1.length + 2 = (recordF p r).1.length ∧ recordF p r = dataF ((headF p r).1 ++ putL (n : Int) 2, (headF p r).2) r := by
  obtain ⟨D, d1, d2⟩ := recordF_out p r
  obtain ⟨T, t1, t2, t3⟩ := dataF_any ((headF p r).1 ++ putL 0 2) ((headF p r).1 ++ putL (D.length : Int) 2) (headF p r).2 r (by simp only [List.length_append, putL_length])
  have hT : T = D := List.append_cancel_left (t1.symm.trans d1)
  subst hT
  refine ⟨T.length, ?_, Prod.ext ?_ ?_⟩
  · rw [d2]
    simp only [List.length_append, putL_length]
    omega
  · rw [t2, d2, List.append_assoc]
  · rw [← t3]
    rfl
theorem rec_w {S : ByteArray} {L R : List Int} (hS : bytesOf S = L) {p : WS} (hg : GoodK p) {r : Rec} (hr : Right r) (hl : (recordF p r).1.length ≤ 65535) (hL : L = (recordF p r).1 ++ R) :
    recR S (p.1.length : Int) = .ok (r, ((recordF p r).1.length : Int)) ∧ GoodK (recordF p r) := by
  obtain ⟨hsm, _, hn0, hn4, hsh⟩ := check_small hr.fine hr.ok
  have hw := hr.wf
  obtain ⟨h1, h2⟩ := nameN_K hg hn0
  have hgh : GoodK (headF p r) := app_K (app_K (app_K h2 _) _) _
  obtain ⟨n, hn, he⟩ := recordF_eq p r
  obtain ⟨f1, f2⟩ := data_w hS (p := ((headF p r).1 ++ putL (n : Int) 2, (headF p r).2)) (app_K hgh _) hr (R := R) (by rw [hL, he])
  obtain ⟨T, t1, _, _⟩ := dataF_any ((headF p r).1 ++ putL (n : Int) 2) ((headF p r).1 ++ putL (n : Int) 2) (headF p r).2 r rfl
  rw [← he] at f1 f2 t1
  refine ⟨?_, f2⟩
  obtain ⟨N, hN⟩ : ∃ N, (nameN p r.f0).1 = N := ⟨_, rfl⟩
  have hh : (headF p r).1 = N ++ putL r.f1 2 ++ putL r.f2 2 ++ putL r.f3 4 := by rw [← hN]; rfl
  have hd : L = N ++ (putL r.f1 2 ++ (putL r.f2 2 ++ (putL r.f3 4 ++ (putL (n : Int) 2 ++ (T ++ R))))) := by
    rw [hL, t1, hh]
    simp only [List.append_assoc]
  have hlh : (headF p r).1.length = N.length + 2 + 2 + 4 := by rw [hh]; simp only [List.length_append, putL_length]
  have d1 : (bytesOf S).drop N.length = putL r.f1 2 ++ (putL r.f2 2 ++ (putL r.f3 4 ++ (putL (n : Int) 2 ++ (T ++ R)))) := by rw [hS, hd]; simp
  have d2 := drop_next d1
  rw [putL_length] at d2
  have d3 := drop_next d2
  rw [putL_length] at d3
  have d4 := drop_next d3
  rw [putL_length] at d4
  have hsz : S.size = (recordF p r).1.length + R.length := by
    have := congrArg List.length hL
    rw [List.length_append, ← hS, bytesOf_length] at this
    exact this
  rw [hN] at h1
  unfold recR
  rw [nameAt_of hS (by rw [hd]; exact h1.ext _) (Nat.le_refl _) hn0]
  simp only []
  rw [get2p d1 ⟨hw.t0, hw.t1⟩]
  simp only []
  rw [show (N.length : Int) + 2 = ((N.length + 2 : Nat) : Int) by omega, get2p d2 ⟨hw.c0, hw.c1⟩]
  simp only []
  rw [show ((N.length + 2 : Nat) : Int) + 2 = ((N.length + 2 + 2 : Nat) : Int) by omega, get4p d3 ⟨hw.l0, hw.l1⟩]
  simp only []
  rw [show ((N.length + 2 + 2 : Nat) : Int) + 4 = ((N.length + 2 + 2 + 4 : Nat) : Int) by omega, get2p d4 (by omega)]
  simp only []
  rw [if_neg (by omega)]
  have e1 : ((N.length + 2 + 2 + 4 : Nat) : Int) + 2 = ((((headF p r).1 ++ putL (n : Int) 2, (headF p r).2) : WS).1.length : Int) := by
    simp only [List.length_append, putL_length]
    omega
  have e2 : ((((headF p r).1 ++ putL (n : Int) 2, (headF p r).2) : WS).1.length : Int) + (n : Int) = ((recordF p r).1.length : Int) := by
    simp only [List.length_append, putL_length]
    omega
  rw [e1, e2, f1]
  simp only [tb_str]
  exact if_pos hr.ok
theorem recs_w {S : ByteArray} {L : List Int} (hS : bytesOf S = L) (l : List Rec) : ∀ (p q : WS) (out : List Rec) (R : List Int), GoodK p → (∀ r ∈ l, Right r) → recsF l p = some q → L = q.1 ++ R →
    recsR S l.length out (p.1.length : Int) = .ok (out ++ l, (q.1.length : Int)) ∧ GoodK q := by
  induction l with
  | nil =>
    intro p q out R hg _ h _
    obtain rfl := Option.some.inj h
    exact ⟨by simp [recsR], hg⟩
  | cons r l ih =>
    intro p q out R hg hr h hL
    unfold recsF at h
    by_cases hc : 65535 < (recordF p r).1.length
    · rw [if_pos hc] at h
      exact absurd h (by simp)
    rw [if_neg hc] at h
    obtain ⟨T, hT⟩ := recsF_pre _ _ _ h
    obtain ⟨e1, e2⟩ := rec_w hS hg (hr r (by simp)) (by omega) (R := T ++ R) (by rw [hL, hT, List.append_assoc])
    obtain ⟨e3, e4⟩ := ih (recordF p r) q (out ++ [r]) R e2 (fun x hx => hr x (by simp [hx])) h hL
    refine ⟨?_, e4⟩
    rw [List.length_cons, recsR, e1]
    simp only []
    rw [e3]
    simp
theorem recsF_app (l l' : List Rec) : ∀ (p q : WS), recsF (l ++ l') p = some q → ∃ p1, recsF l p = some p1 ∧ recsF l' p1 = some q := by
  induction l with
  | nil => intro p q h; exact ⟨p, rfl, h⟩
  | cons r l ih =>
    intro p q h
    rw [List.cons_append] at h
    rw [recsF] at h ⊢
    by_cases hc : 65535 < (recordF p r).1.length
    · rw [if_pos hc] at h
      exact absurd h (by simp)
    rw [if_neg hc] at h ⊢
    exact ih _ _ h
theorem cnt_w {S : ByteArray} (l : List Int) : ∀ (a : Nat) (out R : List Int), (bytesOf S).drop a = l.flatMap (fun n => putL n 2) ++ R → (∀ x ∈ l, 0 ≤ x ∧ x ≤ 65535) →
    cntR S l.length out (a : Int) = .ok (out ++ l, ((a + 2 * l.length : Nat) : Int)) := by
  induction l with
  | nil => intro a out R _ _; simp [cntR]
  | cons x l ih =>
    intro a out R hd hx
    rw [List.flatMap_cons, List.append_assoc] at hd
    have hd2 := drop_next hd
    rw [putL_length] at hd2
    rw [List.length_cons, cntR, get2p hd (hx x (by simp))]
    simp only []
    rw [show (a : Int) + 2 = ((a + 2 : Nat) : Int) by omega, ih (a + 2) (out ++ [x]) R hd2 (fun y hy => hx y (by simp [hy]))]
    congr 2
    · simp
    · omega
/-- What was written is read as it was. -/
theorem write_read {m : Msg} {S : ByteArray} (hm : MsgOk m) (h : writeM m = (S, 0)) : readF S = (m, 0) ∧ S.size ≤ 65535 := by
  obtain ⟨c1, q, q1, q2, q3⟩ := write_out h
  obtain ⟨hq, hr⟩ := msg_right hm c1
  have hn := (check_parts c1).1
  have hS : bytesOf S = q.1 := by rw [← q3, bytes_str (recsF_byt _ _ _ (quesAll_byt m) q1)]
  have hsz : S.size = q.1.length := by rw [← bytesOf_length S, hS]
  obtain ⟨pb, b1, b2⟩ := recsF_app _ _ _ _ q1
  obtain ⟨pa, a1, a2⟩ := recsF_app _ _ _ _ b1
  obtain ⟨tb, htb⟩ := recsF_pre _ _ _ b2
  obtain ⟨ta, hta⟩ := recsF_pre _ _ _ a2
  obtain ⟨t0, ht0⟩ := recsF_pre _ _ _ a1
  obtain ⟨u, hu⟩ := ques_pre m.qs ((numsOf m).flatMap (fun n => putL n 2), fun _ => none)
  have hg0 : GoodK (((numsOf m).flatMap (fun n => putL n 2), fun _ => none) : WS) := fun t v hv => absurd hv (by simp)
  obtain ⟨x1, x2⟩ := quess_w hS m.qs _ [] (t0 ++ (ta ++ tb)) hg0 hq (by rw [htb, hta, ht0]; simp only [List.append_assoc]; rfl)
  obtain ⟨y1, y2⟩ := recs_w hS m.ans (quesAll m) pa [] (ta ++ tb) x2 (fun r hr' => hr r (by simp [hr'])) a1 (by rw [htb, hta, List.append_assoc])
  obtain ⟨y3, y4⟩ := recs_w hS m.auth pa pb [] tb y2 (fun r hr' => hr r (by simp [hr'])) a2 htb
  obtain ⟨y5, y6⟩ := recs_w hS m.add pb q [] [] y4 (fun r hr' => hr r (by simp [hr'])) b2 (by simp)
  refine ⟨?_, by omega⟩
  have hall : q.1 = (numsOf m).flatMap (fun n => putL n 2) ++ (u ++ (t0 ++ (ta ++ tb))) := by
    rw [htb, hta, ht0, show (quesAll m).1 = _ from hu]
    simp only [List.append_assoc]
  have hfl : (numsOf m).flatMap (fun n => putL n 2) = putL m.id 2 ++ (putL m.flags 2 ++ ([(m.qs.length : Int), (m.ans.length : Int), (m.auth.length : Int), (m.add.length : Int)].flatMap (fun n => putL n 2))) := by
    unfold numsOf
    rw [List.flatMap_cons, List.flatMap_cons]
  have d0 : (bytesOf S).drop 0 = putL m.id 2 ++ (putL m.flags 2 ++ ([(m.qs.length : Int), (m.ans.length : Int), (m.auth.length : Int), (m.add.length : Int)].flatMap (fun n => putL n 2) ++ (u ++ (t0 ++ (ta ++ tb))))) := by
    rw [hS, hall, hfl, List.drop_zero]
    simp only [List.append_assoc]
  have d1 := drop_next d0
  rw [putL_length] at d1
  have d2 := drop_next d1
  rw [putL_length] at d2
  have g0 : getF S 0 2 = some m.id := get2p (a := 0) d0 ⟨hm.id0, hm.id1⟩
  have g1 : getF S 2 2 = some m.flags := get2p (a := 2) d1 ⟨hm.fl0, hm.fl1⟩
  have g2 : cntR S 4 [] 4 = .ok ([(m.qs.length : Int), (m.ans.length : Int), (m.auth.length : Int), (m.add.length : Int)], 12) := by
    refine cnt_w (S := S) [(m.qs.length : Int), (m.ans.length : Int), (m.auth.length : Int), (m.add.length : Int)] 4 [] _ d2 ?_
    intro x hx
    simp only [List.mem_cons, List.not_mem_nil, or_false] at hx
    rcases hx with rfl | rfl | rfl | rfl <;> omega
  have h12 : (((numsOf m).flatMap (fun n => putL n 2), fun _ => none) : WS).1.length = 12 := by
    show ((numsOf m).flatMap (fun n => putL n 2)).length = 12
    rw [numsL_len]
    rfl
  rw [h12] at x1
  have hmsg : msgR S = .ok (m, (q.1.length : Int)) := by
    unfold msgR
    rw [g0]
    simp only []
    rw [g1]
    simp only []
    rw [g2]
    simp only []
    rw [msgA]
    rw [if_neg (by simp; omega)]
    rw [show (List.getD [(m.qs.length : Int), (m.ans.length : Int), (m.auth.length : Int), (m.add.length : Int)] 0 0).toNat = m.qs.length from Int.toNat_natCast _]
    rw [show quessR S m.qs.length [] (12 : Int) = _ from x1]
    simp only [List.nil_append]
    rw [msgB]
    rw [show (List.getD [(m.qs.length : Int), (m.ans.length : Int), (m.auth.length : Int), (m.add.length : Int)] 1 0).toNat = m.ans.length from Int.toNat_natCast _]
    rw [show recsR S m.ans.length [] ((List.foldl quesF ((numsOf m).flatMap (fun n => putL n 2), fun _ => none) m.qs).1.length : Int) = _ from y1]
    simp only [List.nil_append]
    rw [msgC]
    rw [show (List.getD [(m.qs.length : Int), (m.ans.length : Int), (m.auth.length : Int), (m.add.length : Int)] 2 0).toNat = m.auth.length from Int.toNat_natCast _, y3]
    simp only [List.nil_append]
    rw [msgD]
    rw [show (List.getD [(m.qs.length : Int), (m.ans.length : Int), (m.auth.length : Int), (m.add.length : Int)] 3 0).toNat = m.add.length from Int.toNat_natCast _, y5]
    simp only [List.nil_append]
    rw [msgE]
    rw [if_neg (by omega)]
  unfold readF
  rw [if_neg (by omega), hmsg]
end Go.Proofs.Ytbbeikdbioelgaa.M
