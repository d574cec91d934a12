/- What is written is read as it was: the plain law of WriteBack and of WriteRead. The message is right, and its bytes are none too many. -/
import Derived.Test.YtbbeikdbioelgaaMOneLaw
import Derived.Test.YtbbeikdbioelgaaMRDns
import Derived.Test.YtbbeikdbioelgaaMNameL
set_option linter.unusedVariables false
set_option linter.unusedSimpArgs false
namespace Go.Proofs.Ytbbeikdbioelgaa.M
open Go.RowKit Go.Maps Go.Proofs.YtbbeikdbioelgaaW.PrintWords Go.Proofs.YtbbeikdbioelgaaW.PrintLast Go.Proofs.YtbbeikdbioelgaaW.PrintMore

theorem Rd.mono {L : List Int} {p a : Nat} {r : List Int} {e : Nat} (h : Rd L p a r e) : ∀ {p' : Nat}, p ≤ p' → Rd L p' a r e := by
  induction h with
  | zero h => intro p' _; exact .zero h
  | label h h1 h2 hl hr ih => intro p' hp; exact .label h h1 h2 hl (ih hp)
  | ptr h h1 hx hx2 ht hp hr ih => intro p' hp'; exact .ptr h h1 hx hx2 ht (by omega) hr
theorem at_ext {L : List Int} {i : Nat} {x : Int} (h : L[i]? = some x) (T : List Int) : (L ++ T)[i]? = some x := by
  rw [List.getElem?_append_left (List.getElem?_eq_some_iff.1 h).1]
  exact h
theorem Rd.ext {L : List Int} {p a : Nat} {r : List Int} {e : Nat} (h : Rd L p a r e) (T : List Int) : Rd (L ++ T) p a r e := by
  induction h with
  | zero h => exact .zero (at_ext h T)
  | @label p a n r e h h1 h2 hl hr ih =>
    have := Rd.label (at_ext h T) h1 h2 (by rw [List.length_append]; omega) ih
    rwa [List.drop_append_of_le_length (by omega), List.take_append_of_le_length (by rw [List.length_drop]; omega)] at this
  | ptr h h1 hx hx2 ht hp hr ih => exact .ptr (at_ext h T) (at_ext h1 T) hx hx2 ht hp ih
theorem Rd.lt {L : List Int} {p a : Nat} {r : List Int} {e : Nat} (h : Rd L p a r e) : a < e ∧ e ≤ L.length := by
  induction h with
  | zero h => have := (List.getElem?_eq_some_iff.1 h).1; omega
  | label h h1 h2 hl hr ih => omega
  | ptr h h1 hx hx2 ht hp hr ih => have := (List.getElem?_eq_some_iff.1 h1).1; omega
theorem nb_of {S : ByteArray} {a n : Nat} (h : (bytesOf S)[a]? = some (n : Int)) : nb S a = n := by
  obtain ⟨hl, he⟩ := List.getElem?_eq_some_iff.1 h
  have hs : a < S.size := by rwa [bytesOf_length] at hl
  have h2 := nb_at S a hs
  have h3 : (bytesOf S)[a] = ((S[a]'hs).toNat : Int) := by simp only [bytesOf, List.getElem_map]; rfl
  omega
theorem Rd.ends {S : ByteArray} {L : List Int} (hL : bytesOf S = L) {p a : Nat} {r : List Int} {e : Nat} (h : Rd L p a r e) : ∀ (K : Nat) (en : Int), (e : Int) ≤ en → (en - a).toNat < K → endsR K S a en = true := by
  induction h with
  | @zero p a h =>
    intro K en he hK
    obtain ⟨K, rfl⟩ : ∃ k, K = k + 1 := ⟨K - 1, by omega⟩
    unfold endsR
    rw [if_pos (by omega), Int.toNat_natCast, if_pos (nb_of (n := 0) (by rw [hL]; exact h))]
  | @label p a n r e h h1 h2 hl hr ih =>
    intro K en he hK
    have hlt := hr.lt
    obtain ⟨K, rfl⟩ : ∃ k, K = k + 1 := ⟨K - 1, by omega⟩
    have hn := nb_of (by rw [hL]; exact h)
    unfold endsR
    rw [if_pos (by omega), Int.toNat_natCast, hn, if_neg (by omega), if_neg (by omega), if_neg (by omega)]
    rw [show (a : Int) + ((n : Int) + 1) = ((a + 1 + n : Nat) : Int) by omega]
    exact ih K en he (by omega)
  | @ptr p a x y t r e h h1 hx hx2 ht hp hr ih =>
    intro K en he hK
    obtain ⟨K, rfl⟩ : ∃ k, K = k + 1 := ⟨K - 1, by omega⟩
    have hn := nb_of (by rw [hL]; exact h)
    unfold endsR
    rw [if_pos (by omega), Int.toNat_natCast, hn, if_neg (by omega), if_pos (by omega)]
    exact decide_eq_true (by omega)
theorem nameF_rd (k : Nat) : ∀ (f : Nat) (out : List Int) (m : MM) (s : ByteArray) (p : Nat), nameW k s → s.size < f → p ≤ out.length →
    (∀ (t : ByteArray) (v : Int), m t.data.toList = some v → 0 ≤ v ∧ v < 16384 ∧ (t.size ≤ s.size → v < p ∧ ∃ e, Rd out v.toNat v.toNat (bytesOf t) e)) →
    Rd (nameF f out m s).1 p out.length (bytesOf s) (nameF f out m s).1.length ∧
    ∀ (t : ByteArray) (v : Int), (nameF f out m s).2 t.data.toList = some v → m t.data.toList = some v ∨ ((p : Int) ≤ v ∧ v < 16384 ∧ ∃ e, Rd (nameF f out m s).1 p v.toNat (bytesOf t) e) := by
  induction k with
  | zero => intro f out m s p h; exact absurd h id
  | succ k ih =>
    intro f out m s p h hf hp hm
    match f, hf with
    | f + 1, hf =>
    unfold nameF
    rcases h with ⟨h1, h2⟩ | ⟨h1, h2, h3, h4⟩
    · rw [if_pos (by omega)]
      refine ⟨?_, fun t v ht => .inl ht⟩
      rw [bytesOf_one h1, h2]
      have h0 : (out ++ [0])[out.length]? = some (0 : Int) := by simp
      have hz := Rd.zero (p := p) h0
      simpa using hz
    · rw [if_neg (by omega)]
      cases hmm : m s.data.toList with
      | some a =>
        obtain ⟨a0, a1, a2⟩ := hm s a hmm
        obtain ⟨a3, e, hr⟩ := a2 (Nat.le_refl _)
        refine ⟨?_, fun t v ht => .inl ht⟩
        obtain ⟨n, rfl⟩ := Int.eq_ofNat_of_zero_le a0
        have hput : putL ((n : Int) + 49152) 2 = [((192 + n / 256 : Nat) : Int), ((n % 256 : Nat) : Int)] := by
          rw [put2_cons]
          congr 1
          · omega
          · congr 1
            omega
        simp only [hput]
        have hq := Rd.ptr (L := out ++ [((192 + n / 256 : Nat) : Int), ((n % 256 : Nat) : Int)]) (p := p) (a := out.length) (x := 192 + n / 256) (y := n % 256) (t := n) (by simp) (by simp) (by omega) (by omega) (by omega) (by omega) (hr.ext _)
        simpa using hq
      | none =>
        simp only []
        obtain ⟨o1, ho1⟩ : ∃ x, out ++ bytesOf (s.extract 0 (nb s 0 + 1)) = x := ⟨_, rfl⟩
        obtain ⟨m1, hm1⟩ : ∃ x, (if out.length < 16384 then updS m s.data.toList out.length else m) = x := ⟨_, rfl⟩
        obtain ⟨s1, hs1⟩ : ∃ x, s.extract (nb s 0 + 1) s.size = x := ⟨_, rfl⟩
        rw [hs1] at h4
        rw [hs1, ho1, hm1]
        have z1 : s1.size = s.size - (nb s 0 + 1) := by rw [← hs1, ByteArray.size_extract]; omega
        have l1 : o1.length = out.length + (nb s 0 + 1) := by rw [← ho1, List.length_append, bytesOf_length, ByteArray.size_extract]; omega
        have keep : ∀ (t : ByteArray) (v : Int), m t.data.toList = some v → 0 ≤ v ∧ v < 16384 ∧ (t.size ≤ s1.size → v < p ∧ ∃ e, Rd o1 v.toNat v.toNat (bytesOf t) e) := by
          intro t v ht
          obtain ⟨b0, b1, b2⟩ := hm t v ht
          refine ⟨b0, b1, fun hh => ?_⟩
          obtain ⟨b3, e, b4⟩ := b2 (by omega)
          exact ⟨b3, e, by rw [← ho1]; exact b4.ext _⟩
        have new : ∀ (t : ByteArray) (v : Int), m1 t.data.toList = some v → m t.data.toList = some v ∨ (t = s ∧ v = out.length ∧ out.length < 16384) := by
          intro t v ht
          rw [← hm1] at ht
          by_cases c : out.length < 16384
          · rw [if_pos c] at ht
            unfold updS at ht
            by_cases e : t.data.toList = s.data.toList
            · rw [if_pos e] at ht
              exact .inr ⟨ByteArray.ext (Array.toList_inj.1 e), (Option.some.inj ht).symm, c⟩
            · rw [if_neg e] at ht
              exact .inl ht
          · rw [if_neg c] at ht
            exact .inl ht
        obtain ⟨i1, i2⟩ := ih f o1 m1 s1 p h4 (by omega) (by omega) (by
          intro t v ht
          rcases new t v ht with h | ⟨rfl, rfl, hc⟩
          · exact keep t v h
          · exact ⟨by omega, by omega, fun hh => by omega⟩)
        obtain ⟨T, hT⟩ := nameF_pre f o1 m1 s1
        have hsplit := bytesOf_split s (nb s 0 + 1)
        rw [hs1] at hsplit
        have htc := take_cons s (by omega) (nb s 0)
        obtain ⟨O, hO⟩ : ∃ O, (nameF f o1 m1 s1).1 = O := ⟨_, rfl⟩
        rw [hO] at i1 i2 hT ⊢
        have hR : Rd O p out.length (bytesOf s) O.length := by
          have hout : O = out ++ ((nb s 0 : Int) :: (((bytesOf s).drop 1).take (nb s 0) ++ T)) := by rw [hT, ← ho1, htc]; simp
          have ll : (((bytesOf s).drop 1).take (nb s 0)).length = nb s 0 := by rw [List.length_take, List.length_drop, bytesOf_length]; omega
          have hd : List.drop (out.length + 1) O = ((bytesOf s).drop 1).take (nb s 0) ++ T := by rw [hout]; simp [List.drop_append]
          have hlen := congrArg List.length hout
          simp only [List.length_append, List.length_cons, ll] at hlen
          have hq := Rd.label (L := O) (p := p) (a := out.length) (n := nb s 0) (r := bytesOf s1) (e := O.length) (by rw [hout]; simp) h1 h2 (by omega) (by rw [show out.length + 1 + nb s 0 = o1.length by omega]; exact i1)
          rw [hd, List.take_left' ll] at hq
          rw [hsplit, htc]
          exact hq
        refine ⟨hR, fun t v ht => ?_⟩
        rcases i2 t v ht with h | h
        · rcases new t v h with h | ⟨rfl, rfl, hc⟩
          · exact .inl h
          · exact .inr ⟨by omega, by omega, _, by rw [Int.toNat_natCast]; exact hR⟩
        · exact .inr h
/-- What is known is there to be read. -/
abbrev GoodK (p : WS) : Prop := ∀ (t : ByteArray) (v : Int), p.2 t.data.toList = some v → 0 ≤ v ∧ v < 16384 ∧ v < p.1.length ∧ ∃ e, Rd p.1 v.toNat v.toNat (bytesOf t) e
theorem nameN_K {p : WS} (hg : GoodK p) {s : ByteArray} (hs : isName s = true) : Rd (nameN p s).1 p.1.length p.1.length (bytesOf s) (nameN p s).1.length ∧ GoodK (nameN p s) := by
  obtain ⟨i1, i2⟩ := nameF_rd (s.size + 1) (s.size + 1) p.1 p.2 s p.1.length (isName_W hs).1 (by omega) (Nat.le_refl _) (fun t v ht => by
    obtain ⟨a, b, c, d⟩ := hg t v ht
    exact ⟨a, b, fun _ => ⟨c, d⟩⟩)
  refine ⟨i1, fun t v ht => ?_⟩
  obtain ⟨T, hT⟩ := nameF_pre (s.size + 1) p.1 p.2 s
  have hT' : (nameN p s).1 = p.1 ++ T := hT
  rcases i2 t v ht with h | ⟨h1, h2, e, h3⟩
  · obtain ⟨a, b, c, e, d⟩ := hg t v h
    exact ⟨a, b, by rw [hT', List.length_append]; omega, e, by rw [hT']; exact d.ext T⟩
  · have h4 : v.toNat < (nameN p s).1.length := by
      have := h3.lt
      show v.toNat < (nameF _ _ _ _).1.length
      omega
    exact ⟨by omega, h2, by omega, e, h3.mono (by omega)⟩
theorem app_K {p : WS} (hg : GoodK p) (l : List Int) : GoodK (p.1 ++ l, p.2) := by
  intro t v ht
  obtain ⟨a, b, c, e, d⟩ := hg t v ht
  exact ⟨a, b, by simp only [List.length_append]; omega, e, d.ext l⟩
theorem nameAt_of {S : ByteArray} {L : List Int} (hS : bytesOf S = L) {p a e : Nat} {s : ByteArray} (h : Rd L p a (bytesOf s) e) (hp : p ≤ a) (hs : isName s = true) : nameAt S a = .ok (bytesOf s, (e : Int)) := by
  have hz := isName_size hs
  have := (h.mono hp).read hS (a * 256 + 257) [] (-1) (by rw [bytesOf_length]; simp; omega) (by simp)
  unfold nameAt
  rw [Int.toNat_natCast, this]
  rfl
theorem drop_next {L X R : List Int} {a : Nat} (h : L.drop a = X ++ R) : L.drop (a + X.length) = R := by
  rw [← List.drop_drop, h]
  simp
theorem drop_len {L X R : List Int} {a : Nat} (h : L.drop a = X ++ R) (hx : X ≠ []) : a + X.length + R.length = L.length := by
  have hl := congrArg List.length h
  rw [List.length_drop, List.length_append] at hl
  have : 0 < X.length := List.length_pos_iff.2 hx
  omega
theorem getN {S : ByteArray} {a n : Nat} {T R : List Int} (h : (bytesOf S).drop a = T ++ R) (hT : T.length = n) (h1 : 1 ≤ n) (h8 : n ≤ 8) : getF S (a : Int) (n : Int) = some (valF 0 T) := by
  have hl := congrArg List.length h
  rw [List.length_drop, bytesOf_length, List.length_append] at hl
  unfold getF
  rw [if_neg (by omega), part_bytes (by omega), Option.map_some, bmid', show a + n - a = n by omega, h, ← hT, List.take_left]
theorem get2p {S : ByteArray} {a : Nat} {x : Int} {R : List Int} (h : (bytesOf S).drop a = putL x 2 ++ R) (hx : 0 ≤ x ∧ x ≤ 65535) : getF S (a : Int) 2 = some x := by
  have e := getN (n := 2) h (putL_length _ _) (by decide) (by decide)
  rw [show valF 0 (putL x 2) = x by rw [put2_cons]; simp only [valF]; omega] at e
  exact e
theorem get4p {S : ByteArray} {a : Nat} {x : Int} {R : List Int} (h : (bytesOf S).drop a = putL x 4 ++ R) (hx : 0 ≤ x ∧ x ≤ 4294967295) : getF S (a : Int) 4 = some x := by
  have e := getN (n := 4) h (putL_length _ _) (by decide) (by decide)
  rw [show valF 0 (putL x 4) = x by simp [putL, valF]; omega] at e
  exact e
theorem part_w {S t : ByteArray} {a : Nat} {R : List Int} (h : (bytesOf S).drop a = bytesOf t ++ R) (ha : a ≤ S.size) : partF S (a : Int) (t.size : Int) = some t := by
  have hl := congrArg List.length h
  rw [List.length_drop, bytesOf_length, List.length_append, bytesOf_length] at hl
  rw [part_bytes (by omega)]
  congr 1
  apply tb_inj
  rw [bmid', show a + t.size - a = t.size by omega, h, List.take_left' (bytesOf_length t)]
theorem ques_w {S : ByteArray} {L R : List Int} (hS : bytesOf S = L) {p : WS} (hg : GoodK p) {q : Ques} (hq : QRight q) (hL : L = (quesF p q).1 ++ R) : quesR S (p.1.length : Int) = .ok (q, ((quesF p q).1.length : Int)) ∧ GoodK (quesF p q) := by
  obtain ⟨h1, h2⟩ := nameN_K hg hq.name
  refine ⟨?_, app_K (app_K h2 _) _⟩
  have hd : L = (nameN p q.f0).1 ++ (putL q.f1 2 ++ (putL q.f2 2 ++ R)) := by
    rw [hL]
    show (_ ++ _ ++ _) ++ R = _
    simp only [List.append_assoc]
  unfold quesR
  rw [nameAt_of hS (by rw [hd]; exact h1.ext _) (Nat.le_refl _) hq.name]
  simp only []
  have d1 : (bytesOf S).drop (nameN p q.f0).1.length = putL q.f1 2 ++ (putL q.f2 2 ++ R) := by rw [hS, hd]; simp
  have d2 : (bytesOf S).drop ((nameN p q.f0).1.length + 2) = putL q.f2 2 ++ R := by have := drop_next d1; rwa [putL_length] at this
  rw [get2p d1 hq.r1]
  simp only []
  rw [show (((nameN p q.f0).1.length : Int) + 2) = (((nameN p q.f0).1.length + 2 : Nat) : Int) by omega, get2p d2 hq.r2]
  simp only [tb_str]
  have hz : (((nameN p q.f0).1.length + 2 : Nat) : Int) + 2 = ((quesF p q).1.length : Int) := by
    show _ = (((nameN p q.f0).1 ++ putL q.f1 2 ++ putL q.f2 2).length : Int)
    simp only [List.length_append, putL_length]
    omega
  rw [hz]
theorem quess_w {S : ByteArray} {L : List Int} (hS : bytesOf S = L) (l : List Ques) : ∀ (p : WS) (out : List Ques) (R : List Int), GoodK p → (∀ q ∈ l, QRight q) → L = (l.foldl quesF p).1 ++ R →
    quessR S l.length out (p.1.length : Int) = .ok (out ++ l, ((l.foldl quesF p).1.length : Int)) ∧ GoodK (l.foldl quesF p) := by
  induction l with
  | nil => intro p out R hg _ _; exact ⟨by simp [quessR], hg⟩
  | cons q l ih =>
    intro p out R hg hq hL
    rw [List.foldl_cons] at hL ⊢
    obtain ⟨T, hT⟩ := ques_pre l (quesF p q)
    obtain ⟨e1, e2⟩ := ques_w hS hg (hq q (by simp)) (R := T ++ R) (by rw [hL, hT, List.append_assoc])
    obtain ⟨e3, e4⟩ := ih (quesF p q) (out ++ [q]) R e2 (fun x hx => hq x (by simp [hx])) hL
    refine ⟨?_, e4⟩
    rw [List.length_cons, quessR, e1]
    simp only []
    rw [e3]
    simp
theorem names_w {S : ByteArray} {L : List Int} (hS : bytesOf S = L) {k en : Int} (hk : k ≠ 33) (l : List ByteArray) : ∀ (p : WS) (out : List ByteArray) (R : List Int), GoodK p → (∀ s ∈ l, isName s = true) → L = (l.foldl nameN p).1 ++ R → ((l.foldl nameN p).1.length : Int) ≤ en →
    namesR S k en l.length out (p.1.length : Int) = .ok (out ++ l, ((l.foldl nameN p).1.length : Int)) ∧ GoodK (l.foldl nameN p) := by
  induction l with
  | nil => intro p out R hg _ _ _; exact ⟨by simp [namesR], hg⟩
  | cons s l ih =>
    intro p out R hg hs hL he
    rw [List.foldl_cons] at hL he ⊢
    obtain ⟨T, hT⟩ := foldl_pre l (nameN p s)
    have hn := hs s (by simp)
    obtain ⟨h1, h2⟩ := nameN_K hg hn
    obtain ⟨e3, e4⟩ := ih (nameN p s) (out ++ [s]) R h2 (fun x hx => hs x (by simp [hx])) hL he
    refine ⟨?_, e4⟩
    have hr : Rd L p.1.length p.1.length (bytesOf s) (nameN p s).1.length := by rw [hL, hT, List.append_assoc]; exact h1.ext _
    have hw : withinF S k (p.1.length : Int) en = .ok (bytesOf s, ((nameN p s).1.length : Int)) := by
      have hle : ((nameN p s).1.length : Int) ≤ en := by rw [hT, List.length_append] at he; omega
      unfold withinF endsF
      rw [hr.ends hS _ en hle (by omega), if_neg (by decide), if_neg hk, nameAt_of hS hr (Nat.le_refl _) hn]
    rw [List.length_cons, namesR, hw]
    simp only [tb_str]
    rw [e3]
    simp
theorem nums_w {S : ByteArray} {z : Nat} {B en : Int} (hz1 : 1 ≤ z) (hget : ∀ (a : Nat) (x : Int) (R : List Int), (bytesOf S).drop a = putL x z ++ R → 0 ≤ x ∧ x ≤ B → getF S (a : Int) (z : Int) = some x) (l : List Int) : ∀ (a : Nat) (out R : List Int), (bytesOf S).drop a = l.flatMap (fun n => putL n z) ++ R → (∀ x ∈ l, 0 ≤ x ∧ x ≤ B) → ((a + z * l.length : Nat) : Int) ≤ en →
    numsR S (z : Int) en l.length out (a : Int) = .ok (out ++ l, ((a + z * l.length : Nat) : Int)) := by
  induction l with
  | nil => intro a out R _ _ _; simp [numsR]
  | cons x l ih =>
    intro a out R hd hx he
    rw [List.flatMap_cons, List.append_assoc] at hd
    have hm : z * (l.length + 1) = z + z * l.length := by rw [Nat.mul_add, Nat.mul_one, Nat.add_comm]
    rw [List.length_cons] at he ⊢
    rw [hm] at he ⊢
    have hd2 := drop_next hd
    rw [putL_length] at hd2
    rw [numsR, if_neg (by omega), hget a x _ hd (hx x (by simp))]
    simp only []
    rw [show (a : Int) + (z : Int) = ((a + z : Nat) : Int) by omega, ih (a + z) (out ++ [x]) R hd2 (fun y hy => hx y (by simp [hy])) (by rw [Nat.add_assoc]; exact he), Nat.add_assoc]
    simp
theorem texts_w {S : ByteArray} {en : Int} (l : List ByteArray) : ∀ (a : Nat) (out : List ByteArray) (K : Nat) (R : List Int), a ≤ S.size → (bytesOf S).drop a = l.flatMap (fun s => (s.size : Int) % 256 :: bytesOf s) ++ R → (∀ s ∈ l, s.size ≤ 255) → en = (a : Int) + (l.flatMap (fun s => (s.size : Int) % 256 :: bytesOf s)).length → (en - a).toNat < K →
    textsR S en K out (a : Int) = .ok (out ++ l, en) := by
  induction l with
  | nil =>
    intro a out K R _ _ _ he hK
    obtain ⟨K, rfl⟩ : ∃ k, K = k + 1 := ⟨K - 1, by omega⟩
    simp only [List.flatMap_nil, List.length_nil] at he
    rw [textsR, if_neg (by omega), List.append_nil]
    congr 2
    omega
  | cons s l ih =>
    intro a out K R ha hd hx he hK
    obtain ⟨K, rfl⟩ : ∃ k, K = k + 1 := ⟨K - 1, by omega⟩
    rw [List.flatMap_cons, List.cons_append, List.cons_append] at hd
    rw [List.flatMap_cons, List.length_append, List.length_cons, bytesOf_length] at he
    have hsz := hx s (by simp)
    have hd0 : (bytesOf S).drop a = [(s.size : Int) % 256] ++ (bytesOf s ++ (l.flatMap (fun s => (s.size : Int) % 256 :: bytesOf s) ++ R)) := by rw [hd]; simp
    have hd1 := drop_next hd0
    have hln := drop_len hd0 (by simp)
    simp only [List.length_singleton, bytesOf_length, List.length_append] at hd1 hln
    have hd2 := drop_next hd1
    rw [bytesOf_length] at hd2
    have hg := getN (n := 1) hd0 rfl (by decide) (by decide)
    rw [show valF 0 [(s.size : Int) % 256] = (s.size : Int) by simp only [valF]; omega] at hg
    have hg1 : getF S (a : Int) 1 = some (s.size : Int) := hg
    rw [textsR, if_pos (by omega), hg1]
    simp only []
    rw [if_neg (by omega), show (a : Int) + 1 = ((a + 1 : Nat) : Int) by omega, part_w hd1 (by omega)]
    simp only []
    rw [show ((a + 1 : Nat) : Int) + (s.size : Int) = ((a + 1 + s.size : Nat) : Int) by omega, ih (a + 1 + s.size) (out ++ [s]) K R (by omega) hd2 (fun y hy => hx y (by simp [hy])) (by omega) (by omega)]
    simp
theorem bare_w {S : ByteArray} (k : Nat) : ∀ (x : ByteArray) (a : Nat) (R b : List Int) (K : Nat), nameW k x → (bytesOf S).drop a = bytesOf x ++ R → b.length + x.size ≤ 255 → x.size ≤ K → bareR K S b (a : Int) = .ok (b ++ bytesOf x, ((a + x.size : Nat) : Int)) := by
  induction k with
  | zero => intro x a R b K h; exact absurd h id
  | succ k ih =>
    intro x a R b K h hd hb hK
    have hpos := nameW_pos h
    obtain ⟨K, rfl⟩ : ∃ k, K = k + 1 := ⟨K - 1, by omega⟩
    have hln := congrArg List.length hd
    rw [List.length_drop, bytesOf_length, List.length_append, bytesOf_length] at hln
    have hb1 := bsplit' x (by omega)
    have hat : (bytesOf S)[a]? = some (nb x 0 : Int) := by
      have h0 : ((bytesOf S).drop a)[0]? = some (nb x 0 : Int) := by rw [hd, hb1]; rfl
      rw [List.getElem?_drop] at h0
      exact h0
    unfold bareR
    rw [get_byte hat]
    simp only []
    rcases h with ⟨h1, h2⟩ | ⟨h1, h2, h3, h4⟩
    · rw [if_pos (by omega), bytesOf_one h1, h2, h1]
      rfl
    · obtain ⟨s1, hs1⟩ : ∃ y, x.extract (nb x 0 + 1) x.size = y := ⟨_, rfl⟩
      rw [hs1] at h4
      have z1 : s1.size = x.size - (nb x 0 + 1) := by rw [← hs1, ByteArray.size_extract]; omega
      have z2 := nameW_pos h4
      rw [if_neg (by omega), if_neg (by omega), if_neg (by omega), if_neg (by omega)]
      have hsplit := bytesOf_split x (nb x 0 + 1)
      rw [hs1] at hsplit
      have htc := take_cons x (by omega) (nb x 0)
      have ll : (((bytesOf x).drop 1).take (nb x 0)).length = nb x 0 := by rw [List.length_take, List.length_drop, bytesOf_length]; omega
      obtain ⟨lab, hlab⟩ : ∃ y, ((bytesOf x).drop 1).take (nb x 0) = y := ⟨_, rfl⟩
      rw [hlab] at htc ll
      have hx : bytesOf x = (nb x 0 : Int) :: (lab ++ bytesOf s1) := by rw [hsplit, htc]; rfl
      have hd0 : (bytesOf S).drop a = [(nb x 0 : Int)] ++ (lab ++ (bytesOf s1 ++ R)) := by rw [hd, hx]; simp
      have hd1 := drop_next hd0
      have hd2 := drop_next hd1
      rw [ll] at hd2
      simp only [List.length_singleton] at hd1 hd2
      rw [show (a : Int) + 1 = ((a + 1 : Nat) : Int) by omega, part_bytes (by omega)]
      simp only []
      rw [bmid', show a + 1 + nb x 0 - (a + 1) = nb x 0 by omega, hd1, List.take_left' ll, show ((a + 1 : Nat) : Int) + (nb x 0 : Int) = ((a + 1 + nb x 0 : Nat) : Int) by omega]
      rw [ih s1 (a + 1 + nb x 0) R _ K h4 hd2 (by simp only [List.length_append, List.length_singleton, ll]; omega) (by omega), hx]
      congr 2
      · simp
      · omega
end Go.Proofs.Ytbbeikdbioelgaa.M
