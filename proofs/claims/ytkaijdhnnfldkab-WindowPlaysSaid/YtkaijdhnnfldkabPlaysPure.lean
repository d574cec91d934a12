/- The document's rows of streams say what a map says. -/
import Derived.Test.YtkaijdhnnfldkabPWindowPlaysx2
import Derived.Test.YtkaijdhnnfldkabBook
set_option linter.unusedVariables false
set_option linter.unusedSimpArgs false
namespace Go.Proofs.Ytkaijdhnnfldkab.PlaysPure
open Go.RowKit Go.Proofs.YtkaijdhnnfldkabW.PrintWords Go.Proofs.YtkaijdhnnfldkabW.PrintMore Go.Proofs.Ytkaijdhnnfldkab.PWindowPlays Go.Proofs.Ytkaijdhnnfldkab.Book

/-- The rows say what the map says. -/
structure Rel (rows : List S66) (m : Int → Option Int) : Prop where
  ids : ∀ r ∈ rows, 0 ≤ r.f0 ∧ r.f0 < 4294967296
  mem : ∀ id v, m id = some v ↔ (⟨id, v⟩ : S66) ∈ rows

theorem w64 (x : Int) (h0 : -9223372036854775808 ≤ x) (h1 : x < 9223372036854775808) : wrap64 x = x := by
  unfold wrap64
  omega
theorem rd_eq (l : List S66) (i : Nat) (h : i < l.length) : rd_T66 l (i : Int) = l[i] := by
  unfold rd_T66
  rw [Int.toNat_natCast]
  simp [List.getD, h]

theorem drop_run (id c f : Int) (l : List S66) (hl : l.length < 1000000) : ∀ n k i (x : List S66), l.length = i + n → n < k → x.length + n < 1000000 → nuncioref17_Drop.l0 k id x (i : Int) c f l = some (c, f, x ++ (l.drop i).filter (fun r => !(r.f0 == id)))
  | 0, k + 1, i, x, h, hk, hx => by
    unfold nuncioref17_Drop.l0
    rw [if_neg (by omega), List.drop_eq_nil_of_le (by omega)]
    simp
  | n + 1, k + 1, i, x, h, hk, hx => by
    have hi : i < l.length := by omega
    have ih := drop_run id c f l hl n k (i + 1)
    unfold nuncioref17_Drop.l0
    rw [if_pos (by omega), if_pos (by omega), rd_eq l i hi, w64 _ (by omega) (by omega), show ((i : Int) + 1) = ((i + 1 : Nat) : Int) by omega, List.drop_eq_getElem_cons hi]
    by_cases he : l[i].f0 = id
    · rw [if_pos he, ih x (by omega) (by omega) (by omega), List.filter_cons_of_neg (by simp [he])]
    · rw [if_neg he, if_pos (by omega), ih _ (by omega) (by omega) (by simp; omega), List.filter_cons_of_pos (by simp [he])]
      simp

theorem drop_f (k : Nat) (c f id : Int) (l : List S66) (hk : l.length < k) (hl : l.length < 500000) : nuncioref17_Drop.f k c f l id = some (c, f, l.filter (fun r => !(r.f0 == id))) := by
  unfold nuncioref17_Drop.f
  have := drop_run id c f l (by omega) l.length k 0 [] (by omega) hk (by simp; omega)
  simpa using this
theorem put_f (k : Nat) (c f id v : Int) (l : List S66) (hk : l.length < k) (hl : l.length < 500000) : nuncioref17_put.f k c f l id v = some (c, f, l.filter (fun r => !(r.f0 == id)) ++ [⟨id, v⟩]) := by
  unfold nuncioref17_put.f
  rw [drop_f k c f id l hk hl]
  have := List.length_filter_le (fun r : S66 => !(r.f0 == id)) l
  simp only [Option.bind_some]
  rw [if_pos (by omega)]
theorem open_f (k : Nat) (c f id : Int) (l : List S66) (hk : l.length < k) (hl : l.length < 500000) : nuncioref17_Open.f k c f l id = some (c, f, l.filter (fun r => !(r.f0 == id)) ++ [⟨id, f⟩]) := by
  unfold nuncioref17_Open.f
  rw [put_f k c f id f l hk hl]
  rfl

section
variable {rows : List S66} {m : Int → Option Int}
theorem Rel.del (h : Rel rows m) (id : Int) : Rel (rows.filter (fun r => !(r.f0 == id))) (del m id) := by
  refine ⟨fun r hr => h.ids r (List.mem_filter.1 hr).1, fun k v => ?_⟩
  unfold Book.del
  by_cases hk : k = id
  · subst hk
    rw [if_pos rfl]
    simp [List.mem_filter]
  · rw [if_neg hk, h.mem k v, List.mem_filter]
    simp [hk]
theorem Rel.upd (h : Rel rows m) (id v : Int) (h0 : 0 ≤ id) (h1 : id < 4294967296) : Rel (rows.filter (fun r => !(r.f0 == id)) ++ [⟨id, v⟩]) (upd m id v) := by
  refine ⟨fun r hr => ?_, fun k x => ?_⟩
  · rcases List.mem_append.1 hr with hr | hr
    · exact h.ids r (List.mem_filter.1 hr).1
    · obtain rfl := List.mem_singleton.1 hr
      exact ⟨h0, h1⟩
  · unfold Book.upd
    by_cases hk : k = id
    · subst hk
      rw [if_pos rfl]
      simp only [List.mem_append, List.mem_filter, List.mem_singleton, S66.mk.injEq, Option.some.injEq]
      simp
      exact eq_comm
    · rw [if_neg hk, h.mem k x]
      simp only [List.mem_append, List.mem_filter, List.mem_singleton, S66.mk.injEq]
      simp [hk]
theorem Rel.none_ (h : Rel rows m) {id : Int} (hm : m id = none) (r : S66) (hr : r ∈ rows) : r.f0 ≠ id := by
  intro e
  have := (h.mem r.f0 r.f1).2 hr
  rw [e, hm] at this
  exact absurd this (by simp)
theorem Rel.at_ (h : Rel rows m) (r : S66) (hr : r ∈ rows) : m r.f0 = some r.f1 := (h.mem r.f0 r.f1).2 hr
end

theorem of_run (id c f : Int) (l : List S66) (m : Int → Option Int) (h : Rel l m) (hl : l.length < 1000000) : ∀ n k i, l.length = i + n → n < k → (∀ j, (hj : j < l.length) → j < i → l[j].f0 ≠ id) → nuncioref17_Of.l0 k id (i : Int) c f l = some ((m id).getD 0, (m id).isSome)
  | 0, k + 1, i, hi, hk, hb => by
    unfold nuncioref17_Of.l0
    rw [if_neg (by omega)]
    cases hm : m id with
    | none => rfl
    | some v =>
      obtain ⟨j, hj, he⟩ := List.mem_iff_getElem.1 ((h.mem id v).1 hm)
      exact absurd (by rw [he]) (hb j hj (by omega))
  | n + 1, k + 1, i, hi, hk, hb => by
    have hil : i < l.length := by omega
    unfold nuncioref17_Of.l0
    rw [if_pos (by omega), if_pos (by omega), rd_eq l i hil, w64 _ (by omega) (by omega), show ((i : Int) + 1) = ((i + 1 : Nat) : Int) by omega]
    by_cases he : l[i].f0 = id
    · rw [if_pos he]
      have := h.at_ l[i] (List.getElem_mem hil)
      rw [he] at this
      rw [this]
      rfl
    · rw [if_neg he]
      refine of_run id c f l m h hl n k (i + 1) (by omega) (by omega) (fun j hj hji => ?_)
      by_cases hj2 : j = i
      · subst hj2
        exact he
      · exact hb j hj (by omega)
theorem of_f (k : Nat) (c f id : Int) (l : List S66) (m : Int → Option Int) (h : Rel l m) (hk : l.length < k) (hl : l.length < 500000) : nuncioref17_Of.f k c f l id = some ((m id).getD 0, (m id).isSome) := by
  unfold nuncioref17_Of.f
  exact of_run id c f l m h (by omega) l.length k 0 (by omega) hk (fun j _ hj => absurd hj (by omega))

theorem len_put (l : List S66) (id v : Int) : (l.filter (fun r => !(r.f0 == id)) ++ [(⟨id, v⟩ : S66)]).length ≤ l.length + 1 := by
  have := List.length_filter_le (fun r : S66 => !(r.f0 == id)) l
  simp
  omega

/-- The document's answer to Grow. -/
theorem grow_f (k : Nat) (c f id n : Int) (l : List S66) (m : Int → Option Int) (h : Rel l m) (hk : l.length < k) (hl : l.length < 500000) (h0 : 0 ≤ id) (h1 : id < 4294967296) (n0 : 0 ≤ n) (n1 : n < 4294967296) :
    ∃ l', nuncioref17_Grow.f k c f l id n = some ((growR c m id n).2.1, f, l', (growR c m id n).1) ∧ Rel l' (growR c m id n).2.2 ∧ l'.length ≤ l.length + 1 := by
  unfold nuncioref17_Grow.f growR
  rw [w64 n (by omega) (by omega), of_f k c f id l m h hk hl]
  simp only [Option.bind_some]
  by_cases hid : id = 0
  · rw [if_pos hid, if_pos hid]
    by_cases hb : 2147483647 < wrap64 (c + n)
    · rw [if_pos hb, if_pos hb]
      exact ⟨l, rfl, h, by omega⟩
    · rw [if_neg hb, if_neg hb]
      exact ⟨l, rfl, h, by omega⟩
  · rw [if_neg hid, if_neg hid]
    cases hm : m id with
    | none => exact ⟨l, rfl, h, by omega⟩
    | some v =>
      simp only [Option.getD_some, Option.isSome_some, if_true]
      by_cases hb : 2147483647 < wrap64 (v + n)
      · rw [if_pos hb, if_pos hb]
        exact ⟨l, rfl, h, by omega⟩
      · rw [if_neg hb, if_neg hb, put_f k c f id _ l hk hl]
        exact ⟨_, rfl, h.upd id _ h0 h1, len_put l id _⟩

theorem takeK_pos (c v want x : Int) (e : (if c < (if v < want then v else want) then c else (if v < want then v else want)) = x) (h : ¬ x ≤ 0) : takeK c v want = x := by
  unfold takeK
  rw [e, if_pos (by omega)]
theorem takeK_zero (c v want x : Int) (e : (if c < (if v < want then v else want) then c else (if v < want then v else want)) = x) (h : x ≤ 0) : takeK c v want = 0 := by
  unfold takeK
  rw [e, if_neg (by omega)]
/-- The document's answer to Take. -/
theorem take_f (k : Nat) (c f id want : Int) (l : List S66) (m : Int → Option Int) (h : Rel l m) (hk : l.length + 1 < k) (hl : l.length < 500000) (h0 : 0 ≤ id) (h1 : id < 4294967296) :
    ∃ l', nuncioref17_Take.f k c f l id want = some ((takeR c m id want).2.1, f, l', (takeR c m id want).1) ∧ Rel l' (takeR c m id want).2.2 ∧ l'.length ≤ l.length + 1 := by
  obtain ⟨k, rfl⟩ : ∃ q, k = q + 1 := ⟨k - 1, by omega⟩
  unfold nuncioref17_Take.f takeR
  rw [of_f (k + 1) c f id l m h (by omega) hl]
  simp only [Option.bind_some]
  unfold nuncioref17_Take.j0
  cases hm : m id with
  | none =>
    refine ⟨l, ?_, h, by omega⟩
    simp
  | some v =>
    simp only [Option.getD_some, Option.isSome_some, if_true]
    simp only [put_f k c f id _ l (by omega) hl, Option.bind_some]
    have go : ∀ x : Int, (if c < (if v < want then v else want) then c else (if v < want then v else want)) = x →
        ∃ l', (if x ≤ 0 then some (c, f, l, (0 : Int)) else some (wrap64 (c - x), f, l.filter (fun r => !(r.f0 == id)) ++ [(⟨id, wrap64 (v - x)⟩ : S66)], x)) = some ((if takeK c v want = 0 then ((0 : Int), c, m) else (takeK c v want, wrap64 (c - takeK c v want), upd m id (wrap64 (v - takeK c v want)))).2.1, f, l', (if takeK c v want = 0 then ((0 : Int), c, m) else (takeK c v want, wrap64 (c - takeK c v want), upd m id (wrap64 (v - takeK c v want)))).1) ∧ Rel l' (if takeK c v want = 0 then ((0 : Int), c, m) else (takeK c v want, wrap64 (c - takeK c v want), upd m id (wrap64 (v - takeK c v want)))).2.2 ∧ l'.length ≤ l.length + 1 := by
      intro x e
      by_cases hC : x ≤ 0
      · rw [if_pos hC, takeK_zero c v want x e hC, if_pos rfl]
        exact ⟨l, rfl, h, by omega⟩
      · rw [if_neg hC, takeK_pos c v want x e hC, if_neg (by omega)]
        exact ⟨_, rfl, h.upd id _ h0 h1, len_put l id _⟩
    by_cases hA : c < want
    · rw [if_pos hA]
      by_cases hB : v < c
      · rw [if_pos hB]
        exact go v (by repeat' split
                       all_goals omega)
      · rw [if_neg hB]
        exact go c (by repeat' split
                       all_goals omega)
    · rw [if_neg hA]
      by_cases hB : v < want
      · rw [if_pos hB]
        exact go v (by repeat' split
                       all_goals omega)
      · rw [if_neg hB]
        exact go want (by repeat' split
                          all_goals omega)

theorem init_run (n s c f : Int) (hn : wrap64 n = n) (l : List S66) (hl : l.length < 1000000) : ∀ j k i (x : List S66), l.length = i + j → j < k → x.length + j < 1000000 → (∀ p, (hp : p < l.length) → i ≤ p → wrap64 (l[p].f1 + s) ≤ 2147483647) →
    nuncioref17_Initial.l0 k n s x (i : Int) c f l = some (c, n, x ++ (l.drop i).map (fun r => ⟨r.f0, wrap64 (r.f1 + s)⟩), 0)
  | 0, k + 1, i, x, h, hk, hx, ha => by
    unfold nuncioref17_Initial.l0
    rw [if_neg (by omega), List.drop_eq_nil_of_le (by omega), hn]
    simp
  | j + 1, k + 1, i, x, h, hk, hx, ha => by
    have hi : i < l.length := by omega
    have ih := init_run n s c f hn l hl j k (i + 1)
    have := ha i hi (by omega)
    unfold nuncioref17_Initial.l0
    rw [if_pos (by omega), if_pos (by omega), rd_eq l i hi, w64 ((i : Int) + 1) (by omega) (by omega), show ((i : Int) + 1) = ((i + 1 : Nat) : Int) by omega, List.drop_eq_getElem_cons hi, if_neg (by omega), if_pos (by omega),
      ih _ (by omega) (by omega) (by simp; omega) (fun p hp hip => ha p hp (by omega))]
    rw [List.map_cons, List.append_assoc, List.singleton_append]
theorem init_bad (n s c f : Int) (l : List S66) (hl : l.length < 1000000) : ∀ j k i (x : List S66), l.length = i + j → j < k → x.length + j < 1000000 → (∃ p, ∃ hp : p < l.length, i ≤ p ∧ 2147483647 < wrap64 (l[p].f1 + s)) →
    nuncioref17_Initial.l0 k n s x (i : Int) c f l = some (c, f, l, 3)
  | 0, k + 1, i, x, h, hk, hx, ha => by
    obtain ⟨p, hp, hip, _⟩ := ha
    omega
  | j + 1, k + 1, i, x, h, hk, hx, ha => by
    have hi : i < l.length := by omega
    have ih := init_bad n s c f l hl j k (i + 1)
    unfold nuncioref17_Initial.l0
    rw [if_pos (by omega), if_pos (by omega), rd_eq l i hi, w64 ((i : Int) + 1) (by omega) (by omega), show ((i : Int) + 1) = ((i + 1 : Nat) : Int) by omega]
    by_cases hb : 2147483647 < wrap64 (l[i].f1 + s)
    · rw [if_pos hb]
    · rw [if_neg hb, if_pos (by omega)]
      obtain ⟨p, hp, hip, hpb⟩ := ha
      refine ih _ (by omega) (by omega) (by simp; omega) ⟨p, hp, ?_, hpb⟩
      by_cases hpi : p = i
      · subst hpi
        exact absurd hpb hb
      · omega
/-- The document's answer to Initial, where it is refused. -/
theorem init_f_bad (k : Nat) (c f n : Int) (l : List S66) (m : Int → Option Int) (h : Rel l m) (hk : l.length < k) (hl : l.length < 500000) (n0 : 0 ≤ n) (n1 : n < 4294967296)
    (hb : 2147483647 < n ∨ ∃ id v, 0 ≤ id ∧ id < 4294967296 ∧ m id = some v ∧ 2147483647 < wrap64 (v + wrap64 (n - f))) : nuncioref17_Initial.f k c f l n = some (c, f, l, 3) := by
  unfold nuncioref17_Initial.f
  rw [w64 n (by omega) (by omega)]
  by_cases hn : 2147483647 < n
  · rw [if_pos hn]
  · rw [if_neg hn]
    rcases hb with hb | ⟨id, v, _, _, hv, hb⟩
    · exact absurd hb hn
    · obtain ⟨p, hp, he⟩ := List.mem_iff_getElem.1 ((h.mem id v).1 hv)
      exact init_bad n _ c f l (by omega) l.length k 0 [] (by omega) hk (by simp; omega) ⟨p, hp, by omega, by rw [he]; exact hb⟩
/-- The document's answer to Initial, where it is taken. -/
theorem init_f_ok (k : Nat) (c f n : Int) (l : List S66) (m : Int → Option Int) (h : Rel l m) (hk : l.length < k) (hl : l.length < 500000) (n0 : 0 ≤ n) (hn : n ≤ 2147483647)
    (ha : ∀ id v, 0 ≤ id → id < 4294967296 → m id = some v → wrap64 (v + wrap64 (n - f)) ≤ 2147483647) :
    nuncioref17_Initial.f k c f l n = some (c, n, l.map (fun r => ⟨r.f0, wrap64 (r.f1 + wrap64 (n - f))⟩), 0) ∧ Rel (l.map (fun r => (⟨r.f0, wrap64 (r.f1 + wrap64 (n - f))⟩ : S66))) (fun id => (m id).map fun v => wrap64 (v + wrap64 (n - f))) := by
  refine ⟨?_, fun r hr => ?_, fun id v => ?_⟩
  · unfold nuncioref17_Initial.f
    have hw := w64 n (by omega) (by omega)
    rw [hw, if_neg (by omega)]
    have := init_run n (wrap64 (n - f)) c f hw l (by omega) l.length k 0 [] (by omega) hk (by simp; omega) (fun p hp _ => by
      have hm := List.getElem_mem hp
      exact ha l[p].f0 l[p].f1 (h.ids _ hm).1 (h.ids _ hm).2 (h.at_ _ hm))
    simpa using this
  · obtain ⟨q, hq, rfl⟩ := List.mem_map.1 hr
    exact h.ids q hq
  · constructor
    · intro hv
      obtain ⟨x, hx, rfl⟩ := Option.map_eq_some_iff.1 hv
      exact List.mem_map.2 ⟨⟨id, x⟩, (h.mem id x).1 hx, rfl⟩
    · intro hv
      obtain ⟨q, hq, he⟩ := List.mem_map.1 hv
      simp only [S66.mk.injEq] at he
      obtain ⟨rfl, rfl⟩ := he
      exact Option.map_eq_some_iff.2 ⟨q.f1, h.at_ q hq, rfl⟩
end Go.Proofs.Ytkaijdhnnfldkab.PlaysPure
