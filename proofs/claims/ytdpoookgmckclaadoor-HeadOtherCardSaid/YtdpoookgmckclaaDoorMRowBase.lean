/- Parameters, opened to what they say. -/
import Derived.Test.YtdpoookgmckclaaDoorMJDraw
import Derived.Deep.Slices
import Derived.Deep.Fields
import Derived.ChangeSame
import Derived.SizedLaws
import Derived.KernelRfl
set_option linter.unusedVariables false
set_option linter.unusedSimpArgs false
namespace Go.Proofs.YtdpoookgmckclaaDoor.M
open Go.ChangeShapes Go.WideShapes Go.Deep Go.RowKit Go.Proofs.YtdpoookgmckclaaDoorW.PrintWords

/-- What is trodden as type t is a value of this kind. -/
def Opens {α : Type} (K : Kd α) (t : TypeId) (Ok : α → Prop) : Prop := ∀ {H : Type} {enc : TypeId × Value → H} {W : World} {base : Nat} {spare : Nat → Bool} {held : Bool} {fuel : Nat} {cs : List Value} {x : DataW H × List MemPlace},
  DataW.trod enc Tryd.prog W base spare held fuel t cs = some x → (∀ n ∈ x.1.weights Tryd.prog t, n ≤ reachBytes) → ∃ a : α, K.K W a cs ∧ Ok a
theorem opens_string : Opens Kd.string 9 (fun s => s.size ≤ 140737488351232) := by
  intro H enc W base spare held fuel cs x h hw
  obtain ⟨s, rfl, rfl, _⟩ := DataW.trod_string Tryd.underlying9 h
  refine ⟨s, rfl, ?_⟩
  have := hw s.data.toList.length (by simp [DataW.weights])
  simpa [reachBytes] using this
theorem opens_int {κ : IntKind} {t : TypeId} (ht : Tryd.prog.underlying t = some (.int κ)) : Opens (Kd.int κ) t (fun n => (Lit.int κ n).wf = true) := by
  intro H enc W base spare held fuel cs x h hw
  obtain ⟨n, rfl, rfl, hn⟩ := DataW.trod_int ht h
  exact ⟨n, rfl, hn⟩
theorem weights_all {H : Type} {e : TypeId} {l : List (DataW H)} {d : DataW H} (hd : d ∈ l) {n : Nat} (hn : n ∈ d.weights Tryd.prog e) : n ∈ DataW.weightsAll Tryd.prog e l := by
  induction l with
  | nil => exact absurd hd (by simp)
  | cons a l ih =>
    simp only [DataW.weightsAll, List.mem_append]
    rcases List.mem_cons.1 hd with rfl | h
    · exact .inl hn
    · exact .inr (ih h)
theorem opens_slice {α : Type} {K : Kd α} {t e : TypeId} {Ok : α → Prop} (ht : Tryd.prog.underlying t = some (.slice e)) (hC : Tryd.prog.cellsOf e = K.sz) (hK : Opens K e Ok) : Opens (Kd.slice e K) t (fun l : List α => ∀ (j : Nat) (x : α), l[j]? = some x → Ok x) := by
  intro H enc W base spare held fuel cs x h hw
  rcases open_slice ht h with ⟨rfl, rfl⟩ | ⟨a, len, cap, m, n, D, Pl, rfl, hb, hl, hm, hmm, rfl, hi⟩
  · exact ⟨[], ⟨none, 0, rfl, Nat.le_refl _, Kd.C_nil K W⟩, by simp⟩
  · have hlm : len ≤ m := by rw [hmm]; split <;> omega
    have key : ∀ i, i < len → ∃ p : α, Ok p ∧ ∃ c, c.length = K.sz ∧ K.K W p c ∧ ∀ j u, c[j]? = some u → W.cell? (a.add (i * K.sz + j)) = some u := by
      intro i hil
      obtain ⟨cs', hc, ht'⟩ := hi i (by omega)
      rw [hC] at hc
      obtain ⟨p, hp, hok⟩ := hK ht' (fun n hn => hw n (by
        simp only [DataW.weights, ht, List.mem_cons, List.mem_append]
        exact .inr (.inl (weights_all (List.mem_map.2 ⟨i, List.mem_range.2 hil, rfl⟩) hn))))
      obtain ⟨_, hcl, hat⟩ := World.cells?_some hc
      refine ⟨p, hok, cs', hcl, hp, fun j u hu => ?_⟩
      have := hat j (by rw [← hcl]; exact (List.getElem?_eq_some_iff.1 hu).1)
      rw [← Go.Deep.add_add, this, hu]
    rcases Nat.eq_zero_or_pos len with rfl | hpos
    · exact ⟨[], ⟨some a, cap, rfl, Nat.zero_le _, rfl, by simp, fun h => absurd h (by simp)⟩, by simp⟩
    obtain ⟨p0, _⟩ := key 0 hpos
    haveI : Inhabited α := ⟨p0⟩
    obtain ⟨f, hf⟩ := choose_lt key
    refine ⟨(List.range len).map f, ⟨some a, cap, by simp, by simpa using hl, by simp, by unfold maxLen at hm; simp; omega, fun _ => ⟨a, rfl, ?_⟩⟩, ?_⟩
    · intro j p hp
      rw [List.getElem?_map] at hp
      obtain ⟨i', hi', rfl⟩ := Option.map_eq_some_iff.1 hp
      obtain ⟨hlt, e'⟩ := List.getElem?_eq_some_iff.1 hi'
      simp at hlt e'
      subst e'
      exact (hf _ hlt).2
    · intro j p hp
      rw [List.getElem?_map] at hp
      obtain ⟨i', hi', rfl⟩ := Option.map_eq_some_iff.1 hp
      obtain ⟨hlt, e'⟩ := List.getElem?_eq_some_iff.1 hi'
      simp at hlt e'
      subst e'
      exact (hf _ hlt).1
theorem struct_fields {H : Type} {enc : TypeId × Value → H} {W : World} {base : Nat} {spare : Nat → Bool} {held : Bool} {fuel : Nat} {cs : List Value} {x : DataW H × List MemPlace} {t : TypeId} {fs : Array Field} (he : Tryd.prog.underlying t = some (.struct fs)) (hone : oneCellFields Tryd.prog fs = true) (hC : Tryd.prog.cellsOf t = fs.size)
    (h : DataW.trod enc Tryd.prog W base spare held fuel t cs = some x) (hw : ∀ n ∈ x.1.weights Tryd.prog t, n ≤ reachBytes) :
    cs.length = fs.size ∧ ∃ n, ∀ (j : Nat) (f : Field), fs[j]? = some f → ∃ (v : Value) (y : DataW H × List MemPlace), cs[j]? = some v ∧ DataW.trod enc Tryd.prog W base spare held n f.type [v] = some y ∧ ∀ n ∈ y.1.weights Tryd.prog f.type, n ≤ reachBytes := by
  obtain ⟨ys, n', _, rfl, hlen, hyl, hf⟩ := DataW.trod_struct he h
  rw [hC] at hlen
  refine ⟨hlen, n', fun j f hj => ?_⟩
  obtain ⟨ho, hk⟩ := hone_of hone j f hj
  have hjl : j < fs.size := (Array.getElem?_eq_some_iff.1 hj).1
  have h1 := hf j f hj
  rw [ho, hk] at h1
  have hone' : (cs.drop j).take 1 = [cs[j]'(by omega)] := by
    rw [List.drop_eq_getElem_cons (by omega)]
    rfl
  rw [hone'] at h1
  have hys : ys[j]? = some (ys[j]'(by omega)) := List.getElem?_eq_getElem (by omega)
  refine ⟨_, _, List.getElem?_eq_getElem (by omega), h1.trans hys, fun n hn => hw n ?_⟩
  simp only [DataW.weights, he]
  refine DataW.weights_mem_each (j := j) (t := f.type) ?_ ?_ n hn
  · rw [List.getElem?_map, Array.getElem?_toList, hj]
    rfl
  · rw [List.getElem?_map, hys]
    rfl
theorem wf_u8 {x : Int} (h : (Lit.int .u8 x).wf = true) : 0 ≤ x ∧ x ≤ 255 := by
  simp [Lit.wf, IntKind.min, IntKind.max, IntKind.bits, IntKind.signed] at h
  omega
theorem wf_u16 {x : Int} (h : (Lit.int .u16 x).wf = true) : 0 ≤ x ∧ x ≤ 65535 := by
  simp [Lit.wf, IntKind.min, IntKind.max, IntKind.bits, IntKind.signed] at h
  omega
theorem wf_u32 {x : Int} (h : (Lit.int .u32 x).wf = true) : 0 ≤ x ∧ x ≤ 4294967295 := by
  simp [Lit.wf, IntKind.min, IntKind.max, IntKind.bits, IntKind.signed] at h
  omega
end Go.Proofs.YtdpoookgmckclaaDoor.M
