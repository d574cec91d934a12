/- Joined texts: walks and plain laws. -/
import Derived.Test.YtbbeikdbioelgaaBMG2
import Derived.Test.YtbbeikdbioelgaaBMG1
import Derived.WalkSmall
import Derived.Maps.OwnSet
import Derived.Deep.RegionHeld3
import Derived.Deep.RegionLaw
import Derived.Deep.DrawnRows
import Derived.Deep.DeepMust
set_option linter.unusedVariables false
set_option linter.unusedSimpArgs false
namespace Go.Proofs.Ytbbeikdbioelgaa.M
open Go.RowKit Go.Maps Go.Proofs.YtbbeikdbioelgaaW.PrintWords Go.Proofs.YtbbeikdbioelgaaW.PrintLast Go.Proofs.YtbbeikdbioelgaaW.PrintMore
attribute [local go_sem] max2_int min2_int max_two min_two max_three min_three max_four min_four
attribute [local go_sem ↓] Go.wp_at_zero Go.wp_at_succ
structure Only (g : Nat) (w w' : World) : Prop where
  os : w'.os = w.os
  tape : w'.tape = w.tape
  output : w'.output = w.output
  size : w.heap.size ≤ w'.heap.size
  block : ∀ k, k < w.heap.size → k ≠ g → w'.heap[k]? = w.heap[k]?
section
variable {w w1 w2 : World} {g B : Nat}
theorem Only.refl (g : Nat) (w : World) : Only g w w := ⟨rfl, rfl, rfl, Nat.le_refl _, fun _ _ _ => rfl⟩
theorem Only.trans (h : Only g w w1) (h2 : Only g w1 w2) : Only g w w2 :=
  ⟨h2.os.trans h.os, h2.tape.trans h.tape, h2.output.trans h.output, Nat.le_trans h.size h2.size, fun k hk hg => (h2.block k (Nat.lt_of_lt_of_le hk h.size) hg).trans (h.block k hk hg)⟩
theorem Only.of_below (h : Below w.heap.size w w1) (g : Nat) : Only g w w1 := ⟨h.os, h.tape, h.output, h.size, fun k hk _ => h.block k hk⟩
theorem Only.drew (h : Only g w w1) : Only g w w1.drew := ⟨h.os, h.tape, h.output, h.size, h.block⟩
theorem Only.set (h : Only g w w1) (j : Nat) (v : Value) : Only g w (w1.setCell ⟨g, j, none⟩ v) :=
  ⟨h.os, h.tape, h.output, by simpa using h.size, fun k hk hg => (Below.heap_setCell w1 _ v k hg).trans (h.block k hk hg)⟩
theorem Only.below (h : Only g w w1) (hb : Below B w2 w) (hB : B ≤ w.heap.size) (hg : B ≤ g) : Below B w2 w1 :=
  ⟨h.os.trans hb.os, h.tape.trans hb.tape, h.output.trans hb.output, Nat.le_trans hb.size h.size, fun k hk => (h.block k (by omega) (by omega)).trans (hb.block k hk)⟩
theorem Only.at_ {k : Nat} {o : Obj} (h : Only g w w1) (hk : w.heap[k]? = some o) (hg : k ≠ g) : w1.heap[k]? = some o := by
  obtain ⟨hl, _⟩ := Array.getElem?_eq_some_iff.1 hk
  exact (h.block k hl hg).trans hk
end
theorem Only.grown {w w1 : World} {g : Nat} (h : Only g w w1) : w.grownBy w1 (some g) := ⟨h.os, h.tape, h.output, h.size, fun k hk hg => h.block k hk (fun e => hg (congrArg some e))⟩
theorem Only.of_grown {w w1 w2 : World} {g : Nat} {row : Option Nat} (h : Only g w w1) (hg : w1.grownBy w2 row) (hr : ∀ k, row = some k → w.heap.size ≤ k) : Only g w w2 :=
  ⟨hg.os.trans h.os, hg.tape.trans h.tape, hg.output.trans h.output, Nat.le_trans h.size hg.size, fun k hk hk2 => (hg.block k (Nat.lt_of_lt_of_le hk h.size) (fun e => by have := hr k e.symm; omega)).trans (h.block k hk hk2)⟩
def RAt (w : World) (g : Nat) (s : ByteArray) (a : Int) : Prop := w.heap[g]? = some (.cells #[.string s, .int .i64 a] 87 (0, 0))
theorem RAt.c0 {w : World} {g : Nat} {s : ByteArray} {a : Int} (h : RAt w g s a) : w.cell? ⟨g, 0, none⟩ = some (.string s) := (blk_cell h 0).trans rfl
theorem RAt.c1 {w : World} {g : Nat} {s : ByteArray} {a : Int} (h : RAt w g s a) : w.cell? ⟨g, 1, none⟩ = some (.int .i64 a) := (blk_cell h 1).trans rfl
theorem RAt.below {w w1 : World} {g : Nat} {s : ByteArray} {a : Int} (h : RAt w g s a) (hb : Below w.heap.size w w1) : RAt w1 g s a := blk_below h hb
theorem RAt.set {w : World} {g : Nat} {s : ByteArray} {a : Int} (h : RAt w g s a) (b : Int) : RAt (w.setCell ⟨g, 1, none⟩ (.int .i64 b)) g s b := by
  unfold RAt
  rw [blk_set h 1 _]
  rfl
theorem R_only {α : Type} {d : Kd α} {e base : Nat} {ok : Nat → Prop} {w w1 : World} {v : Value} {xs : List α} {g : Nat} {s : ByteArray} {a : Int} (h : d.R e w base ok v xs) (hr : RAt w g s a) (ht : ∀ q, q ∈ e :: d.E → q ≠ 87) (ho : Only g w w1) : d.R e w1 base ok v xs :=
  Kd.R_drop (Kd.R_grown (Kd.R_types h hr ht) ho.grown (fun k hk e => hk.2 (Option.some.inj e)))
theorem RAt.over {w w1 : World} {g base : Nat} {s : ByteArray} {a : Int} {ok : Nat → Prop} {v : Value} {xs : List Int} (h : RAt w g s a) (ho : B8 w base ok v xs) (hg : w.grownBy w1 v.ownBlock) : RAt w1 g s a := blk_grown h hg (Kd.R_ne ho h (by decide))
abbrev gaveUp (c : Int) : Ending := .panicked [{ v := .iface 30 (.int .i64 c), recovered := false }]
theorem get_part {s : ByteArray} {a n m : Int} (h : getF s a n = some m) : ∃ t, partF s a n = some t ∧ m = valF 0 (bytesOf t) ∧ 1 ≤ n ∧ n ≤ 8 := by
  unfold getF at h
  by_cases hc : n < 1 ∨ 8 < n
  · rw [if_pos hc] at h
    exact absurd h (by simp)
  · rw [if_neg hc] at h
    obtain ⟨t, h1, h2⟩ := Option.map_eq_some_iff.1 h
    exact ⟨t, h1, h2.symm, by omega, by omega⟩
theorem get_at {s : ByteArray} {a n m : Int} (h : getF s a n = some m) : 0 ≤ a ∧ 0 ≤ n ∧ a + n ≤ s.size := by
  obtain ⟨t, h1, _⟩ := get_part h
  obtain ⟨_, h2, h3, h4, _⟩ := part_size h1
  exact ⟨h3, h2, h4⟩
theorem part_at {s t : ByteArray} {a n : Int} (h : partF s a n = some t) : 0 ≤ a ∧ 0 ≤ n ∧ a + n ≤ s.size := by
  obtain ⟨_, h2, h3, h4, _⟩ := part_size h
  exact ⟨h3, h2, h4⟩
set_option maxHeartbeats 2000000 in
set_option maxRecDepth 100000 in
theorem num_no {w : World} {g : Nat} {s : ByteArray} {a n : Int} (h : RAt w g s a) (hs : s.size ≤ 1000000) (hp : getF s a n = none) :
    Calls Try.prog 66 #[.pointer (some ⟨g, 0, none⟩), .int .i64 n] w fun e w' => e = gaveUp 2 ∧ Only g w w' := by
  have HP := Lib.hid hp
  clear hp
  obtain ⟨HR, HO⟩ : Aside0 (RAt w g s a) ∧ Aside0 (Only g w w) := ⟨⟨h⟩, ⟨Only.refl g w⟩⟩
  have z0 := h.c0
  have z1 := h.c1
  clear h
  go_enter Try.func66, Try.ntmps66
  go_wp2_with fail
  refine start_ (n := 15) (S := fun w' => w'.cell? ⟨g, 0, none⟩ = some (.string s) ∧ w'.cell? ⟨g, 1, none⟩ = some (.int .i64 a)) (ds := []) (Array.replicate 15 false) (by kernel_rfl) (by kernel_rfl) rfl ⟨z0, z1⟩ (fun hS => ?_)
  refine dpure 0 (some 8) rfl rfl (by kernel_rfl) (fun _ _ _ h => h) (by rfl) (v := ?_) (a' := ?_) ?_ ?_ ?_
  rotate_left 2
  · intro w'; go_simp; with_reducible rfl
  · simp only [Act.put, List.setIfInBounds_toArray, List.set_cons_zero, List.set_cons_succ]; rfl
  refine dpure 1 (some 9) rfl rfl (by kernel_rfl) (fun _ _ _ h => h) (by rfl) (v := ?_) (a' := ?_) ?_ ?_ ?_
  rotate_left 2
  · intro w'; go_simp; with_reducible rfl
  · simp only [Act.put, List.setIfInBounds_toArray, List.set_cons_zero, List.set_cons_succ]; rfl
  refine dpure 2 (some 10) rfl rfl (by kernel_rfl) (fun _ _ _ h => h) (by rfl) (v := ?_) (a' := ?_) ?_ ?_ ?_
  rotate_left 2
  · intro w'; go_simp; with_reducible rfl
  · simp only [Act.put, List.setIfInBounds_toArray, List.set_cons_zero, List.set_cons_succ]; rfl
  refine dtake 3 (some 11) rfl rfl (by kernel_rfl) (fun _ _ _ h => h) (by rfl) hS (v := ?_) (a' := ?_) ?_ ?_ ?_
  rotate_left 2
  · rintro w' ⟨s0,s1⟩; go_simp; with_reducible rfl
  · simp only [Act.put, List.setIfInBounds_toArray, List.set_cons_zero, List.set_cons_succ]; rfl
  refine dpure 4 (some 12) rfl rfl (by kernel_rfl) (fun _ _ _ h => h) (by rfl) (v := ?_) (a' := ?_) ?_ ?_ ?_
  rotate_left 2
  · intro w'; go_simp; with_reducible rfl
  · simp only [Act.put, List.setIfInBounds_toArray, List.set_cons_zero, List.set_cons_succ]; rfl
  refine dpure 5 (some 13) rfl rfl (by kernel_rfl) (fun _ _ _ h => h) (by rfl) (v := ?_) (a' := ?_) ?_ ?_ ?_
  rotate_left 2
  · intro w'; go_simp; with_reducible rfl
  · simp only [Act.put, List.setIfInBounds_toArray, List.set_cons_zero, List.set_cons_succ]; rfl
  refine dpure 6 (some 14) rfl rfl (by kernel_rfl) (fun _ _ _ h => h) (by rfl) (v := ?_) (a' := ?_) ?_ ?_ ?_
  rotate_left 2
  · intro w'; go_simp; with_reducible rfl
  · simp only [Act.put, List.setIfInBounds_toArray, List.set_cons_zero, List.set_cons_succ]; rfl
  refine dtake 7 (some 15) rfl rfl (by kernel_rfl) (fun _ _ _ h => h) (by rfl) hS (v := ?_) (a' := ?_) ?_ ?_ ?_
  rotate_left 2
  · rintro w' ⟨s0,s1⟩; go_simp; with_reducible rfl
  · simp only [Act.put, List.setIfInBounds_toArray, List.set_cons_zero, List.set_cons_succ]; rfl
  refine dpure 8 (some 16) rfl rfl (by kernel_rfl) (fun _ _ _ h => h) (by rfl) (v := ?_) (a' := ?_) ?_ ?_ ?_
  rotate_left 2
  · intro w'; go_simp; with_reducible rfl
  · simp only [Act.put, List.setIfInBounds_toArray, List.set_cons_zero, List.set_cons_succ]; rfl
  refine done1 9 (some 17) rfl rfl (by kernel_rfl) (by decide) (fun K hK => ?_)
  refine goes_ Try.func78 (by kernel_rfl) rfl #[.string s, .int .i64 a, .int .i64 n] (by rfl) rfl rfl (by kernel_rfl) ?_
  refine (get_no HP.out _ (by omega)).mono ?_
  rintro e w2 ⟨rfl, hb⟩
  refine ⟨_, rfl, ?_⟩
  have HR2 := RAt.below (w := w.drew) HR.out hb
  have HO2 := Aside0.mk (HO.out.drew.trans (Only.of_below hb g))
  clear z0 z1 hb
  refine hK.out _ _ ⟨HR2.c0, HR2.c1⟩ (fun hS => ?_)
  clear hK K
  refine norm_ (a' := ?_) ?_ ?_
  rotate_left
  · simp only [Act.put, List.setIfInBounds_toArray, List.set_cons_zero, List.set_cons_succ]; rfl
  refine dpure 10 (some 7) rfl rfl (by kernel_rfl) (fun _ _ _ h => h) (by rfl) (v := ?_) (a' := ?_) ?_ ?_ ?_
  rotate_left 2
  · intro w'; go_simp; with_reducible rfl
  · simp only [Act.put, List.setIfInBounds_toArray, List.set_cons_zero, List.set_cons_succ]; rfl
  refine dpure 11 (some 18) rfl rfl (by kernel_rfl) (fun _ _ _ h => h) (by rfl) (v := ?_) (a' := ?_) ?_ ?_ ?_
  rotate_left 2
  · intro w'; go_simp; with_reducible rfl
  · simp only [Act.put, List.setIfInBounds_toArray, List.set_cons_zero, List.set_cons_succ]; rfl
  refine dpure 12 (some 19) rfl rfl (by kernel_rfl) (fun _ _ _ h => h) (by rfl) (v := ?_) (a' := ?_) ?_ ?_ ?_
  rotate_left 2
  · intro w'; go_simp; with_reducible rfl
  · simp only [Act.put, List.setIfInBounds_toArray, List.set_cons_zero, List.set_cons_succ]; rfl
  refine dpure 13 (some 5) rfl rfl (by kernel_rfl) (fun _ _ _ h => h) (by rfl) (v := ?_) (a' := ?_) ?_ ?_ ?_
  rotate_left 2
  · intro w'; go_simp; with_reducible rfl
  · simp only [Act.put, List.setIfInBounds_toArray, List.set_cons_zero, List.set_cons_succ]; rfl
  refine dpure 14 (some 6) rfl rfl (by kernel_rfl) (fun _ _ _ h => h) (by rfl) (v := ?_) (a' := ?_) ?_ ?_ ?_
  rotate_left 2
  · intro w'; go_simp; with_reducible rfl
  · simp only [Act.put, List.setIfInBounds_toArray, List.set_cons_zero, List.set_cons_succ]; rfl
  refine done_ (by kernel_rfl) ?_
  have z0 := HR2.c0
  have z1 := HR2.c1
  go_wp2_with fail
  exact ⟨rfl, rfl, HO2.out⟩
set_option maxHeartbeats 2000000 in
set_option maxRecDepth 100000 in
theorem num_yes {w : World} {g : Nat} {s : ByteArray} {a n : Int} {t : Int} (h : RAt w g s a) (hs : s.size ≤ 1000000) (hp : getF s a n = some t) :
    Calls Try.prog 66 #[.pointer (some ⟨g, 0, none⟩), .int .i64 n] w fun e w' => e = .returned (.int .u64 t) ∧ RAt w' g s (a + n) ∧ Only g w w' := by
  have HP := Lib.hid hp
  obtain ⟨a0, n0, an⟩ := get_at hp
  have q1 : a + n ≤ 1000000 := by omega
  have q2 : 0 ≤ a + n := by omega
  clear hp
  obtain ⟨HR, HO⟩ : Aside0 (RAt w g s a) ∧ Aside0 (Only g w w) := ⟨⟨h⟩, ⟨Only.refl g w⟩⟩
  have z0 := h.c0
  have z1 := h.c1
  clear h
  go_enter Try.func66, Try.ntmps66
  go_wp2_with fail
  refine start_ (n := 15) (S := fun w' => w'.cell? ⟨g, 0, none⟩ = some (.string s) ∧ w'.cell? ⟨g, 1, none⟩ = some (.int .i64 a)) (ds := []) (Array.replicate 15 false) (by kernel_rfl) (by kernel_rfl) rfl ⟨z0, z1⟩ (fun hS => ?_)
  refine dpure 0 (some 8) rfl rfl (by kernel_rfl) (fun _ _ _ h => h) (by rfl) (v := ?_) (a' := ?_) ?_ ?_ ?_
  rotate_left 2
  · intro w'; go_simp; with_reducible rfl
  · simp only [Act.put, List.setIfInBounds_toArray, List.set_cons_zero, List.set_cons_succ]; rfl
  refine dpure 1 (some 9) rfl rfl (by kernel_rfl) (fun _ _ _ h => h) (by rfl) (v := ?_) (a' := ?_) ?_ ?_ ?_
  rotate_left 2
  · intro w'; go_simp; with_reducible rfl
  · simp only [Act.put, List.setIfInBounds_toArray, List.set_cons_zero, List.set_cons_succ]; rfl
  refine dpure 2 (some 10) rfl rfl (by kernel_rfl) (fun _ _ _ h => h) (by rfl) (v := ?_) (a' := ?_) ?_ ?_ ?_
  rotate_left 2
  · intro w'; go_simp; with_reducible rfl
  · simp only [Act.put, List.setIfInBounds_toArray, List.set_cons_zero, List.set_cons_succ]; rfl
  refine dtake 3 (some 11) rfl rfl (by kernel_rfl) (fun _ _ _ h => h) (by rfl) hS (v := ?_) (a' := ?_) ?_ ?_ ?_
  rotate_left 2
  · rintro w' ⟨s0,s1⟩; go_simp; with_reducible rfl
  · simp only [Act.put, List.setIfInBounds_toArray, List.set_cons_zero, List.set_cons_succ]; rfl
  refine dpure 4 (some 12) rfl rfl (by kernel_rfl) (fun _ _ _ h => h) (by rfl) (v := ?_) (a' := ?_) ?_ ?_ ?_
  rotate_left 2
  · intro w'; go_simp; with_reducible rfl
  · simp only [Act.put, List.setIfInBounds_toArray, List.set_cons_zero, List.set_cons_succ]; rfl
  refine dpure 5 (some 13) rfl rfl (by kernel_rfl) (fun _ _ _ h => h) (by rfl) (v := ?_) (a' := ?_) ?_ ?_ ?_
  rotate_left 2
  · intro w'; go_simp; with_reducible rfl
  · simp only [Act.put, List.setIfInBounds_toArray, List.set_cons_zero, List.set_cons_succ]; rfl
  refine dpure 6 (some 14) rfl rfl (by kernel_rfl) (fun _ _ _ h => h) (by rfl) (v := ?_) (a' := ?_) ?_ ?_ ?_
  rotate_left 2
  · intro w'; go_simp; with_reducible rfl
  · simp only [Act.put, List.setIfInBounds_toArray, List.set_cons_zero, List.set_cons_succ]; rfl
  refine dtake 7 (some 15) rfl rfl (by kernel_rfl) (fun _ _ _ h => h) (by rfl) hS (v := ?_) (a' := ?_) ?_ ?_ ?_
  rotate_left 2
  · rintro w' ⟨s0,s1⟩; go_simp; with_reducible rfl
  · simp only [Act.put, List.setIfInBounds_toArray, List.set_cons_zero, List.set_cons_succ]; rfl
  refine dpure 8 (some 16) rfl rfl (by kernel_rfl) (fun _ _ _ h => h) (by rfl) (v := ?_) (a' := ?_) ?_ ?_ ?_
  rotate_left 2
  · intro w'; go_simp; with_reducible rfl
  · simp only [Act.put, List.setIfInBounds_toArray, List.set_cons_zero, List.set_cons_succ]; rfl
  refine done1 9 (some 17) rfl rfl (by kernel_rfl) (by decide) (fun K hK => ?_)
  refine goes_ Try.func78 (by kernel_rfl) rfl #[.string s, .int .i64 a, .int .i64 n] (by rfl) rfl rfl (by kernel_rfl) ?_
  refine (get_yes HP.out _ (by omega)).mono ?_
  rintro e w2 ⟨rfl, hb⟩
  refine ⟨_, rfl, ?_⟩
  have HR2 := RAt.below (w := w.drew) HR.out hb
  have HO2 := Aside0.mk (HO.out.drew.trans (Only.of_below hb g))
  clear z0 z1 hb
  refine hK.out _ _ ⟨HR2.c0, HR2.c1⟩ (fun hS => ?_)
  clear hK K
  refine norm_ (a' := ?_) ?_ ?_
  rotate_left
  · simp only [Act.put, List.setIfInBounds_toArray, List.set_cons_zero, List.set_cons_succ]; rfl
  refine dpure 10 (some 7) rfl rfl (by kernel_rfl) (fun _ _ _ h => h) (by rfl) (v := ?_) (a' := ?_) ?_ ?_ ?_
  rotate_left 2
  · intro w'; go_simp; with_reducible rfl
  · simp only [Act.put, List.setIfInBounds_toArray, List.set_cons_zero, List.set_cons_succ]; rfl
  refine dpure 11 (some 18) rfl rfl (by kernel_rfl) (fun _ _ _ h => h) (by rfl) (v := ?_) (a' := ?_) ?_ ?_ ?_
  rotate_left 2
  · intro w'; go_simp; with_reducible rfl
  · simp only [Act.put, List.setIfInBounds_toArray, List.set_cons_zero, List.set_cons_succ]; rfl
  refine dpure 12 (some 19) rfl rfl (by kernel_rfl) (fun _ _ _ h => h) (by rfl) (v := ?_) (a' := ?_) ?_ ?_ ?_
  rotate_left 2
  · intro w'; go_simp; with_reducible rfl
  · simp only [Act.put, List.setIfInBounds_toArray, List.set_cons_zero, List.set_cons_succ]; rfl
  refine dpure 13 (some 5) rfl rfl (by kernel_rfl) (fun _ _ _ h => h) (by rfl) (v := ?_) (a' := ?_) ?_ ?_ ?_
  rotate_left 2
  · intro w'; go_simp; with_reducible rfl
  · simp only [Act.put, List.setIfInBounds_toArray, List.set_cons_zero, List.set_cons_succ]; rfl
  refine dpure 14 (some 6) rfl rfl (by kernel_rfl) (fun _ _ _ h => h) (by rfl) (v := ?_) (a' := ?_) ?_ ?_ ?_
  rotate_left 2
  · intro w'; go_simp; with_reducible rfl
  · simp only [Act.put, List.setIfInBounds_toArray, List.set_cons_zero, List.set_cons_succ]; rfl
  refine done_ (by kernel_rfl) ?_
  have z0 := HR2.c0
  have z1 := HR2.c1
  have f1 : w2.frozen? ⟨g, 1, none⟩ = false := blk_frozen HR2 1
  go_wp2_with fail
  go_ret
  exact ⟨rfl, HR2.set _, HO2.out.set 1 _⟩
set_option maxHeartbeats 2000000 in
set_option maxRecDepth 100000 in
theorem text_no {w : World} {g : Nat} {s : ByteArray} {a n : Int} (h : RAt w g s a) (hs : s.size ≤ 1000000) (hp : partF s a n = none) :
    Calls Try.prog 67 #[.pointer (some ⟨g, 0, none⟩), .int .i64 n] w fun e w' => e = gaveUp 2 ∧ Only g w w' := by
  have HP := Lib.hid hp
  clear hp
  obtain ⟨HR, HO⟩ : Aside0 (RAt w g s a) ∧ Aside0 (Only g w w) := ⟨⟨h⟩, ⟨Only.refl g w⟩⟩
  have z0 := h.c0
  have z1 := h.c1
  clear h
  go_enter Try.func67, Try.ntmps67
  go_wp2_with fail
  refine start_ (n := 15) (S := fun w' => w'.cell? ⟨g, 0, none⟩ = some (.string s) ∧ w'.cell? ⟨g, 1, none⟩ = some (.int .i64 a)) (ds := []) (Array.replicate 15 false) (by kernel_rfl) (by kernel_rfl) rfl ⟨z0, z1⟩ (fun hS => ?_)
  refine dpure 0 (some 8) rfl rfl (by kernel_rfl) (fun _ _ _ h => h) (by rfl) (v := ?_) (a' := ?_) ?_ ?_ ?_
  rotate_left 2
  · intro w'; go_simp; with_reducible rfl
  · simp only [Act.put, List.setIfInBounds_toArray, List.set_cons_zero, List.set_cons_succ]; rfl
  refine dpure 1 (some 9) rfl rfl (by kernel_rfl) (fun _ _ _ h => h) (by rfl) (v := ?_) (a' := ?_) ?_ ?_ ?_
  rotate_left 2
  · intro w'; go_simp; with_reducible rfl
  · simp only [Act.put, List.setIfInBounds_toArray, List.set_cons_zero, List.set_cons_succ]; rfl
  refine dpure 2 (some 10) rfl rfl (by kernel_rfl) (fun _ _ _ h => h) (by rfl) (v := ?_) (a' := ?_) ?_ ?_ ?_
  rotate_left 2
  · intro w'; go_simp; with_reducible rfl
  · simp only [Act.put, List.setIfInBounds_toArray, List.set_cons_zero, List.set_cons_succ]; rfl
  refine dtake 3 (some 11) rfl rfl (by kernel_rfl) (fun _ _ _ h => h) (by rfl) hS (v := ?_) (a' := ?_) ?_ ?_ ?_
  rotate_left 2
  · rintro w' ⟨s0,s1⟩; go_simp; with_reducible rfl
  · simp only [Act.put, List.setIfInBounds_toArray, List.set_cons_zero, List.set_cons_succ]; rfl
  refine dpure 4 (some 12) rfl rfl (by kernel_rfl) (fun _ _ _ h => h) (by rfl) (v := ?_) (a' := ?_) ?_ ?_ ?_
  rotate_left 2
  · intro w'; go_simp; with_reducible rfl
  · simp only [Act.put, List.setIfInBounds_toArray, List.set_cons_zero, List.set_cons_succ]; rfl
  refine dpure 5 (some 13) rfl rfl (by kernel_rfl) (fun _ _ _ h => h) (by rfl) (v := ?_) (a' := ?_) ?_ ?_ ?_
  rotate_left 2
  · intro w'; go_simp; with_reducible rfl
  · simp only [Act.put, List.setIfInBounds_toArray, List.set_cons_zero, List.set_cons_succ]; rfl
  refine dpure 6 (some 14) rfl rfl (by kernel_rfl) (fun _ _ _ h => h) (by rfl) (v := ?_) (a' := ?_) ?_ ?_ ?_
  rotate_left 2
  · intro w'; go_simp; with_reducible rfl
  · simp only [Act.put, List.setIfInBounds_toArray, List.set_cons_zero, List.set_cons_succ]; rfl
  refine dtake 7 (some 15) rfl rfl (by kernel_rfl) (fun _ _ _ h => h) (by rfl) hS (v := ?_) (a' := ?_) ?_ ?_ ?_
  rotate_left 2
  · rintro w' ⟨s0,s1⟩; go_simp; with_reducible rfl
  · simp only [Act.put, List.setIfInBounds_toArray, List.set_cons_zero, List.set_cons_succ]; rfl
  refine dpure 8 (some 16) rfl rfl (by kernel_rfl) (fun _ _ _ h => h) (by rfl) (v := ?_) (a' := ?_) ?_ ?_ ?_
  rotate_left 2
  · intro w'; go_simp; with_reducible rfl
  · simp only [Act.put, List.setIfInBounds_toArray, List.set_cons_zero, List.set_cons_succ]; rfl
  refine done1 9 (some 17) rfl rfl (by kernel_rfl) (by decide) (fun K hK => ?_)
  refine goes_ Try.func79 (by kernel_rfl) rfl #[.string s, .int .i64 a, .int .i64 n] (by rfl) rfl rfl (by kernel_rfl) ?_
  refine (part_no HP.out _ (by omega)).mono ?_
  rintro e w2 ⟨rfl, hb⟩
  refine ⟨_, rfl, ?_⟩
  have HR2 := RAt.below (w := w.drew) HR.out hb
  have HO2 := Aside0.mk (HO.out.drew.trans (Only.of_below hb g))
  clear z0 z1 hb
  refine hK.out _ _ ⟨HR2.c0, HR2.c1⟩ (fun hS => ?_)
  clear hK K
  refine norm_ (a' := ?_) ?_ ?_
  rotate_left
  · simp only [Act.put, List.setIfInBounds_toArray, List.set_cons_zero, List.set_cons_succ]; rfl
  refine dpure 10 (some 7) rfl rfl (by kernel_rfl) (fun _ _ _ h => h) (by rfl) (v := ?_) (a' := ?_) ?_ ?_ ?_
  rotate_left 2
  · intro w'; go_simp; with_reducible rfl
  · simp only [Act.put, List.setIfInBounds_toArray, List.set_cons_zero, List.set_cons_succ]; rfl
  refine dpure 11 (some 18) rfl rfl (by kernel_rfl) (fun _ _ _ h => h) (by rfl) (v := ?_) (a' := ?_) ?_ ?_ ?_
  rotate_left 2
  · intro w'; go_simp; with_reducible rfl
  · simp only [Act.put, List.setIfInBounds_toArray, List.set_cons_zero, List.set_cons_succ]; rfl
  refine dpure 12 (some 19) rfl rfl (by kernel_rfl) (fun _ _ _ h => h) (by rfl) (v := ?_) (a' := ?_) ?_ ?_ ?_
  rotate_left 2
  · intro w'; go_simp; with_reducible rfl
  · simp only [Act.put, List.setIfInBounds_toArray, List.set_cons_zero, List.set_cons_succ]; rfl
  refine dpure 13 (some 5) rfl rfl (by kernel_rfl) (fun _ _ _ h => h) (by rfl) (v := ?_) (a' := ?_) ?_ ?_ ?_
  rotate_left 2
  · intro w'; go_simp; with_reducible rfl
  · simp only [Act.put, List.setIfInBounds_toArray, List.set_cons_zero, List.set_cons_succ]; rfl
  refine dpure 14 (some 6) rfl rfl (by kernel_rfl) (fun _ _ _ h => h) (by rfl) (v := ?_) (a' := ?_) ?_ ?_ ?_
  rotate_left 2
  · intro w'; go_simp; with_reducible rfl
  · simp only [Act.put, List.setIfInBounds_toArray, List.set_cons_zero, List.set_cons_succ]; rfl
  refine done_ (by kernel_rfl) ?_
  have z0 := HR2.c0
  have z1 := HR2.c1
  go_wp2_with fail
  exact ⟨rfl, rfl, HO2.out⟩
set_option maxHeartbeats 2000000 in
set_option maxRecDepth 100000 in
theorem text_yes {w : World} {g : Nat} {s : ByteArray} {a n : Int} {t : ByteArray} (h : RAt w g s a) (hs : s.size ≤ 1000000) (hp : partF s a n = some t) :
    Calls Try.prog 67 #[.pointer (some ⟨g, 0, none⟩), .int .i64 n] w fun e w' => e = .returned (.string t) ∧ RAt w' g s (a + n) ∧ Only g w w' := by
  have HP := Lib.hid hp
  obtain ⟨a0, n0, an⟩ := part_at hp
  have q1 : a + n ≤ 1000000 := by omega
  have q2 : 0 ≤ a + n := by omega
  clear hp
  obtain ⟨HR, HO⟩ : Aside0 (RAt w g s a) ∧ Aside0 (Only g w w) := ⟨⟨h⟩, ⟨Only.refl g w⟩⟩
  have z0 := h.c0
  have z1 := h.c1
  clear h
  go_enter Try.func67, Try.ntmps67
  go_wp2_with fail
  refine start_ (n := 15) (S := fun w' => w'.cell? ⟨g, 0, none⟩ = some (.string s) ∧ w'.cell? ⟨g, 1, none⟩ = some (.int .i64 a)) (ds := []) (Array.replicate 15 false) (by kernel_rfl) (by kernel_rfl) rfl ⟨z0, z1⟩ (fun hS => ?_)
  refine dpure 0 (some 8) rfl rfl (by kernel_rfl) (fun _ _ _ h => h) (by rfl) (v := ?_) (a' := ?_) ?_ ?_ ?_
  rotate_left 2
  · intro w'; go_simp; with_reducible rfl
  · simp only [Act.put, List.setIfInBounds_toArray, List.set_cons_zero, List.set_cons_succ]; rfl
  refine dpure 1 (some 9) rfl rfl (by kernel_rfl) (fun _ _ _ h => h) (by rfl) (v := ?_) (a' := ?_) ?_ ?_ ?_
  rotate_left 2
  · intro w'; go_simp; with_reducible rfl
  · simp only [Act.put, List.setIfInBounds_toArray, List.set_cons_zero, List.set_cons_succ]; rfl
  refine dpure 2 (some 10) rfl rfl (by kernel_rfl) (fun _ _ _ h => h) (by rfl) (v := ?_) (a' := ?_) ?_ ?_ ?_
  rotate_left 2
  · intro w'; go_simp; with_reducible rfl
  · simp only [Act.put, List.setIfInBounds_toArray, List.set_cons_zero, List.set_cons_succ]; rfl
  refine dtake 3 (some 11) rfl rfl (by kernel_rfl) (fun _ _ _ h => h) (by rfl) hS (v := ?_) (a' := ?_) ?_ ?_ ?_
  rotate_left 2
  · rintro w' ⟨s0,s1⟩; go_simp; with_reducible rfl
  · simp only [Act.put, List.setIfInBounds_toArray, List.set_cons_zero, List.set_cons_succ]; rfl
  refine dpure 4 (some 12) rfl rfl (by kernel_rfl) (fun _ _ _ h => h) (by rfl) (v := ?_) (a' := ?_) ?_ ?_ ?_
  rotate_left 2
  · intro w'; go_simp; with_reducible rfl
  · simp only [Act.put, List.setIfInBounds_toArray, List.set_cons_zero, List.set_cons_succ]; rfl
  refine dpure 5 (some 13) rfl rfl (by kernel_rfl) (fun _ _ _ h => h) (by rfl) (v := ?_) (a' := ?_) ?_ ?_ ?_
  rotate_left 2
  · intro w'; go_simp; with_reducible rfl
  · simp only [Act.put, List.setIfInBounds_toArray, List.set_cons_zero, List.set_cons_succ]; rfl
  refine dpure 6 (some 14) rfl rfl (by kernel_rfl) (fun _ _ _ h => h) (by rfl) (v := ?_) (a' := ?_) ?_ ?_ ?_
  rotate_left 2
  · intro w'; go_simp; with_reducible rfl
  · simp only [Act.put, List.setIfInBounds_toArray, List.set_cons_zero, List.set_cons_succ]; rfl
  refine dtake 7 (some 15) rfl rfl (by kernel_rfl) (fun _ _ _ h => h) (by rfl) hS (v := ?_) (a' := ?_) ?_ ?_ ?_
  rotate_left 2
  · rintro w' ⟨s0,s1⟩; go_simp; with_reducible rfl
  · simp only [Act.put, List.setIfInBounds_toArray, List.set_cons_zero, List.set_cons_succ]; rfl
  refine dpure 8 (some 16) rfl rfl (by kernel_rfl) (fun _ _ _ h => h) (by rfl) (v := ?_) (a' := ?_) ?_ ?_ ?_
  rotate_left 2
  · intro w'; go_simp; with_reducible rfl
  · simp only [Act.put, List.setIfInBounds_toArray, List.set_cons_zero, List.set_cons_succ]; rfl
  refine done1 9 (some 17) rfl rfl (by kernel_rfl) (by decide) (fun K hK => ?_)
  refine goes_ Try.func79 (by kernel_rfl) rfl #[.string s, .int .i64 a, .int .i64 n] (by rfl) rfl rfl (by kernel_rfl) ?_
  refine (part_yes HP.out _ (by omega)).mono ?_
  rintro e w2 ⟨rfl, hb⟩
  refine ⟨_, rfl, ?_⟩
  have HR2 := RAt.below (w := w.drew) HR.out hb
  have HO2 := Aside0.mk (HO.out.drew.trans (Only.of_below hb g))
  clear z0 z1 hb
  refine hK.out _ _ ⟨HR2.c0, HR2.c1⟩ (fun hS => ?_)
  clear hK K
  refine norm_ (a' := ?_) ?_ ?_
  rotate_left
  · simp only [Act.put, List.setIfInBounds_toArray, List.set_cons_zero, List.set_cons_succ]; rfl
  refine dpure 10 (some 7) rfl rfl (by kernel_rfl) (fun _ _ _ h => h) (by rfl) (v := ?_) (a' := ?_) ?_ ?_ ?_
  rotate_left 2
  · intro w'; go_simp; with_reducible rfl
  · simp only [Act.put, List.setIfInBounds_toArray, List.set_cons_zero, List.set_cons_succ]; rfl
  refine dpure 11 (some 18) rfl rfl (by kernel_rfl) (fun _ _ _ h => h) (by rfl) (v := ?_) (a' := ?_) ?_ ?_ ?_
  rotate_left 2
  · intro w'; go_simp; with_reducible rfl
  · simp only [Act.put, List.setIfInBounds_toArray, List.set_cons_zero, List.set_cons_succ]; rfl
  refine dpure 12 (some 19) rfl rfl (by kernel_rfl) (fun _ _ _ h => h) (by rfl) (v := ?_) (a' := ?_) ?_ ?_ ?_
  rotate_left 2
  · intro w'; go_simp; with_reducible rfl
  · simp only [Act.put, List.setIfInBounds_toArray, List.set_cons_zero, List.set_cons_succ]; rfl
  refine dpure 13 (some 5) rfl rfl (by kernel_rfl) (fun _ _ _ h => h) (by rfl) (v := ?_) (a' := ?_) ?_ ?_ ?_
  rotate_left 2
  · intro w'; go_simp; with_reducible rfl
  · simp only [Act.put, List.setIfInBounds_toArray, List.set_cons_zero, List.set_cons_succ]; rfl
  refine dpure 14 (some 6) rfl rfl (by kernel_rfl) (fun _ _ _ h => h) (by rfl) (v := ?_) (a' := ?_) ?_ ?_ ?_
  rotate_left 2
  · intro w'; go_simp; with_reducible rfl
  · simp only [Act.put, List.setIfInBounds_toArray, List.set_cons_zero, List.set_cons_succ]; rfl
  refine done_ (by kernel_rfl) ?_
  have z0 := HR2.c0
  have z1 := HR2.c1
  have f1 : w2.frozen? ⟨g, 1, none⟩ = false := blk_frozen HR2 1
  go_wp2_with fail
  go_ret
  exact ⟨rfl, HR2.set _, HO2.out.set 1 _⟩
end Go.Proofs.Ytbbeikdbioelgaa.M
set_option linter.unusedVariables false
set_option linter.unusedSimpArgs false
namespace Go.Proofs.Ytbbeikdbioelgaa.M
open Go.RowKit Go.Maps Go.Proofs.YtbbeikdbioelgaaW.PrintWords Go.Proofs.YtbbeikdbioelgaaW.PrintLast Go.Proofs.YtbbeikdbioelgaaW.PrintMore
attribute [local go_sem] max2_int min2_int max_two min_two max_three min_three max_four min_four
attribute [local go_sem ↓] Go.wp_at_zero Go.wp_at_succ
def nameR : Nat → ByteArray → List Int → Int → Int → Int → Except Int (List Int × Int)
  | 0, _, _, _, _, _ => .error 2
  | k + 1, s, b, part, nx, a =>
    match getF s a 1 with
    | none => .error 2
    | some n =>
      if n = 0 then .ok (b ++ [0], if 0 ≤ nx then nx else a + 1)
      else if 191 < n then
        match getF s (a + 1) 1 with
        | none => .error 2
        | some m => if part ≤ n % 64 * 256 + m then .error 42 else nameR k s b (n % 64 * 256 + m) (if nx < 0 then a + 2 else nx) (n % 64 * 256 + m)
      else if 63 < n then .error 41
      else
        match partF s (a + 1) n with
        | none => .error 2
        | some l => if 255 < b.length + n + 2 then .error 40 else nameR k s (b ++ [n] ++ bytesOf l) part nx (a + 1 + n)
def nameAt (s : ByteArray) (a : Int) : Except Int (List Int × Int) := nameR (a.toNat * 256 + 257) s [] a (-1) a
structure TextEnds (R : Except Int (List Int × Int)) (w : World) (g : Nat) (s : ByteArray) (e : Ending) (w' : World) : Prop where
  bad : ∀ c, R = .error c → e = gaveUp c
  good : ∀ b a, R = .ok (b, a) → e = .returned (.string (strOfNums b)) ∧ RAt w' g s a
  only : Only g w w'
theorem TextEnds.err {R : Except Int (List Int × Int)} {w w' : World} {g : Nat} {s : ByteArray} {c : Int} (h : R = .error c) (ho : Only g w w') : TextEnds R w g s (gaveUp c) w' :=
  ⟨fun d hd => by rw [h] at hd; rw [Except.error.inj hd], fun b a hb => by rw [h] at hb; exact absurd hb (by simp), ho⟩
theorem TextEnds.ok {R : Except Int (List Int × Int)} {w w' : World} {g : Nat} {s : ByteArray} {b : List Int} {a : Int} (h : R = .ok (b, a)) (hr : RAt w' g s a) (ho : Only g w w') : TextEnds R w g s (.returned (.string (strOfNums b))) w' :=
  ⟨fun d hd => by rw [h] at hd; exact absurd hd (by simp), fun b' a' hb => by rw [h] at hb; obtain ⟨rfl, rfl⟩ := Prod.mk.inj (Except.ok.inj hb); exact ⟨rfl, hr⟩, ho⟩
theorem get1 {s : ByteArray} {a n : Int} (h : getF s a 1 = some n) : 0 ≤ n ∧ n ≤ 255 ∧ 0 ≤ a ∧ a + 1 ≤ s.size := by
  obtain ⟨t, h1, rfl, _⟩ := get_part h
  obtain ⟨h2, _, h3, h4, _⟩ := part_size h1
  have hl := bytesOf_length t
  match hb : bytesOf t, hl with
  | [x], _ =>
    have hm : x ∈ bytesOf t := by rw [hb]; simp
    unfold bytesOf at hm
    obtain ⟨b, _, rfl⟩ := List.mem_map.1 hm
    have := b.toNat_lt
    simp only [valF]
    omega
  | [], hl => simp at hl; omega
  | _ :: _ :: _, hl => simp at hl; omega
theorem and63 (n : Int) (h0 : 0 ≤ n) (h1 : n ≤ 255) : bits .and .i64 n 63 = n % 64 :=
  bits_mask .i64 60 (by decide) (by intro n h0 h1; rw [IntKind.wrap_i64]; omega) 6 (by decide) n h0 (by omega)
theorem or_low (x y : Int) (h0 : 0 ≤ x) (h1 : x < 64) (y0 : 0 ≤ y) (y1 : y ≤ 255) : bits .or .i64 (x * 256) y = x * 256 + y :=
  bits_join .i64 60 (by decide) (by intro n h0 h1; rw [IntKind.wrap_i64]; omega) 8 (x * 256) y (by omega) (by omega) (by omega) (by omega) (by omega) (by omega)
set_option maxHeartbeats 4000000 in
set_option maxRecDepth 100000 in
theorem name_calls' {w : World} {g : Nat} {s : ByteArray} {a : Int} (h : RAt w g s a) (hs : s.size ≤ 1000000) (wf : -9223372036854775808 ≤ a) (wf1 : a ≤ 9223372036854775807) :
    Calls Try.prog 44 #[.pointer (some ⟨g, 0, none⟩)] w fun e w' => TextEnds (nameAt s a) w g s e w' := by
  obtain ⟨R, hR⟩ : ∃ R, nameAt s a = R := ⟨_, rfl⟩
  rw [hR]
  have z1 := h.c1
  have HR := Aside0.mk h
  have HE := Aside0.mk hR
  have HS := Aside0.mk hs
  have HO := Aside0.mk (Only.refl g w)
  clear h hR
  go_enter Try.func44, Try.ntmps44
  go_wp2_with fail
  clear z1
  go_loopg [3, 4, 5] (a.toNat * 256 + 257) (fun kq v3 v4 v5 w' => ∃ (b : List Int) (part nx at' : Int), v4 = .int .i64 part ∧ v5 = .int .i64 nx ∧ Aside0 (nameR kq s b part nx at' = R) ∧ Aside0 (part.toNat * 256 + 256 < kq + b.length) ∧ Aside0 (b.length ≤ 254) ∧ Aside0 (-1 ≤ nx ∧ nx ≤ 1000000) ∧ Aside0 (RAt w' g s at') ∧ Aside0 (Only g w w') ∧ Aside0 (B8 w' w.heap.size (fun _ => True) v3 b))
  case atStart => exact ⟨[], a, -1, a, rfl, rfl, HE, ⟨by simp⟩, ⟨by simp⟩, ⟨by omega⟩, HR, HO, ⟨Kd.R_nil _ _ _ _ _⟩⟩
  case round =>
    clear HR HE HO
    obtain ⟨b, part, nx, at', rfl, rfl, HE, HK, HL, HX, HR, HO, HB⟩ := hrel
    obtain ⟨k, rfl⟩ : ∃ k, gk = k + 1 := ⟨gk - 1, by have := HK.out; have := HL.out; omega⟩
    have he := HE.out
    unfold nameR at he
    clear HE
    cases h1 : getF s at' 1 with
    | none =>
      rw [h1] at he
      have H1 := Lib.hid h1
      have HE := Lib.hid he
      clear he h1
      go_wp2_with fail
      refine (num_no HR.out HS.out H1.out).mono ?_
      rintro e w2 ⟨rfl, ho⟩
      exact ⟨rfl, TextEnds.err HE.out.symm (HO.out.trans ho)⟩
    | some n =>
      rw [h1] at he
      simp only [] at he
      have H1 := Lib.hid h1
      obtain ⟨n0, n1, a0, a1⟩ := get1 h1
      clear h1
      go_wp2_with fail
      refine (num_yes HR.out HS.out H1.out).mono ?_
      rintro e w2 ⟨rfl, hr, ho⟩
      have HR2 := Aside0.mk hr
      have HO2 := Aside0.mk (HO.out.trans ho)
      have HB2 := Aside0.mk (R_only HB.out HR.out (by decide) ho)
      clear hr ho
      have hw1 : IntKind.i64.wrap n = n := by rw [IntKind.wrap_i64]; omega
      have q0 : at' + 1 ≤ 1000000 := by have := HS.out; omega
      have HN := Lib.hid (show 0 ≤ n ∧ n ≤ 255 from ⟨n0, n1⟩)
      by_cases c1 : n = 0
      · rw [if_pos c1] at he
        subst c1
        have e1 : ((0 : Int) == 0) = true := rfl
        have HLn := Aside0.mk (show (b.length + 1) * 1 ≤ 140737488355328 by have := HL.out; omega)
        by_cases c2 : 0 ≤ nx
        · rw [if_pos c2] at he
          have HE := Lib.hid he
          have d2 : decide (0 ≤ nx) = true := decide_eq_true c2
          have y1 := HR2.out.c1
          have f1 : w2.frozen? ⟨g, 1, none⟩ = false := blk_frozen HR2.out 1
          clear he
          have HBs := Aside0.mk (Kd.R_set HB2.out HR2.out (by intro q hq; rw [show q = 5 by simpa [Kd.int, Kd.scalar] using hq]; decide) 1 (.int .i64 nx))
          have HRs := Aside0.mk (HR2.out.set nx)
          have HOs := Aside0.mk (HO2.out.set 1 (.int .i64 nx))
          go_wp2_with (((with_reducible refine gate_builtin (b := .append) (xs := #[.tmp 42, .tmp 43]) rfl ?_); at_builtin; go_must (refine app8 rfl (.tmp 42) (.tmp 43) rfl rfl (by first | rfl | (go_simp; done)) HBs.out (Below.refl _ _) (fun _ _ _ => trivial) HOs.out.size HLn.out ?_; intro va wa hoa hba hga hata)); go_must (have hcv := strOf hoa; have HRa := Aside0.mk (HRs.out.over HBs.out hga); have HOa := Aside0.mk (HOs.out.of_grown hga (Kd.R_base HBs.out)); clear hoa hba hga hata))
          go_ret
          exact TextEnds.ok HE.out.symm HRa.out HOa.out
        · rw [if_neg c2] at he
          have HE := Lib.hid he
          have d2 : decide (0 ≤ nx) = false := decide_eq_false c2
          clear he
          have HBs := HB2
          have HRs := HR2
          have HOs := HO2
          go_wp2_with (((with_reducible refine gate_builtin (b := .append) (xs := #[.tmp 42, .tmp 43]) rfl ?_); at_builtin; go_must (refine app8 rfl (.tmp 42) (.tmp 43) rfl rfl (by first | rfl | (go_simp; done)) HBs.out (Below.refl _ _) (fun _ _ _ => trivial) HOs.out.size HLn.out ?_; intro va wa hoa hba hga hata)); go_must (have hcv := strOf hoa; have HRa := Aside0.mk (HRs.out.over HBs.out hga); have HOa := Aside0.mk (HOs.out.of_grown hga (Kd.R_base HBs.out)); clear hoa hba hga hata))
          go_ret
          exact TextEnds.ok HE.out.symm HRa.out HOa.out
      rw [if_neg c1] at he
      have e1 : (n == 0) = false := beq_eq_false_iff_ne.mpr c1
      by_cases c3 : 191 < n
      · rw [if_pos c3] at he
        have d3 : decide (191 < n) = true := decide_eq_true c3
        have hand := and63 n n0 n1
        have hsh : IntKind.i64.wrap (n % 64 * 256) = n % 64 * 256 := by rw [IntKind.wrap_i64]; omega
        clear c1
        cases h2 : getF s (at' + 1) 1 with
        | none =>
          rw [h2] at he
          have H2 := Lib.hid h2
          have HE := Lib.hid he
          clear he h2
          go_wp2_with fail
          refine (num_no HR2.out HS.out H2.out).mono ?_
          rintro e w3 ⟨rfl, ho⟩
          exact ⟨rfl, TextEnds.err HE.out.symm (HO2.out.trans ho)⟩
        | some m =>
          rw [h2] at he
          simp only [] at he
          have H2 := Lib.hid h2
          obtain ⟨m0, m1, _, a2⟩ := get1 h2
          have hw2 : IntKind.i64.wrap m = m := by rw [IntKind.wrap_i64]; omega
          have hor := or_low (n % 64) m (by omega) (by omega) m0 m1
          obtain ⟨tq, hto⟩ : ∃ tq, n % 64 * 256 + m = tq := ⟨_, rfl⟩
          rw [hto] at he hor
          have HTo := Lib.hid (show 0 ≤ tq ∧ tq ≤ 16383 by omega)
          have q1 : at' + 1 + 1 ≤ 1000000 := by have := HS.out; omega
          clear h2 hto
          by_cases c4 : part ≤ tq
          · rw [if_pos c4] at he
            have HE := Lib.hid he
            have d4 : decide (part ≤ tq) = true := decide_eq_true c4
            clear he
            go_wp2_with fail
            refine (num_yes HR2.out HS.out H2.out).mono ?_
            rintro e w3 ⟨rfl, hr, ho⟩
            have HR3 := Aside0.mk hr
            have HO3 := Aside0.mk (HO2.out.trans ho)
            have HB3 := Aside0.mk (R_only HB2.out HR2.out (by decide) ho)
            have y1 := hr.c1
            have f1 : w3.frozen? ⟨g, 1, none⟩ = false := blk_frozen hr 1
            clear hr ho
            go_wp2_with fail
            exact ⟨rfl, TextEnds.err HE.out.symm HO3.out⟩
          · rw [if_neg c4] at he
            have d4 : decide (part ≤ tq) = false := decide_eq_false c4
            have HMs := Aside0.mk (show tq.toNat * 256 + 256 < k + b.length by have := HK.out; have := HTo.out; have := HL.out; omega)
            by_cases c5 : nx < 0
            · rw [if_pos c5] at he
              have HE := Aside0.mk he
              have d5 : decide (nx < 0) = true := decide_eq_true c5
              clear he
              go_wp2_with fail
              refine (num_yes HR2.out HS.out H2.out).mono ?_
              rintro e w3 ⟨rfl, hr, ho⟩
              have HR3 := Aside0.mk hr
              have HO3 := Aside0.mk (HO2.out.trans ho)
              have HB3 := Aside0.mk (R_only HB2.out HR2.out (by decide) ho)
              have y1 := hr.c1
              have f1 : w3.frozen? ⟨g, 1, none⟩ = false := blk_frozen hr 1
              clear hr ho
              go_wp2_with fail
              go_roundg k
              case measure => omega
              case rel => exact ⟨b, tq, at' + 2, tq, rfl, by first | rfl | (congr 1; omega), HE, HMs, HL, ⟨by omega⟩, ⟨HR3.out.set tq⟩, ⟨HO3.out.set 1 (.int .i64 tq)⟩, ⟨Kd.R_set HB3.out HR3.out (by intro q hq; rw [show q = 5 by simpa [Kd.int, Kd.scalar] using hq]; decide) 1 (.int .i64 tq)⟩⟩
            · rw [if_neg c5] at he
              have HE := Aside0.mk he
              have d5 : decide (nx < 0) = false := decide_eq_false c5
              clear he
              go_wp2_with fail
              refine (num_yes HR2.out HS.out H2.out).mono ?_
              rintro e w3 ⟨rfl, hr, ho⟩
              have HR3 := Aside0.mk hr
              have HO3 := Aside0.mk (HO2.out.trans ho)
              have HB3 := Aside0.mk (R_only HB2.out HR2.out (by decide) ho)
              have y1 := hr.c1
              have f1 : w3.frozen? ⟨g, 1, none⟩ = false := blk_frozen hr 1
              clear hr ho
              go_wp2_with fail
              go_roundg k
              case measure => omega
              case rel => exact ⟨b, tq, nx, tq, rfl, rfl, HE, HMs, HL, HX, ⟨HR3.out.set tq⟩, ⟨HO3.out.set 1 (.int .i64 tq)⟩, ⟨Kd.R_set HB3.out HR3.out (by intro q hq; rw [show q = 5 by simpa [Kd.int, Kd.scalar] using hq]; decide) 1 (.int .i64 tq)⟩⟩
      rw [if_neg c3] at he
      have d3 : decide (191 < n) = false := decide_eq_false c3
      by_cases c6 : 63 < n
      · rw [if_pos c6] at he
        have HE := Lib.hid he
        have d6 : decide (63 < n) = true := decide_eq_true c6
        clear he c1
        go_wp2_with fail
        exact ⟨rfl, TextEnds.err HE.out.symm HO2.out⟩
      rw [if_neg c6] at he
      have d6 : decide (63 < n) = false := decide_eq_false c6
      cases h3 : partF s (at' + 1) n with
      | none =>
        rw [h3] at he
        have H3 := Lib.hid h3
        have HE := Lib.hid he
        clear he h3 c1
        go_wp2_with fail
        refine (text_no HR2.out HS.out H3.out).mono ?_
        rintro e w3 ⟨rfl, ho⟩
        exact ⟨rfl, TextEnds.err HE.out.symm (HO2.out.trans ho)⟩
      | some l =>
        rw [h3] at he
        simp only [] at he
        have H3 := Lib.hid h3
        obtain ⟨lz, -, -, l3, -⟩ := part_size h3
        have HLz := Lib.hid (show (l.size : Int) = n ∧ at' + 1 + n ≤ 1000000 from ⟨lz, by have := HS.out; omega⟩)
        have hu8 : IntKind.u8.wrap n = n := by rw [IntKind.wrap_u8]; omega
        have q5 : (b.length : Int) ≤ 254 := by have := HL.out; omega
        have q6 : n ≤ 63 := by omega
        clear h3 c1 lz l3
        by_cases c7 : 255 < (b.length : Int) + n + 2
        · rw [if_pos c7] at he
          have HE := Lib.hid he
          have d7 : decide (255 < (b.length : Int) + n + 2) = true := decide_eq_true c7
          clear he
          go_wp2_with fail
          refine (text_yes HR2.out HS.out H3.out).mono ?_
          rintro e w3 ⟨rfl, hr, ho⟩
          have HR3 := Aside0.mk hr
          have HO3 := Aside0.mk (HO2.out.trans ho)
          have HB3 := Aside0.mk (R_only HB2.out HR2.out (by decide) ho)
          clear hr ho
          obtain ⟨A3, c3, rfl⟩ := Kd.R_slice HB3.out
          go_wp2_with fail
          exact ⟨rfl, TextEnds.err HE.out.symm HO3.out⟩
        · rw [if_neg c7] at he
          have HE := Aside0.mk he
          have d7 : decide (255 < (b.length : Int) + n + 2) = false := decide_eq_false c7
          clear he
          have HL1 := Aside0.mk (show (b.length + 1) * 1 ≤ 140737488355328 by have := HL.out; omega)
          have HL2 := Aside0.mk (show (b ++ [n]).length + l.size ≤ 140737488355328 by have := HL.out; have := HLz.out.1; rw [List.length_append, List.length_singleton]; omega)
          go_wp2_with fail
          refine (text_yes HR2.out HS.out H3.out).mono ?_
          rintro e w3 ⟨rfl, hr, ho⟩
          have HR3 := Aside0.mk hr
          have HO3 := Aside0.mk (HO2.out.trans ho)
          have HB3 := Aside0.mk (R_only HB2.out HR2.out (by decide) ho)
          clear hr ho
          obtain ⟨A3, c3, rfl⟩ := Kd.R_slice HB3.out
          go_wp2_with (first | (((with_reducible refine gate_builtin (b := .append) (xs := #[.tmp 26, .tmp 29]) rfl ?_); at_builtin; go_must (refine app8 rfl (.tmp 26) (.tmp 29) rfl rfl (by first | rfl | (go_simp; done)) HB3.out (Below.refl _ _) (fun _ _ _ => trivial) HO3.out.size HL1.out ?_; intro va wa hoa hba hga hata)); go_must (have HR4 := Aside0.mk (HR3.out.over HB3.out hga); have HO4 := Aside0.mk (HO3.out.of_grown hga (Kd.R_base HB3.out)); have HB4 := Aside0.mk hoa; clear hoa hba hga hata)) | (((with_reducible refine gate_builtin (b := .append) (xs := #[.tmp 30, .tmp 31]) rfl ?_); at_builtin; go_must (refine app8s rfl (.tmp 30) (.tmp 31) rfl rfl rfl HB4.out (Below.refl _ _) HO4.out.size HL2.out ?_; intro vb wb hob hbb hgb)); go_must (have HR5 := Aside0.mk (HR4.out.over HB4.out hgb); have HO5 := Aside0.mk (HO4.out.of_grown hgb (Kd.R_base HB4.out)); have HB5 := Aside0.mk hob; clear hob hbb hgb)))
          go_roundg k
          case measure => omega
          case rel => exact ⟨_, part, nx, at' + 1 + n, rfl, rfl, HE, ⟨by have := HK.out; have := HLz.out.1; simp only [List.length_append, List.length_singleton, bytesOf_length]; omega⟩, ⟨by have := HLz.out.1; simp only [List.length_append, List.length_singleton, bytesOf_length]; omega⟩, HX, HR5, HO5, HB5⟩
end Go.Proofs.Ytbbeikdbioelgaa.M
set_option linter.unusedVariables false
set_option linter.unusedSimpArgs false
namespace Go.Proofs.Ytbbeikdbioelgaa.M
open Go.RowKit Go.Maps Go.Proofs.YtbbeikdbioelgaaW.PrintWords Go.Proofs.YtbbeikdbioelgaaW.PrintLast Go.Proofs.YtbbeikdbioelgaaW.PrintMore
attribute [local go_sem] max2_int min2_int max_two min_two max_three min_three max_four min_four
attribute [local go_sem ↓] Go.wp_at_zero Go.wp_at_succ
def bareR : Nat → ByteArray → List Int → Int → Except Int (List Int × Int)
  | 0, _, _, _ => .error 2
  | k + 1, s, b, a =>
    match getF s a 1 with
    | none => .error 2
    | some n =>
      if n = 0 then .ok (b ++ [0], a + 1)
      else if 191 < n then .error 50
      else if 63 < n then .error 41
      else if 255 < b.length + n + 2 then .error 40
      else
        match partF s (a + 1) n with
        | none => .error 2
        | some l => bareR k s (b ++ [n] ++ bytesOf l) (a + 1 + n)
def bareAt (s : ByteArray) (a : Int) : Except Int (List Int × Int) := bareR 257 s [] a
set_option maxHeartbeats 4000000 in
set_option maxRecDepth 100000 in
theorem bare_calls {w : World} {g : Nat} {s : ByteArray} {a : Int} (h : RAt w g s a) (hs : s.size ≤ 1000000) :
    Calls Try.prog 88 #[.pointer (some ⟨g, 0, none⟩)] w fun e w' => TextEnds (bareAt s a) w g s e w' := by
  obtain ⟨R, hR⟩ : ∃ R, bareAt s a = R := ⟨_, rfl⟩
  rw [hR]
  have HR := Aside0.mk h
  have HE := Aside0.mk hR
  have HS := Aside0.mk hs
  have HO := Aside0.mk (Only.refl g w)
  clear h hR
  go_enter Try.func88, Try.ntmps88
  go_wp2_with fail
  go_loopg [3] 257 (fun kq v3 w' => ∃ (b : List Int) (at' : Int), Aside0 (bareR kq s b at' = R) ∧ Aside0 (256 < kq + b.length) ∧ Aside0 (b.length ≤ 254) ∧ Aside0 (RAt w' g s at') ∧ Aside0 (Only g w w') ∧ Aside0 (B8 w' w.heap.size (fun _ => True) v3 b))
  case atStart => exact ⟨[], a, HE, ⟨by simp⟩, ⟨by simp⟩, HR, HO, ⟨Kd.R_nil _ _ _ _ _⟩⟩
  case round =>
    clear HR HE HO
    obtain ⟨b, at', HE, HK, HL, HR, HO, HB⟩ := hrel
    obtain ⟨k, rfl⟩ : ∃ k, gk = k + 1 := ⟨gk - 1, by have := HK.out; have := HL.out; omega⟩
    have he := HE.out
    unfold bareR at he
    clear HE
    cases h1 : getF s at' 1 with
    | none =>
      rw [h1] at he
      have H1 := Lib.hid h1
      have HE := Lib.hid he
      clear he h1
      go_wp2_with fail
      refine (num_no HR.out HS.out H1.out).mono ?_
      rintro e w2 ⟨rfl, ho⟩
      exact ⟨rfl, TextEnds.err HE.out.symm (HO.out.trans ho)⟩
    | some n =>
      rw [h1] at he
      simp only [] at he
      have H1 := Lib.hid h1
      obtain ⟨n0, n1, a0, a1⟩ := get1 h1
      clear h1
      go_wp2_with fail
      refine (num_yes HR.out HS.out H1.out).mono ?_
      rintro e w2 ⟨rfl, hr, ho⟩
      have HR2 := Aside0.mk hr
      have HO2 := Aside0.mk (HO.out.trans ho)
      have HB2 := Aside0.mk (R_only HB.out HR.out (by decide) ho)
      clear hr ho
      have hw1 : IntKind.i64.wrap n = n := by rw [IntKind.wrap_i64]; omega
      have q0 : at' + 1 ≤ 1000000 := by have := HS.out; omega
      have HN := Lib.hid (show 0 ≤ n ∧ n ≤ 255 from ⟨n0, n1⟩)
      have HL1 := Aside0.mk (show (b.length + 1) * 1 ≤ 140737488355328 by have := HL.out; omega)
      by_cases c1 : n = 0
      · rw [if_pos c1] at he
        subst c1
        have HE := Lib.hid he
        have e1 : ((0 : Int) == 0) = true := rfl
        clear he
        go_wp2_with (((with_reducible refine gate_builtin (b := .append) (xs := #[.tmp 11, .tmp 12]) rfl ?_); at_builtin; go_must (refine app8 rfl (.tmp 11) (.tmp 12) rfl rfl (by first | rfl | (go_simp; done)) HB2.out (Below.refl _ _) (fun _ _ _ => trivial) HO2.out.size HL1.out ?_; intro va wa hoa hba hga hata)); go_must (have hcv := strOf hoa; have HRa := Aside0.mk (HR2.out.over HB2.out hga); have HOa := Aside0.mk (HO2.out.of_grown hga (Kd.R_base HB2.out)); clear hoa hba hga hata))
        go_ret
        exact TextEnds.ok HE.out.symm HRa.out HOa.out
      rw [if_neg c1] at he
      have e1 : (n == 0) = false := beq_eq_false_iff_ne.mpr c1
      by_cases c3 : 191 < n
      · rw [if_pos c3] at he
        have HE := Lib.hid he
        have d3 : decide (191 < n) = true := decide_eq_true c3
        clear he c1
        go_wp2_with fail
        exact ⟨rfl, TextEnds.err HE.out.symm HO2.out⟩
      rw [if_neg c3] at he
      have d3 : decide (191 < n) = false := decide_eq_false c3
      by_cases c6 : 63 < n
      · rw [if_pos c6] at he
        have HE := Lib.hid he
        have d6 : decide (63 < n) = true := decide_eq_true c6
        clear he c1
        go_wp2_with fail
        exact ⟨rfl, TextEnds.err HE.out.symm HO2.out⟩
      rw [if_neg c6] at he
      have d6 : decide (63 < n) = false := decide_eq_false c6
      have q5 : (b.length : Int) ≤ 254 := by have := HL.out; omega
      have q6 : n ≤ 63 := by omega
      have hu8 : IntKind.u8.wrap n = n := by rw [IntKind.wrap_u8]; omega
      obtain ⟨A3, c3', rfl⟩ := Kd.R_slice HB2.out
      by_cases c7 : 255 < (b.length : Int) + n + 2
      · rw [if_pos c7] at he
        have HE := Lib.hid he
        have d7 : decide (255 < (b.length : Int) + n + 2) = true := decide_eq_true c7
        clear he c1
        go_wp2_with fail
        exact ⟨rfl, TextEnds.err HE.out.symm HO2.out⟩
      rw [if_neg c7] at he
      have d7 : decide (255 < (b.length : Int) + n + 2) = false := decide_eq_false c7
      cases h3 : partF s (at' + 1) n with
      | none =>
        rw [h3] at he
        have H3 := Lib.hid h3
        have HE := Lib.hid he
        clear he h3 c1
        go_wp2_with (((with_reducible refine gate_builtin (b := .append) (xs := #[.tmp 31, .tmp 34]) rfl ?_); at_builtin; go_must (refine app8 rfl (.tmp 31) (.tmp 34) rfl rfl (by first | rfl | (go_simp; done)) HB2.out (Below.refl _ _) (fun _ _ _ => trivial) HO2.out.size HL1.out ?_; intro va wa hoa hba hga hata)); go_must (have HR4 := Aside0.mk (HR2.out.over HB2.out hga); have HO4 := Aside0.mk (HO2.out.of_grown hga (Kd.R_base HB2.out)); clear hoa hba hga hata))
        refine (text_no HR4.out HS.out H3.out).mono ?_
        rintro e w3 ⟨rfl, ho⟩
        exact ⟨rfl, TextEnds.err HE.out.symm (HO4.out.trans ho)⟩
      | some l =>
        rw [h3] at he
        simp only [] at he
        have H3 := Lib.hid h3
        obtain ⟨lz, -, -, l3, -⟩ := part_size h3
        have HLz := Lib.hid (show (l.size : Int) = n ∧ at' + 1 + n ≤ 1000000 from ⟨lz, by have := HS.out; omega⟩)
        have HE := Aside0.mk he
        have HL2 := Aside0.mk (show (b ++ [n]).length + l.size ≤ 140737488355328 by have := HL.out; have := HLz.out.1; rw [List.length_append, List.length_singleton]; omega)
        have HM := Lib.hid (show (b.length : Int) + n + 2 ≤ 255 by omega)
        clear h3 c1 lz l3 he
        go_wp2_with (((with_reducible refine gate_builtin (b := .append) (xs := #[.tmp 31, .tmp 34]) rfl ?_); at_builtin; go_must (refine app8 rfl (.tmp 31) (.tmp 34) rfl rfl (by first | rfl | (go_simp; done)) HB2.out (Below.refl _ _) (fun _ _ _ => trivial) HO2.out.size HL1.out ?_; intro va wa hoa hba hga hata)); go_must (have HR4 := Aside0.mk (HR2.out.over HB2.out hga); have HO4 := Aside0.mk (HO2.out.of_grown hga (Kd.R_base HB2.out)); have HB4 := Aside0.mk hoa; clear hoa hba hga hata))
        refine (text_yes HR4.out HS.out H3.out).mono ?_
        rintro e w3 ⟨rfl, hr, ho⟩
        have HR3 := Aside0.mk hr
        have HO3 := Aside0.mk (HO4.out.trans ho)
        have HB3 := Aside0.mk (R_only HB4.out HR4.out (by decide) ho)
        clear hr ho
        go_wp2_with (((with_reducible refine gate_builtin (b := .append) (xs := #[.tmp 35, .tmp 38]) rfl ?_); at_builtin; go_must (refine app8s rfl (.tmp 35) (.tmp 38) rfl rfl rfl HB3.out (Below.refl _ _) HO3.out.size HL2.out ?_; intro vb wb hob hbb hgb)); go_must (have HR5 := Aside0.mk (HR3.out.over HB3.out hgb); have HO5 := Aside0.mk (HO3.out.of_grown hgb (Kd.R_base HB3.out)); have HB5 := Aside0.mk hob; clear hob hbb hgb))
        go_roundg k
        case measure => omega
        case rel => exact ⟨_, at' + 1 + n, HE, ⟨by have := HK.out; have := HLz.out.1; have := HN.out; simp only [List.length_append, List.length_singleton, bytesOf_length]; omega⟩, ⟨by have := HLz.out.1; have := HM.out; simp only [List.length_append, List.length_singleton, bytesOf_length]; omega⟩, HR5, HO5, HB5⟩
def endsR : Nat → ByteArray → Int → Int → Bool
  | 0, _, _, _ => false
  | k + 1, s, a, en => if a < en then
      (if nb s a.toNat = 0 then true else if 191 < nb s a.toNat then decide (a + 2 ≤ en) else if 63 < nb s a.toNat then true else endsR k s (a + (nb s a.toNat + 1)) en)
    else false
def endsF (s : ByteArray) (a en : Int) : Bool := endsR ((en - a).toNat + 1) s a en
set_option maxHeartbeats 4000000 in
set_option maxRecDepth 100000 in
theorem ends_calls {w : World} {g : Nat} {s : ByteArray} {a en : Int} (h : RAt w g s a) (hs : s.size ≤ 1000000) (h0 : 0 ≤ a) (ha : a ≤ s.size) (he : en ≤ s.size) (he0 : 0 ≤ en) :
    Calls Try.prog 89 #[.pointer (some ⟨g, 0, none⟩), .int .i64 en] w fun e w' => e = .returned (.bool (endsF s a en)) ∧ Below w.heap.size w w' := by
  obtain ⟨R, hR⟩ : ∃ R, endsF s a en = R := ⟨_, rfl⟩
  rw [hR]
  have HR := Aside0.mk h
  have HE := Aside0.mk hR
  have HB := Aside0.mk (Below.refl w.heap.size w)
  have z1 := h.c1
  have p1 : (s.size : Int) ≤ 1000000 := by omega
  have HI := Lib.hid (show 0 ≤ en ∧ en ≤ s.size from ⟨he0, he⟩)
  have HA := Lib.hid (show 0 ≤ a ∧ a ≤ s.size + 256 by omega)
  clear h hR hs h0 ha
  go_enter Try.func89, Try.ntmps89
  go_wp2_with fail
  clear z1
  go_loopg [5] ((en - a).toNat + 1) (fun kq v5 w' => ∃ at' : Int, v5 = .int .i64 at' ∧ Aside0 (endsR kq s at' en = R) ∧ Aside0 ((en - at').toNat < kq) ∧ Aside0 (0 ≤ at' ∧ at' ≤ s.size + 256) ∧ Aside0 (Below w.heap.size w w'))
  case atStart => exact ⟨a, rfl, HE, ⟨Nat.lt_succ_self _⟩, ⟨HA.out⟩, HB⟩
  case round =>
    clear HE HB HA
    obtain ⟨at', rfl, HE, HK, HA, HB⟩ := hrel
    obtain ⟨k, rfl⟩ : ∃ k, gk = k + 1 := ⟨gk - 1, by have := HK.out; omega⟩
    have he := HE.out
    unfold endsR at he
    have z0 := (RAt.below HR.out HB.out).c0
    clear HE
    obtain ⟨a0, a1⟩ := HA.out
    by_cases c1 : at' < en
    · rw [if_pos c1] at he
      have d1 : decide (at' < en) = true := decide_eq_true c1
      have hlt : at'.toNat < s.size := by have := HI.out; omega
      have q1 : at' < (s.size : Int) := by have := HI.out; omega
      have hx := nb_at s at'.toNat
      have hn := nb_lt s at'.toNat
      obtain ⟨n, hnb⟩ : ∃ n, nb s at'.toNat = n := ⟨_, rfl⟩
      rw [hnb] at hx hn he
      have hN := Lib.hid hn
      have hC := Lib.hid c1
      clear hnb c1
      by_cases c2 : n = 0
      · subst c2
        rw [if_pos rfl] at he
        subst he
        go_wp2_with fail
        go_ret
        exact ⟨rfl, HB.out⟩
      rw [if_neg c2] at he
      have e2 : ((n : Int) == 0) = false := beq_eq_false_iff_ne.mpr (by omega)
      have q3 : (n : Int) ≤ 255 := by omega
      clear c2
      by_cases c3 : 191 < n
      · rw [if_pos c3] at he
        have d3 : decide ((191 : Int) < (n : Int)) = true := decide_eq_true (by omega)
        have HE := Lib.hid he
        clear he c3
        go_wp2_with fail
        go_ret
        exact ⟨by rw [← HE.out]; rfl, HB.out⟩
      rw [if_neg c3] at he
      have d3 : decide ((191 : Int) < (n : Int)) = false := decide_eq_false (by omega)
      clear c3
      by_cases c4 : 63 < n
      · rw [if_pos c4] at he
        subst he
        have d4 : decide ((63 : Int) < (n : Int)) = true := decide_eq_true (by omega)
        clear c4
        go_wp2_with fail
        go_ret
        exact ⟨rfl, HB.out⟩
      rw [if_neg c4] at he
      have HE := Aside0.mk he
      have d4 : decide ((63 : Int) < (n : Int)) = false := decide_eq_false (by omega)
      clear c4 he
      go_wp2_with fail
      go_roundg k
      case measure => omega
      case rel => exact ⟨at' + ((n : Int) + 1), rfl, HE, ⟨by have := HK.out; have := hC.out; omega⟩, ⟨by have := hN.out; omega⟩, HB⟩
    · rw [if_neg c1] at he
      subst he
      have d1 : decide (at' < en) = false := decide_eq_false c1
      clear c1
      go_wp2_with fail
      go_ret
      exact ⟨rfl, HB.out⟩
def withinF (s : ByteArray) (kind a en : Int) : Except Int (List Int × Int) := if endsF s a en = false then .error 50 else if kind = 33 then bareAt s a else nameAt s a
set_option maxHeartbeats 4000000 in
set_option maxRecDepth 100000 in
theorem within_calls {w : World} {g : Nat} {s : ByteArray} {kind a en : Int} (h : RAt w g s a) (hs : s.size ≤ 1000000) (h0 : 0 ≤ a) (ha : a ≤ s.size) (he : en ≤ s.size) (he0 : 0 ≤ en) :
    Calls Try.prog 87 #[.pointer (some ⟨g, 0, none⟩), .int .u16 kind, .int .i64 en] w fun e w' => TextEnds (withinF s kind a en) w g s e w' := by
  have hmf : ∀ (fn : Fn) (first cap : Array Value) (w : World), (Instr.makeFunc fn first cap).run Try.prog w = .ok (.func fn first cap) w := fun _ _ _ _ => rfl
  obtain ⟨R, hR⟩ : ∃ R, withinF s kind a en = R := ⟨_, rfl⟩
  rw [hR]
  unfold withinF at hR
  have HR := Aside0.mk h
  have HA := Lib.hid (show 0 ≤ a ∧ a ≤ s.size ∧ en ≤ s.size ∧ 0 ≤ en from ⟨h0, ha, he, he0⟩)
  clear h h0 ha he he0
  by_cases k1 : kind = 33
  · have e1 : (kind == 33) = true := beq_iff_eq.mpr k1
    rw [if_pos k1] at hR
    have HE := Lib.hid hR
    clear k1 hR
    go_enter Try.func87, Try.ntmps87
    go_wp2_with fail
    refine (ends_calls HR.out hs HA.out.1 HA.out.2.1 HA.out.2.2.1 HA.out.2.2.2).mono ?_
    obtain ⟨q, hq⟩ : ∃ q, endsF s a en = q := ⟨_, rfl⟩
    have he := HE.out
    rw [hq] at he
    rw [hq]
    rintro e w2 ⟨rfl, hb⟩
    have HR2 := Aside0.mk (HR.out.below hb)
    have HO2 := Aside0.mk (Only.of_below hb g)
    clear hb hq HE
    cases q with
    | false =>
      rw [if_pos rfl] at he
      have HE := Lib.hid he
      clear he
      go_wp2_with fail
      exact ⟨rfl, TextEnds.err HE.out.symm HO2.out⟩
    | true =>
      rw [if_neg (by decide)] at he
      go_wp2_with fail
      refine (bare_calls HR2.out hs).mono ?_
      intro e w3 ht
      rw [he] at ht
      have HO3 := Aside0.mk (HO2.out.trans ht.only)
      cases R with
      | error c =>
        obtain rfl := ht.bad c rfl
        exact ⟨rfl, TextEnds.err rfl HO3.out⟩
      | ok x =>
        obtain ⟨b, a'⟩ := x
        obtain ⟨rfl, hr⟩ := ht.good b a' rfl
        have HR3 := Aside0.mk hr
        clear ht hr he
        go_wp2_with fail
        go_ret
        exact TextEnds.ok rfl HR3.out HO3.out
  · have e1 : (kind == 33) = false := beq_eq_false_iff_ne.mpr k1
    rw [if_neg k1] at hR
    have HE := Lib.hid hR
    clear k1 hR
    go_enter Try.func87, Try.ntmps87
    go_wp2_with fail
    refine (ends_calls HR.out hs HA.out.1 HA.out.2.1 HA.out.2.2.1 HA.out.2.2.2).mono ?_
    obtain ⟨q, hq⟩ : ∃ q, endsF s a en = q := ⟨_, rfl⟩
    have he := HE.out
    rw [hq] at he
    rw [hq]
    rintro e w2 ⟨rfl, hb⟩
    have HR2 := Aside0.mk (HR.out.below hb)
    have HO2 := Aside0.mk (Only.of_below hb g)
    clear hb hq HE
    cases q with
    | false =>
      rw [if_pos rfl] at he
      have HE := Lib.hid he
      clear he
      go_wp2_with fail
      exact ⟨rfl, TextEnds.err HE.out.symm HO2.out⟩
    | true =>
      rw [if_neg (by decide)] at he
      go_wp2_with fail
      refine (name_calls' HR2.out hs (by have := HA.out; omega) (by have := HA.out; omega)).mono ?_
      intro e w3 ht
      rw [he] at ht
      have HO3 := Aside0.mk (HO2.out.trans ht.only)
      cases R with
      | error c =>
        obtain rfl := ht.bad c rfl
        exact ⟨rfl, TextEnds.err rfl HO3.out⟩
      | ok x =>
        obtain ⟨b, a'⟩ := x
        obtain ⟨rfl, hr⟩ := ht.good b a' rfl
        have HR3 := Aside0.mk hr
        clear ht hr he
        go_wp2_with fail
        go_ret
        exact TextEnds.ok rfl HR3.out HO3.out
def numsR (s : ByteArray) (sz en : Int) : Nat → List Int → Int → Except Int (List Int × Int)
  | 0, out, a => .ok (out, a)
  | k + 1, out, a => if en - a < sz then .error 50 else
    match getF s a sz with
    | none => .error 2
    | some n => numsR s sz en k (out ++ [n]) (a + sz)
structure Ends {α : Type} (P : α → Value → World → Prop) (R : Except Int (α × Int)) (w : World) (g : Nat) (s : ByteArray) (e : Ending) (w' : World) : Prop where
  bad : ∀ c, R = .error c → e = gaveUp c
  good : ∀ x a, R = .ok (x, a) → ∃ v, e = .returned v ∧ P x v w' ∧ RAt w' g s a
  only : Only g w w'
section
variable {α : Type} {P : α → Value → World → Prop} {R : Except Int (α × Int)} {w w' : World} {g : Nat} {s : ByteArray} {a c : Int} {v : Value} {x : α}
theorem Ends.err (h : R = .error c) (ho : Only g w w') : Ends P R w g s (gaveUp c) w' :=
  ⟨fun d hd => by rw [h] at hd; rw [Except.error.inj hd], fun b a hb => by rw [h] at hb; exact absurd hb (by simp), ho⟩
theorem Ends.ok (h : R = .ok (x, a)) (hp : P x v w') (hr : RAt w' g s a) (ho : Only g w w') : Ends P R w g s (.returned v) w' :=
  ⟨fun d hd => by rw [h] at hd; exact absurd hd (by simp), fun b' a' hb => by rw [h] at hb; obtain ⟨rfl, rfl⟩ := Prod.mk.inj (Except.ok.inj hb); exact ⟨v, rfl, hp, hr⟩, ho⟩
end
theorem val_bound (l : List Int) (hl : ∀ x ∈ l, 0 ≤ x ∧ x < 256) (n : Int) (N : Nat) (h0 : 0 ≤ n) (h1 : n < 256 ^ N) : 0 ≤ valF n l ∧ valF n l < 256 ^ (N + l.length) := by
  induction l generalizing n N with
  | nil => exact ⟨h0, h1⟩
  | cons c l ih =>
    have hc := hl c (by simp)
    have := ih (fun x hx => hl x (by simp [hx])) (n * 256 + c) (N + 1) (by omega) (by rw [Int.pow_succ]; omega)
    rw [show N + (c :: l).length = N + 1 + l.length by simp; omega]
    exact this
theorem get_bound {s : ByteArray} {a : Int} {z : Nat} {n : Int} (h : getF s a z = some n) : 0 ≤ n ∧ n < 256 ^ z := by
  obtain ⟨t, h1, rfl, _⟩ := get_part h
  obtain ⟨h2, _⟩ := part_size h1
  have := val_bound (bytesOf t) (fun x hx => by
    unfold bytesOf at hx
    obtain ⟨b, _, rfl⟩ := List.mem_map.1 hx
    have := b.toNat_lt
    omega) 0 0 (by omega) (by decide)
  rw [bytesOf_length, show t.size = z by omega, Nat.zero_add] at this
  exact this
def NumsP (B : Nat) (l : List Int) (v : Value) (w' : World) : Prop := Kd.R (Kd.int .u32) 41 w' B (fun _ => True) v l
set_option maxHeartbeats 4000000 in
set_option maxRecDepth 100000 in
theorem numbers_calls {w : World} {g : Nat} {s : ByteArray} {a en : Int} {count z : Nat} (h : RAt w g s a) (hs : s.size ≤ 1000000) (h0 : 0 ≤ a) (ha : a ≤ s.size) (he : en ≤ s.size) (he0 : 0 ≤ en) (hc : count ≤ 10) (hz : z = 2 ∨ z = 4) :
    Calls Try.prog 86 #[.pointer (some ⟨g, 0, none⟩), .int .i64 count, .int .i64 z, .int .i64 en] w fun e w' => Ends (NumsP w.heap.size) (numsR s z en count [] a) w g s e w' := by
  obtain ⟨R, hR⟩ : ∃ R, numsR s z en count [] a = R := ⟨_, rfl⟩
  rw [hR]
  have HR := Aside0.mk h
  have HE := Aside0.mk hR
  have HO := Aside0.mk (Only.refl g w)
  have HS := Lib.hid (show s.size ≤ 1000000 ∧ en ≤ s.size ∧ 0 ≤ en from ⟨hs, he, he0⟩)
  have HZ := Lib.hid hz
  have HA := Lib.hid (show 0 ≤ a ∧ a ≤ s.size from ⟨h0, ha⟩)
  have p1 : (count : Int) ≤ 10 := by omega
  have p2 : 0 ≤ en := he0
  have p3 : en ≤ 1000000 := by omega
  have HC := Lib.hid hc
  clear h hR hs hz h0 ha he he0 hc
  go_enter Try.func86, Try.ntmps86
  go_wp2_with fail
  go_loopg [9, 11] count (fun kq v9 v11 w' => ∃ (i : Nat) (out : List Int) (at' : Int), v11 = .int .i64 i ∧ Aside0 (numsR s z en kq out at' = R) ∧ Aside0 (kq + i = count) ∧ Aside0 (out.length = i) ∧ Aside0 (0 ≤ at' ∧ at' ≤ s.size) ∧ Aside0 (RAt w' g s at') ∧ Aside0 (Only g w w') ∧ Aside0 (NumsP w.heap.size out v9 w'))
  case atStart => exact ⟨0, [], a, rfl, HE, ⟨rfl⟩, ⟨rfl⟩, ⟨HA.out⟩, HR, HO, ⟨Kd.R_nil _ _ _ _ _⟩⟩
  case round =>
    clear HE HO HR HA
    obtain ⟨i, out, at', rfl, HE, HK, HL, HA, HR, HO, HB⟩ := hrel
    have he := HE.out
    clear HE
    cases gk with
    | zero =>
      have HE := Lib.hid he
      obtain rfl : i = count := by have := HK.out; omega
      clear he
      go_wp2_with fail
      go_ret
      exact Ends.ok HE.out.symm HB.out HR.out HO.out
    | succ k =>
      unfold numsR at he
      have z1 := HR.out.c1
      obtain ⟨a0, a1⟩ := HA.out
      have q1 : (i : Int) < (count : Int) := by have := HK.out; omega
      have q2 : at' ≤ 1000000 := by have := HS.out.1; omega
      have q3 : (z : Int) ≤ 4 := by have := HZ.out; omega
      by_cases c1 : en - at' < z
      · rw [if_pos c1] at he
        have HE := Lib.hid he
        have d1 : decide (en - at' < (z : Int)) = true := decide_eq_true c1
        clear he c1
        go_wp2_with fail
        exact ⟨rfl, Ends.err HE.out.symm HO.out⟩
      rw [if_neg c1] at he
      have d1 : decide (en - at' < (z : Int)) = false := decide_eq_false c1
      cases h1 : getF s at' z with
      | none =>
        rw [h1] at he
        have H1 := Lib.hid h1
        have HE := Lib.hid he
        clear he h1 c1
        go_wp2_with fail
        refine (num_no HR.out HS.out.1 H1.out).mono ?_
        rintro e w2 ⟨rfl, ho⟩
        exact ⟨rfl, Ends.err HE.out.symm (HO.out.trans ho)⟩
      | some n =>
        rw [h1] at he
        simp only [] at he
        have HE := Aside0.mk he
        have H1 := Lib.hid h1
        obtain ⟨n0, n1⟩ := get_bound h1
        have hn32 : n < 4294967296 := by
          rcases HZ.out with hz | hz
          · rw [hz] at n1; omega
          · rw [hz] at n1; omega
        have hw : IntKind.u32.wrap n = n := by rw [IntKind.wrap_u32]; omega
        have ga := get_at h1
        have HA2 := Aside0.mk (show 0 ≤ at' + z ∧ at' + z ≤ s.size by omega)
        have HL1 := Aside0.mk (show (out.length + 1) * 4 ≤ 140737488355328 by have := HL.out; have := HK.out; have := HC.out; omega)
        clear h1 c1 he n1 ga
        go_wp2_with fail
        refine (num_yes HR.out HS.out.1 H1.out).mono ?_
        rintro e w2 ⟨rfl, hr, ho⟩
        have HR2 := Aside0.mk hr
        have HO2 := Aside0.mk (HO.out.trans ho)
        have HB2 := Aside0.mk (R_only HB.out HR.out (by decide) ho)
        clear hr ho z1
        go_wp2_with (((with_reducible refine gate_builtin (b := .append) (xs := #[.tmp 22, .tmp 27]) rfl ?_); at_builtin; go_must (refine app32 rfl (.tmp 22) (.tmp 27) rfl rfl (by first | rfl | (go_simp; done)) HB2.out (Below.refl _ _) (fun _ _ _ => trivial) HO2.out.size HL1.out ?_; intro va wa hoa hba hga hata)); go_must (have HR4 := Aside0.mk (blk_grown HR2.out hga (Kd.R_ne HB2.out HR2.out (by decide))); have HO4 := Aside0.mk (HO2.out.of_grown hga (Kd.R_base HB2.out)); have HB4 := Aside0.mk hoa; clear hoa hba hga hata))
        go_roundg k
        case measure => omega
        case rel => exact ⟨i + 1, _, at' + z, by go_num, HE, ⟨by have := HK.out; omega⟩, ⟨by have := HL.out; rw [List.length_append, List.length_singleton]; omega⟩, HA2, HR4, HO4, HB4⟩
end Go.Proofs.Ytbbeikdbioelgaa.M
set_option linter.unusedVariables false
set_option linter.unusedSimpArgs false
namespace Go.Proofs.Ytbbeikdbioelgaa.M
open Go.RowKit Go.Maps Go.Proofs.YtbbeikdbioelgaaW.PrintWords Go.Proofs.YtbbeikdbioelgaaW.PrintLast Go.Proofs.YtbbeikdbioelgaaW.PrintMore
attribute [local go_sem] max2_int min2_int max_two min_two max_three min_three max_four min_four
attribute [local go_sem ↓] Go.wp_at_zero Go.wp_at_succ
structure Two (g h : Nat) (w w' : World) : Prop where
  os : w'.os = w.os
  tape : w'.tape = w.tape
  output : w'.output = w.output
  size : w.heap.size ≤ w'.heap.size
  block : ∀ k, k < w.heap.size → k ≠ g → k ≠ h → w'.heap[k]? = w.heap[k]?
section
variable {w w1 w2 : World} {g h B : Nat}
theorem Two.refl (g h : Nat) (w : World) : Two g h w w := ⟨rfl, rfl, rfl, Nat.le_refl _, fun _ _ _ _ => rfl⟩
theorem Two.only (hw : Two g h w w1) (ho : Only g w1 w2) : Two g h w w2 :=
  ⟨ho.os.trans hw.os, ho.tape.trans hw.tape, ho.output.trans hw.output, Nat.le_trans hw.size ho.size, fun k hk hg hh => (ho.block k (Nat.lt_of_lt_of_le hk hw.size) hg).trans (hw.block k hk hg hh)⟩
theorem Two.set (hw : Two g h w w1) (j : Nat) (v : Value) : Two g h w (w1.setCell ⟨h, j, none⟩ v) :=
  ⟨hw.os, hw.tape, hw.output, by simpa using hw.size, fun k hk hg hh => (Below.heap_setCell w1 _ v k hh).trans (hw.block k hk hg hh)⟩
theorem Two.of_grown {row : Option Nat} (hw : Two g h w w1) (hg : w1.grownBy w2 row) (hr : ∀ k, row = some k → w.heap.size ≤ k) : Two g h w w2 :=
  ⟨hg.os.trans hw.os, hg.tape.trans hw.tape, hg.output.trans hw.output, Nat.le_trans hw.size hg.size, fun k hk h1 h2 => (hg.block k (Nat.lt_of_lt_of_le hk hw.size) (fun e => by have := hr k e.symm; omega)).trans (hw.block k hk h1 h2)⟩
theorem Two.drew (hw : Two g h w w1) : Two g h w w1.drew := ⟨hw.os, hw.tape, hw.output, hw.size, hw.block⟩
end
def XAt (w : World) (h : Nat) (f0 : ByteArray) (k c t : Int) (v4 v5 v6 : Value) : Prop := w.heap[h]? = some (.cells #[.string f0, .int .u16 k, .int .u16 c, .int .u32 t, v4, v5, v6] 44 (0, 0))
section
variable {w w1 : World} {g h : Nat} {s f0 : ByteArray} {a k c t : Int} {v4 v5 v6 : Value}
theorem XAt.ne (hx : XAt w h f0 k c t v4 v5 v6) (hr : RAt w g s a) : h ≠ g := by
  rintro rfl
  unfold XAt at hx
  unfold RAt at hr
  rw [hr] at hx
  have := Option.some.inj hx
  injection this with _ h2
  exact absurd h2 (by decide)
theorem XAt.only (hx : XAt w h f0 k c t v4 v5 v6) (hr : RAt w g s a) (ho : Only g w w1) : XAt w1 h f0 k c t v4 v5 v6 := ho.at_ hx (hx.ne hr)
theorem XAt.cell (hx : XAt w h f0 k c t v4 v5 v6) (j : Nat) : w.cell? ⟨h, j, none⟩ = #[.string f0, .int .u16 k, .int .u16 c, .int .u32 t, v4, v5, v6][j]? := blk_cell hx j
theorem XAt.set4 (hx : XAt w h f0 k c t v4 v5 v6) (u : Value) : XAt (w.setCell ⟨h, 4, none⟩ u) h f0 k c t u v5 v6 := by
  unfold XAt
  rw [blk_set hx 4 _]
  rfl
theorem XAt.set5 (hx : XAt w h f0 k c t v4 v5 v6) (u : Value) : XAt (w.setCell ⟨h, 5, none⟩ u) h f0 k c t v4 u v6 := by
  unfold XAt
  rw [blk_set hx 5 _]
  rfl
theorem XAt.set6 (hx : XAt w h f0 k c t v4 v5 v6) (u : Value) : XAt (w.setCell ⟨h, 6, none⟩ u) h f0 k c t v4 v5 u := by
  unfold XAt
  rw [blk_set hx 6 _]
  rfl
theorem RAt.setx (hr : RAt w g s a) (hx : XAt w h f0 k c t v4 v5 v6) (j : Nat) (u : Value) : RAt (w.setCell ⟨h, j, none⟩ u) g s a := (Below.heap_setCell w _ u g (Ne.symm (hx.ne hr))).trans hr
end
def namesR (s : ByteArray) (k en : Int) : Nat → List ByteArray → Int → Except Int (List ByteArray × Int)
  | 0, out, a => .ok (out, a)
  | n + 1, out, a =>
    match withinF s k a en with
    | .error c => .error c
    | .ok (b, a') => namesR s k en n (out ++ [strOfNums b]) a'
def textsR (s : ByteArray) (en : Int) : Nat → List ByteArray → Int → Except Int (List ByteArray × Int)
  | 0, _, _ => .error 2
  | n + 1, out, a => if a < en then
      (match getF s a 1 with
      | none => .error 2
      | some m => if en - (a + 1) < m then .error 50 else
        match partF s (a + 1) m with
        | none => .error 2
        | some t => textsR s en n (out ++ [t]) (a + 1 + m))
    else .ok (out, a)
abbrev Parts := List ByteArray × List Int × List ByteArray
def dataE (en : Int) (names : List ByteArray) (nums : List Int) : List ByteArray × Int → Except Int (Parts × Int)
  | (texts, a) => if a = en then .ok ((names, nums, texts), a) else .error 50
def dataT (s : ByteArray) (k en : Int) (names : List ByteArray) (nums : List Int) (a : Int) : Except Int (Parts × Int) :=
  if k = 16 then
    match textsR s en ((en - a).toNat + 1) [] a with
    | .error c => .error c
    | .ok x => dataE en names nums x
  else if (shapeOf k).1 + (shapeOf k).2.1 = 0 then
    match partF s a (en - a) with
    | none => .error 2
    | some t => dataE en names nums ([t], en)
  else dataE en names nums ([], a)
def dataN (s : ByteArray) (k en : Int) (nums : List Int) : List ByteArray × Int → Except Int (Parts × Int)
  | (names, a) => if k = 6 then
      match numsR s 4 en (shapeOf k).2.1 [] a with
      | .error c => .error c
      | .ok (nums', a') => dataT s k en names nums' a'
    else dataT s k en names nums a
def dataM (s : ByteArray) (k en : Int) : List Int × Int → Except Int (Parts × Int)
  | (nums, a) => match namesR s k en (shapeOf k).1 [] a with
    | .error c => .error c
    | .ok x => dataN s k en nums x
def dataR (s : ByteArray) (k en a : Int) : Except Int (Parts × Int) :=
  if k = 6 then dataM s k en ([], a)
  else match numsR s 2 en (shapeOf k).2.1 [] a with
    | .error c => .error c
    | .ok x => dataM s k en x
structure DataEnds (R : Except Int (Parts × Int)) (w : World) (g h : Nat) (s f0 : ByteArray) (k c t : Int) (e : Ending) (w' : World) : Prop where
  bad : ∀ d, R = .error d → e = gaveUp d
  good : ∀ names nums texts a, R = .ok ((names, nums, texts), a) → e = .returned (.tuple #[]) ∧ RAt w' g s a ∧ ∃ v4 v5 v6, XAt w' h f0 k c t v4 v5 v6 ∧
    Kd.R Kd.string 9 w' w.heap.size (fun _ => True) v4 names ∧ Kd.R (Kd.int .u32) 41 w' w.heap.size (fun _ => True) v5 nums ∧ Kd.R Kd.string 9 w' w.heap.size (fun _ => True) v6 texts
  two : Two g h w w'
section
variable {R : Except Int (Parts × Int)} {w w' : World} {g h : Nat} {s f0 : ByteArray} {a k c t d : Int} {v4 v5 v6 : Value} {names texts : List ByteArray} {nums : List Int}
theorem DataEnds.err (hd : R = .error d) (ht : Two g h w w') : DataEnds R w g h s f0 k c t (gaveUp d) w' :=
  ⟨fun d' hd' => by rw [hd] at hd'; rw [Except.error.inj hd'], fun _ _ _ _ hb => by rw [hd] at hb; exact absurd hb (by simp), ht⟩
theorem DataEnds.ok (hd : R = .ok ((names, nums, texts), a)) (hr : RAt w' g s a) (hx : XAt w' h f0 k c t v4 v5 v6) (h4 : Kd.R Kd.string 9 w' w.heap.size (fun _ => True) v4 names)
    (h5 : Kd.R (Kd.int .u32) 41 w' w.heap.size (fun _ => True) v5 nums) (h6 : Kd.R Kd.string 9 w' w.heap.size (fun _ => True) v6 texts) (ht : Two g h w w') : DataEnds R w g h s f0 k c t (.returned (.tuple #[])) w' :=
  ⟨fun d' hd' => by rw [hd] at hd'; exact absurd hd' (by simp), fun n' m' t' a' hb => by
    rw [hd] at hb
    obtain ⟨h1, rfl⟩ := Prod.mk.inj (Except.ok.inj hb)
    obtain ⟨rfl, h2⟩ := Prod.mk.inj h1
    obtain ⟨rfl, rfl⟩ := Prod.mk.inj h2
    exact ⟨rfl, hr, v4, v5, v6, hx, h4, h5, h6⟩, ht⟩
end
theorem goesp_ {P : Program} {ops : Array Oper} {Q : Exit → Act → World → Prop} {oi : Oper} {N : Option Tmp} {a : Act} {w : World} {K : Act → World → Prop} {f : FuncId} {fn : Func} {xs : Array Operand} {ts : Array TypeId} (hf : P.funcs[f]? = some fn) (hname : (fn.name == "runtime.NumGoroutine") = false) (hb : fn.body.isSome = true) (args : Array Value)
    (hw : Region.wanted oi (yielded ops a.tmps) = true) (hN : oi.dst = N) (hop : oi.op = .call { callee := .value (.func f), args := xs, argTypes := ts }) (hargs : xs.map a.eval = args)
    (h : Calls P f args w fun e w' => (∃ v, e = .returned v ∧ K (a.put N v) w') ∨ ∃ c, e = .panicked c ∧ Q (.panic c) a w') : if Region.wanted oi (yielded ops a.tmps) = true then Oper.wp P oi a w K Q else K (a.put N undef) w := by
  subst hN
  rw [if_pos hw]
  have he := enters_ hf hname hb args w
  unfold Oper.wp
  have hrun : (execOp a.eval oi).run P w = .ok (.enter f args) w := by
    unfold execOp
    simp [hop, resolve, Deferred.ofValue, invoke, Act.eval, hargs, he]
  rw [hrun, Oper.upon_enter]
  refine h.mono fun e w'' hh => ?_
  rcases hh with ⟨v, rfl, hk⟩ | ⟨c, rfl, hq⟩
  · exact hk
  · exact hq
theorem nameR_at (K : Nat) : ∀ {s : ByteArray} {b : List Int} {part nx a : Int} {b' : List Int} {a' : Int}, nameR K s b part nx a = .ok (b', a') → nx ≤ s.size → 0 ≤ a' ∧ a' ≤ s.size := by
  induction K with
  | zero => intro s b part nx a b' a' h _; exact absurd h (by simp [nameR])
  | succ K ih =>
    intro s b part nx a b' a' h hn
    unfold nameR at h
    cases h1 : getF s a 1 with
    | none => rw [h1] at h; exact absurd h (by simp)
    | some n =>
      rw [h1] at h
      simp only [] at h
      have g1 := get1 h1
      by_cases c1 : n = 0
      · rw [if_pos c1] at h
        have := (Prod.mk.inj (Except.ok.inj h)).2
        split at this <;> omega
      rw [if_neg c1] at h
      by_cases c2 : 191 < n
      · rw [if_pos c2] at h
        cases h2 : getF s (a + 1) 1 with
        | none => rw [h2] at h; exact absurd h (by simp)
        | some m =>
          rw [h2] at h
          simp only [] at h
          have g2 := get1 h2
          by_cases c3 : part ≤ n % 64 * 256 + m
          · rw [if_pos c3] at h; exact absurd h (by simp)
          · rw [if_neg c3] at h
            exact ih h (by split <;> omega)
      rw [if_neg c2] at h
      by_cases c4 : 63 < n
      · rw [if_pos c4] at h; exact absurd h (by simp)
      rw [if_neg c4] at h
      cases h3 : partF s (a + 1) n with
      | none => rw [h3] at h; exact absurd h (by simp)
      | some l =>
        rw [h3] at h
        simp only [] at h
        by_cases c5 : 255 < (b.length : Int) + n + 2
        · rw [if_pos c5] at h; exact absurd h (by simp)
        · rw [if_neg c5] at h
          exact ih h hn
theorem bareR_at (K : Nat) : ∀ {s : ByteArray} {b : List Int} {a : Int} {b' : List Int} {a' : Int}, bareR K s b a = .ok (b', a') → 0 ≤ a' ∧ a' ≤ s.size := by
  induction K with
  | zero => intro s b a b' a' h; exact absurd h (by simp [bareR])
  | succ K ih =>
    intro s b a b' a' h
    unfold bareR at h
    cases h1 : getF s a 1 with
    | none => rw [h1] at h; exact absurd h (by simp)
    | some n =>
      rw [h1] at h
      simp only [] at h
      have g1 := get1 h1
      by_cases c1 : n = 0
      · rw [if_pos c1] at h
        have := (Prod.mk.inj (Except.ok.inj h)).2
        omega
      rw [if_neg c1] at h
      by_cases c2 : 191 < n
      · rw [if_pos c2] at h; exact absurd h (by simp)
      rw [if_neg c2] at h
      by_cases c4 : 63 < n
      · rw [if_pos c4] at h; exact absurd h (by simp)
      rw [if_neg c4] at h
      by_cases c5 : 255 < (b.length : Int) + n + 2
      · rw [if_pos c5] at h; exact absurd h (by simp)
      rw [if_neg c5] at h
      cases h3 : partF s (a + 1) n with
      | none => rw [h3] at h; exact absurd h (by simp)
      | some l =>
        rw [h3] at h
        exact ih h
theorem within_at {s : ByteArray} {k a en : Int} {b : List Int} {a' : Int} (h : withinF s k a en = .ok (b, a')) : 0 ≤ a' ∧ a' ≤ s.size := by
  unfold withinF at h
  split at h
  · exact absurd h (by simp)
  · split at h
    · exact bareR_at _ h
    · exact nameR_at _ h (by omega)
theorem numsR_at {s : ByteArray} {sz en : Int} (K : Nat) : ∀ {out : List Int} {a : Int} {out' : List Int} {a' : Int}, numsR s sz en K out a = .ok (out', a') → 0 ≤ a ∧ a ≤ s.size → 0 ≤ a' ∧ a' ≤ s.size := by
  induction K with
  | zero =>
    intro out a out' a' h ha
    have := (Prod.mk.inj (Except.ok.inj h)).2
    omega
  | succ K ih =>
    intro out a out' a' h ha
    unfold numsR at h
    by_cases c1 : en - a < sz
    · rw [if_pos c1] at h; exact absurd h (by simp)
    rw [if_neg c1] at h
    cases h1 : getF s a sz with
    | none => rw [h1] at h; exact absurd h (by simp)
    | some n =>
      rw [h1] at h
      have := get_at h1
      exact ih h (by omega)
section
variable {s : ByteArray} {k en a : Int} {names : List ByteArray} {nums : List Int}
theorem dataN_not (h : ¬ k = 6) : dataN s k en nums (names, a) = dataT s k en names nums a := if_neg h
theorem dataN_six (h : k = 6) : dataN s k en nums (names, a) = (match numsR s 4 en (shapeOf k).2.1 [] a with | .error c => .error c | .ok (nums', a') => dataT s k en names nums' a') := if_pos h
theorem dataT_txt (h : k = 16) : dataT s k en names nums a = (match textsR s en ((en - a).toNat + 1) [] a with | .error c => .error c | .ok x => dataE en names nums x) := if_pos h
theorem dataT_free (h : ¬ k = 16) (h0 : (shapeOf k).1 + (shapeOf k).2.1 = 0) : dataT s k en names nums a = (match partF s a (en - a) with | none => .error 2 | some t => dataE en names nums ([t], en)) := (if_neg h).trans (if_pos h0)
theorem dataT_none (h : ¬ k = 16) (h0 : ¬ (shapeOf k).1 + (shapeOf k).2.1 = 0) : dataT s k en names nums a = dataE en names nums ([], a) := (if_neg h).trans (if_neg h0)
theorem dataE_eq (t : List ByteArray) : dataE en names nums (t, a) = (if a = en then .ok ((names, nums, t), a) else .error 50) := rfl
end
theorem R_anyslice {α : Type} {d : Kd α} {e base : Nat} {ok : Nat → Prop} {w : World} {v : Value} {xs : List α} (h : d.R e w base ok v xs) : ∃ A n c, v = .slice A n c := by
  obtain ⟨A, c, h⟩ := Kd.R_slice h
  exact ⟨A, _, c, h⟩
set_option maxHeartbeats 8000000 in
set_option maxRecDepth 100000 in
theorem data_reads {w : World} {g h : Nat} {s f0 : ByteArray} {a k c t en : Int} (hr : RAt w g s a) (hx : XAt w h f0 k c t (.slice none 0 0) (.slice none 0 0) (.slice none 0 0)) (hs : s.size ≤ 1000000) (h0 : 0 ≤ a) (hae : a ≤ en) (he : en ≤ s.size) :
    Calls Try.prog 83 #[.pointer (some ⟨g, 0, none⟩), .pointer (some ⟨h, 0, none⟩), .int .i64 en] w fun e w' => DataEnds (dataR s k en a) w g h s f0 k c t e w' := by
  obtain ⟨R, hR⟩ : ∃ R, dataR s k en a = R := ⟨_, rfl⟩
  rw [hR]
  unfold dataR at hR
  have HR := Aside0.mk hr
  have HX := Aside0.mk hx
  have HS := Lib.hid (show s.size ≤ 1000000 ∧ en ≤ s.size ∧ 0 ≤ en from ⟨hs, he, by omega⟩)
  have HA := Lib.hid (show 0 ≤ a ∧ a ≤ s.size by omega)
  have HT := Aside0.mk (Two.refl g h w)
  have H4 := Aside0.mk (Kd.R_nil Kd.string 9 w w.heap.size (fun _ => True))
  have H5 := Aside0.mk (Kd.R_nil (Kd.int .u32) 41 w w.heap.size (fun _ => True))
  obtain ⟨⟨n, m, tx⟩, hsh⟩ : ∃ x, shapeOf k = x := ⟨_, rfl⟩
  obtain ⟨s1, s2, s3⟩ := shapeOf_le k
  have e1 : (shapeOf k).1 = n := by rw [hsh]
  have e2 : (shapeOf k).2.1 = m := by rw [hsh]
  rw [e1] at s1
  rw [e2] at s2 hR
  have HSh := Lib.hid hsh
  have HNM := Lib.hid (show (shapeOf k).1 = n ∧ (shapeOf k).2.1 = m from ⟨e1, e2⟩)
  have p1 : (n : Int) ≤ 2 := by omega
  have p2 : (m : Int) ≤ 5 := by omega
  have p3 : en ≤ 1000000 := by omega
  have p4 : 0 ≤ en := by omega
  have HM := Lib.hid (show m ≤ 10 by omega)
  clear hr hx hs h0 hae he hsh s1 s2 s3 e1 e2
  have x1 : w.cell? ⟨h, 1, none⟩ = some (.int .u16 k) := (HX.out.cell 1).trans rfl
  by_cases k6 : k = 6
  · rw [if_pos k6] at hR
    have d6 : (k != 6) = false := by rw [bne_eq_false_iff_eq]; exact k6
    have d7 : (k == 6) = true := beq_iff_eq.mpr k6
    have K6 := Lib.hid k6
    have HE := Lib.hid hR
    have HA1 := HA
    have HR2 := HR
    have HX2 := HX
    have HT2 := HT
    have H42 := H4
    have H52 := H5
    clear k6 hR
    go_enter Try.func83, Try.ntmps83
    go_wp2_with fail
    refine (Shape_calls k _).mono ?_
    rw [HSh.out]
    rintro e w1 ⟨rfl, rfl⟩
    go_wp2_with fail
    clear x1
    have HQ := Aside0.mk (show (match namesR s k en n [] a with | .error c => .error c | .ok x => dataN s k en [] x) = R by rw [← HE.out]; unfold dataM; rw [HNM.out.1])
    obtain ⟨RN, hRN⟩ : ∃ RN, namesR s k en n [] a = RN := ⟨_, rfl⟩
    rw [hRN] at HQ
    have HL := Aside0.mk hRN
    clear hRN HE
    go_loopg [32] n (fun kq v32 w' => ∃ (i : Nat) (out : List ByteArray) (at' : Int) (v4 : Value), v32 = .int .i64 i ∧ Aside0 (namesR s k en kq out at' = RN) ∧ Aside0 (kq + i = n) ∧ Aside0 (out.length = i) ∧ Aside0 (0 ≤ at' ∧ at' ≤ s.size) ∧ Aside0 (RAt w' g s at') ∧ Aside0 (XAt w' h f0 k c t v4 (.slice none 0 0) (.slice none 0 0)) ∧ Aside0 (Two g h w w') ∧ Aside0 (Kd.R Kd.string 9 w' w.heap.size (fun _ => True) v4 out) ∧ Aside0 (Kd.R (Kd.int .u32) 41 w' w.heap.size (fun _ => True) (.slice none 0 0) []) ∧ Aside0 (i = 0 → v4 = (.slice none 0 0)))
    case atStart => exact ⟨0, [], a, (.slice none 0 0), rfl, HL, ⟨rfl⟩, ⟨rfl⟩, ⟨HA1.out⟩, HR2, HX2, HT2, H42, H52, ⟨fun _ => rfl⟩⟩
    case round =>
      clear HL HR2 HX2 HT2 H42 H52 HA1
      obtain ⟨i, out, at', v4, rfl, HL, HK, HLen, HA, HR, HX, HT, H4, H5, HZ⟩ := hrel
      have he := HL.out
      obtain ⟨A4, c4, rfl⟩ := Kd.R_slice H4.out
      clear HL
      cases gk with
      | zero =>
        obtain rfl : i = n := by have := HK.out; omega
        have hq := HQ.out
        rw [← he] at hq
        have HE := Lib.hid (show dataN s k en [] (out, at') = R from hq)
        clear he hq HQ
        have x1 : wr.cell? ⟨h, 1, none⟩ = some (.int .u16 k) := (HX.out.cell 1).trans rfl
        have hE := (dataN_six (s := s) (en := en) (nums := []) (names := out) (a := at') K6.out).symm.trans HE.out
        rw [HNM.out.2] at hE
        clear HE
        go_wp2_with fail
        refine (numbers_calls (count := m) (z := 4) HR.out HS.out.1 HA.out.1 HA.out.2 HS.out.2.1 HS.out.2.2 HM.out (.inr rfl)).mono ?_
        intro e w2 ht
        have hE := (show (match numsR s ((4 : Nat) : Int) en m [] at' with | .error c => .error c | .ok (nums', a') => dataT s k en out nums' a') = R from hE)
        cases hn : numsR s ((4 : Nat) : Int) en m [] at' with
        | error d =>
          rw [hn] at hE
          obtain rfl := ht.bad d hn
          exact ⟨rfl, DataEnds.err hE.symm (HT.out.only ht.only)⟩
        | ok x =>
          obtain ⟨nums, a1⟩ := x
          rw [hn] at hE
          simp only [] at hE
          have k16 : ¬ k = 16 := by have := K6.out; omega
          have k0 : ¬ (shapeOf k).1 + (shapeOf k).2.1 = 0 := by rw [K6.out]; decide
          rw [dataT_none k16 k0, dataE_eq] at hE
          have k0' : ¬ i + m = 0 := by rw [HNM.out.1, HNM.out.2] at k0; exact k0
          have d0 : ((i : Int) + (m : Int) == 0) = false := beq_eq_false_iff_ne.mpr (by omega)
          have d16 : (k == 16) = false := beq_eq_false_iff_ne.mpr k16
          obtain ⟨v5, rfl, hp, hr2⟩ := ht.good nums a1 hn
          obtain ⟨A5, n5, c5, rfl⟩ := R_anyslice hp
          have hx2 := HX.out.only HR.out ht.only
          have y5 : w2.cell? ⟨h, 5, none⟩ = some (.slice none 0 0) := (hx2.cell 5).trans rfl
          have f5 : w2.frozen? ⟨h, 5, none⟩ = false := blk_frozen hx2 5
          have h42 := R_only H4.out HR.out (by decide) ht.only
          have HX4 := Aside0.mk (hx2.set5 (.slice A5 n5 c5))
          have HR4 := Aside0.mk (hr2.setx hx2 5 (.slice A5 n5 c5))
          have HT4 := Aside0.mk ((HT.out.only ht.only).set 5 (.slice A5 n5 c5))
          have H54 := Aside0.mk (Kd.R_lower (Kd.R_set hp hx2 (by intro q hq; rw [show q = 41 by simpa [Kd.int, Kd.scalar] using hq]; decide) 5 (.slice A5 n5 c5)) HT.out.size)
          have H44 := Aside0.mk (Kd.R_set h42 hx2 (by decide) 5 (.slice A5 n5 c5))
          have x9 : w2.cell? ⟨h, 1, none⟩ = some (.int .u16 k) := (hx2.cell 1).trans rfl
          have H64 := Aside0.mk (Kd.R_nil Kd.string 9 (w2.setCell ⟨h, 5, none⟩ (.slice A5 n5 c5)) w.heap.size (fun _ => True))
          clear HR HX HT H4 H5 x1 k16 k0 k0' hr2 hp hx2 h42 ht hn
          have HR := HR4
          have HX := HX4
          have HT := HT4
          have H4 := H44
          have H5 := H54
          have z1 := HR.out.c1
          by_cases c9 : a1 = en
          · rw [if_pos c9] at hE
            have HE := Lib.hid hE
            have d9 : (a1 != en) = false := by rw [bne_eq_false_iff_eq]; exact c9
            clear hE c9
            go_wp2_with fail
            go_end0
            exact DataEnds.ok HE.out.symm HR.out HX.out H4.out H5.out H64.out HT.out
          · rw [if_neg c9] at hE
            have HE := Lib.hid hE
            have d9 : (a1 != en) = true := by rw [bne_iff_ne]; exact c9
            clear hE c9
            go_wp2_with fail
            exact ⟨rfl, DataEnds.err HE.out.symm HT.out⟩
      | succ gk =>
        unfold namesR at he
        have q1 : (i : Int) < (n : Int) := by have := HK.out; omega
        have hne := HX.out.ne HR.out
        have y1 : wr.cell? ⟨h, 1, none⟩ = some (.int .u16 k) := (HX.out.cell 1).trans rfl
        have y4 : wr.cell? ⟨h, 4, none⟩ = some (.slice A4 out.length c4) := (HX.out.cell 4).trans rfl
        go_wp2_with fail
        refine start_ (n := 17) (S := fun w' => w'.cell? ⟨h, 1, none⟩ = some (.int .u16 k) ∧ w'.cell? ⟨h, 4, none⟩ = some (.slice A4 out.length c4)) (ds := [16]) (Array.replicate 17 false) (by kernel_rfl) (by kernel_rfl) rfl ⟨y1, y4⟩ (fun hS => ?_)
        refine dpure 0 (some 34) rfl rfl (by kernel_rfl) (fun _ _ _ h => h) (by rfl) (v := ?_) (a' := ?_) ?_ ?_ ?_
        rotate_left 2
        · intro w'; go_simp; with_reducible rfl
        · simp only [Act.put, List.setIfInBounds_toArray, List.set_cons_zero, List.set_cons_succ]; rfl
        refine dpure 1 (some 35) rfl rfl (by kernel_rfl) (fun _ _ _ h => h) (by rfl) (v := ?_) (a' := ?_) ?_ ?_ ?_
        rotate_left 2
        · intro w'; go_simp; with_reducible rfl
        · simp only [Act.put, List.setIfInBounds_toArray, List.set_cons_zero, List.set_cons_succ]; rfl
        refine dpure 2 (some 36) rfl rfl (by kernel_rfl) (fun _ _ _ h => h) (by rfl) (v := ?_) (a' := ?_) ?_ ?_ ?_
        rotate_left 2
        · intro w'; go_simp; with_reducible rfl
        · simp only [Act.put, List.setIfInBounds_toArray, List.set_cons_zero, List.set_cons_succ]; rfl
        refine dpure 3 (some 37) rfl rfl (by kernel_rfl) (fun _ _ _ h => h) (by rfl) (v := ?_) (a' := ?_) ?_ ?_ ?_
        rotate_left 2
        · intro w'; go_simp; with_reducible rfl
        · simp only [Act.put, List.setIfInBounds_toArray, List.set_cons_zero, List.set_cons_succ]; rfl
        refine dtake 4 (some 38) rfl rfl (by kernel_rfl) (fun _ _ _ h => h) (by rfl) hS (v := ?_) (a' := ?_) ?_ ?_ ?_
        rotate_left 2
        · rintro w' ⟨s0,s1⟩; go_simp; with_reducible rfl
        · simp only [Act.put, List.setIfInBounds_toArray, List.set_cons_zero, List.set_cons_succ]; rfl
        refine dpure 5 (some 39) rfl rfl (by kernel_rfl) (fun _ _ _ h => h) (by rfl) (v := ?_) (a' := ?_) ?_ ?_ ?_
        rotate_left 2
        · intro w'; go_simp; with_reducible rfl
        · simp only [Act.put, List.setIfInBounds_toArray, List.set_cons_zero, List.set_cons_succ]; rfl
        refine dpure 6 (some 40) rfl rfl (by kernel_rfl) (fun _ _ _ h => h) (by rfl) (v := ?_) (a' := ?_) ?_ ?_ ?_
        rotate_left 2
        · intro w'; go_simp; with_reducible rfl
        · simp only [Act.put, List.setIfInBounds_toArray, List.set_cons_zero, List.set_cons_succ]; rfl
        refine dpure 7 (some 41) rfl rfl (by kernel_rfl) (fun _ _ _ h => h) (by rfl) (v := ?_) (a' := ?_) ?_ ?_ ?_
        rotate_left 2
        · intro w'; go_simp; with_reducible rfl
        · simp only [Act.put, List.setIfInBounds_toArray, List.set_cons_zero, List.set_cons_succ]; rfl
        refine dpure 8 (some 42) rfl rfl (by kernel_rfl) (fun _ _ _ h => h) (by rfl) (v := ?_) (a' := ?_) ?_ ?_ ?_
        rotate_left 2
        · intro w'; go_simp; with_reducible rfl
        · simp only [Act.put, List.setIfInBounds_toArray, List.set_cons_zero, List.set_cons_succ]; rfl
        refine dtake 9 (some 43) rfl rfl (by kernel_rfl) (fun _ _ _ h => h) (by rfl) hS (v := ?_) (a' := ?_) ?_ ?_ ?_
        rotate_left 2
        · rintro w' ⟨s0,s1⟩; go_simp; with_reducible rfl
        · simp only [Act.put, List.setIfInBounds_toArray, List.set_cons_zero, List.set_cons_succ]; rfl
        refine dpure 10 (some 44) rfl rfl (by kernel_rfl) (fun _ _ _ h => h) (by rfl) (v := ?_) (a' := ?_) ?_ ?_ ?_
        rotate_left 2
        · intro w'; go_simp; with_reducible rfl
        · simp only [Act.put, List.setIfInBounds_toArray, List.set_cons_zero, List.set_cons_succ]; rfl
        refine done1 11 (some 45) rfl rfl (by kernel_rfl) (by decide) (fun K hK => ?_)
        refine goesp_ Try.func87 (by kernel_rfl) rfl #[.pointer (some ⟨g, 0, none⟩), .int .u16 k, .int .i64 en] (by rfl) rfl rfl (by kernel_rfl) ?_
        refine (within_calls (w := wr.drew) HR.out HS.out.1 HA.out.1 HA.out.2 HS.out.2.1 HS.out.2.2).mono ?_
        intro e w2 ht
        have ho : Only g wr w2 := ⟨ht.only.os, ht.only.tape, ht.only.output, ht.only.size, ht.only.block⟩
        have hx2 := HX.out.only HR.out ho
        have ht2 := HT.out.only ho
        have h42 := R_only H4.out HR.out (by decide) ho
        have h52 := R_only H5.out HR.out (by decide) ho
        cases hw : withinF s k at' en with
        | error d =>
          rw [hw] at he
          obtain rfl := ht.bad d hw
          have hq := HQ.out
          rw [← he] at hq
          exact .inr ⟨_, rfl, rfl, DataEnds.err hq.symm ht2⟩
        | ok x =>
          obtain ⟨b, a2⟩ := x
          rw [hw] at he
          obtain ⟨rfl, hr2⟩ := ht.good b a2 hw
          have HL := Aside0.mk he
          have HA2 := Aside0.mk (within_at hw)
          refine .inl ⟨_, rfl, ?_⟩
          clear ho ht hw he
          have hne4 := fun (u : Kd.R Kd.string 9 w2 w.heap.size (fun _ => True) (.slice A4 out.length c4) out) => Kd.R_ne u hx2 (by decide)
          refine hK.out _ _ ⟨(hx2.cell 1).trans rfl, (hx2.cell 4).trans rfl⟩ (fun hS => ?_)
          clear hK K
          refine norm_ (a' := ?_) ?_ ?_
          rotate_left
          · simp only [Act.put, List.setIfInBounds_toArray, List.set_cons_zero, List.set_cons_succ]; rfl
          refine done1 12 (some 46) rfl rfl (by kernel_rfl) (by decide) (fun K hK => ?_)
          refine event_step (by kernel_rfl) (v := .slice (some ⟨w2.heap.size, 0, none⟩) 1 1) (w1 := w2.alloc (.cells #[.string (strOfNums b)] 9)) (by go_simp; done) ?_
          refine hK.out _ _ ⟨(blk_cell (blk_below hx2 (below_alloc (Below.refl _ _) _)) 1).trans rfl, (blk_cell (blk_below hx2 (below_alloc (Below.refl _ _) _)) 4).trans rfl⟩ (fun hS => ?_)
          clear hK K
          refine norm_ (a' := ?_) ?_ ?_
          rotate_left
          · simp only [Act.put, List.setIfInBounds_toArray, List.set_cons_zero, List.set_cons_succ]; rfl
          refine done1 13 (some 47) rfl rfl (by kernel_rfl) (by decide) (fun K hK => ?_)
          refine Kd.R_append_step Kd.string (w0 := w2) w.heap.size (by kernel_rfl) (.tmp 38) (.tmp 46) 40 9 (.string ⟨#[]⟩) 16 (by rfl) Try.underlying40 infoS rfl (by decide) (by decide) (.slice A4 out.length c4) out (strOfNums b) [.string (strOfNums b)] (fun _ => True) (fun _ => False) (by rfl) (by rfl) rfl (fun _ hk => hk.elim) (fun _ _ => trivial) h42 (Below.refl _ _) ht2.size (by have := HLen.out; have := HK.out; omega) ?_
          intro v3 w3 ho3 hb3 hg3 _
          obtain ⟨A3, n3, c3, rfl⟩ := R_anyslice ho3
          have hx3 : XAt w3 h f0 k c t _ _ _ := blk_grown hx2 hg3 (hne4 h42)
          have hr3 : RAt w3 g s a2 := blk_grown hr2 hg3 (Kd.R_ne h42 hr2 (by decide))
          have h53 := Kd.R_over h52 h42 (by decide) hg3
          have ht3 := ht2.of_grown hg3 (Kd.R_base h42)
          have y4' : w3.cell? ⟨h, 4, none⟩ = some (.slice A4 out.length c4) := (hx3.cell 4).trans rfl
          have f4 : w3.frozen? ⟨h, 4, none⟩ = false := blk_frozen hx3 4
          refine hK.out _ _ ⟨(hx3.cell 1).trans rfl, y4'⟩ (fun hS => ?_)
          clear hK K
          refine norm_ (a' := ?_) ?_ ?_
          rotate_left
          · simp only [Act.put, List.setIfInBounds_toArray, List.set_cons_zero, List.set_cons_succ]; rfl
          refine dpure 14 (some 48) rfl rfl (by kernel_rfl) (fun _ _ _ h => h) (by rfl) (v := ?_) (a' := ?_) ?_ ?_ ?_
          rotate_left 2
          · intro w'; go_simp; with_reducible rfl
          · simp only [Act.put, List.setIfInBounds_toArray, List.set_cons_zero, List.set_cons_succ]; rfl
          refine dpure 15 (some 49) rfl rfl (by kernel_rfl) (fun _ _ _ h => h) (by rfl) (v := ?_) (a' := ?_) ?_ ?_ ?_
          rotate_left 2
          · intro w'; go_simp; with_reducible rfl
          · simp only [Act.put, List.setIfInBounds_toArray, List.set_cons_zero, List.set_cons_succ]; rfl
          refine dlast 16 (Array.getElem?_eq_getElem (by decide)) (by kernel_rfl) (List.mem_singleton.2 rfl) ?_
          intro K hK
          refine dskip (w1 := w3.setCell ⟨h, 4, none⟩ (.slice A3 n3 c3)) (by kernel_rfl) (by kernel_rfl) ?_ ?_
          · go_simp
          refine hK.out _ _ (done_ (by kernel_rfl) ?_)
          clear hK K
          have HX4 := Aside0.mk (hx3.set4 (.slice A3 n3 c3))
          have HR4 := Aside0.mk (hr3.setx hx3 4 (.slice A3 n3 c3))
          have HT4 := Aside0.mk (ht3.set 4 (.slice A3 n3 c3))
          have H44 := Aside0.mk (Kd.R_set ho3 hx3 (by decide) 4 (.slice A3 n3 c3))
          have H54 := Aside0.mk (Kd.R_set h53 hx3 (by decide) 4 (.slice A3 n3 c3))
          clear hx3 hr3 h53 ht3 ho3 hb3 hg3 hx2 ht2 h42 h52 hr2 hne4 y4' y1 y4 hne f4
          go_wp2_with fail
          go_roundg gk
          case measure => omega
          case rel => exact ⟨i + 1, _, a2, _, by go_num, HL, ⟨by have := HK.out; omega⟩, ⟨by have := HLen.out; rw [List.length_append, List.length_singleton]; omega⟩, HA2, HR4, HX4, HT4, H44, H54, ⟨fun h => absurd h (by omega)⟩⟩
  · rw [if_neg k6] at hR
    have d6 : (k != 6) = true := by rw [bne_iff_ne]; exact k6
    have d7 : (k == 6) = false := beq_eq_false_iff_ne.mpr k6
    have K6 := Lib.hid k6
    clear k6
    go_enter Try.func83, Try.ntmps83
    go_wp2_with fail
    refine (Shape_calls k _).mono ?_
    rw [HSh.out]
    rintro e w1 ⟨rfl, rfl⟩
    go_wp2_with fail
    refine (numbers_calls (count := m) (z := 2) HR.out HS.out.1 HA.out.1 HA.out.2 HS.out.2.1 HS.out.2.2 HM.out (.inl rfl)).mono ?_
    intro e w2 ht
    cases hn : numsR s 2 en m [] a with
    | error d =>
      rw [hn] at hR
      obtain rfl := ht.bad d hn
      exact ⟨rfl, DataEnds.err hR.symm (HT.out.only ht.only)⟩
    | ok x =>
      obtain ⟨nums, a1⟩ := x
      rw [hn] at hR
      obtain ⟨v5, rfl, hp, hr2⟩ := ht.good nums a1 hn
      obtain ⟨A5, c5, rfl⟩ := Kd.R_slice hp
      have hx2 := HX.out.only HR.out ht.only
      have y5 : w2.cell? ⟨h, 5, none⟩ = some (.slice none 0 0) := (hx2.cell 5).trans rfl
      have f5 : w2.frozen? ⟨h, 5, none⟩ = false := blk_frozen hx2 5
      have HE := Lib.hid hR
      have HA1 := Lib.hid (numsR_at _ hn HA.out)
      have HX2 := Aside0.mk (hx2.set5 (.slice A5 nums.length c5))
      have HR2 := Aside0.mk (hr2.setx hx2 5 (.slice A5 nums.length c5))
      have HT2 := Aside0.mk ((HT.out.only ht.only).set 5 (.slice A5 nums.length c5))
      have H52 := Aside0.mk (Kd.R_set hp hx2 (by intro q hq; rw [show q = 41 by simpa [Kd.int, Kd.scalar] using hq]; decide) 5 (.slice A5 nums.length c5))
      have H42 := Aside0.mk (Kd.R_nil Kd.string 9 (w2.setCell ⟨h, 5, none⟩ (.slice A5 nums.length c5)) w.heap.size (fun _ => True))
      clear hr2 hx2 hp ht x1 hR hn
      go_wp2_with fail
      have HQ := Aside0.mk (show (match namesR s k en n [] a1 with | .error c => .error c | .ok x => dataN s k en nums x) = R by rw [← HE.out]; unfold dataM; rw [HNM.out.1])
      obtain ⟨RN, hRN⟩ : ∃ RN, namesR s k en n [] a1 = RN := ⟨_, rfl⟩
      rw [hRN] at HQ
      have HL := Aside0.mk hRN
      clear hRN HE
      go_loopg [32] n (fun kq v32 w' => ∃ (i : Nat) (out : List ByteArray) (at' : Int) (v4 : Value), v32 = .int .i64 i ∧ Aside0 (namesR s k en kq out at' = RN) ∧ Aside0 (kq + i = n) ∧ Aside0 (out.length = i) ∧ Aside0 (0 ≤ at' ∧ at' ≤ s.size) ∧ Aside0 (RAt w' g s at') ∧ Aside0 (XAt w' h f0 k c t v4 (.slice A5 nums.length c5) (.slice none 0 0)) ∧ Aside0 (Two g h w w') ∧ Aside0 (Kd.R Kd.string 9 w' w.heap.size (fun _ => True) v4 out) ∧ Aside0 (Kd.R (Kd.int .u32) 41 w' w.heap.size (fun _ => True) (.slice A5 nums.length c5) nums) ∧ Aside0 (i = 0 → v4 = (.slice none 0 0)))
      case atStart => exact ⟨0, [], a1, (.slice none 0 0), rfl, HL, ⟨rfl⟩, ⟨rfl⟩, ⟨HA1.out⟩, HR2, HX2, HT2, H42, H52, ⟨fun _ => rfl⟩⟩
      case round =>
        clear HL HR2 HX2 HT2 H42 H52 HA1
        obtain ⟨i, out, at', v4, rfl, HL, HK, HLen, HA, HR, HX, HT, H4, H5, HZ⟩ := hrel
        have he := HL.out
        obtain ⟨A4, c4, rfl⟩ := Kd.R_slice H4.out
        clear HL
        cases gk with
        | zero =>
          obtain rfl : i = n := by have := HK.out; omega
          have hq := HQ.out
          rw [← he] at hq
          have HE := Lib.hid (show dataN s k en nums (out, at') = R from hq)
          clear he hq HQ
          have x1 : wr.cell? ⟨h, 1, none⟩ = some (.int .u16 k) := (HX.out.cell 1).trans rfl
          have hE := (dataN_not (s := s) (en := en) (nums := nums) (names := out) (a := at') K6.out).symm.trans HE.out
          clear HE
          by_cases k16 : k = 16
          · rw [dataT_txt k16] at hE
            have d16 : (k == 16) = true := beq_iff_eq.mpr k16
            have i0 : i = 0 := by have := HNM.out.1; rw [k16] at this; exact this.symm
            have hv4 := HZ.out i0
            injection hv4 with hv1 hv2 hv3
            obtain rfl : out = [] := List.length_eq_zero_iff.1 hv2
            subst hv1
            subst hv3
            clear hv2
            obtain ⟨RT, hRT⟩ : ∃ RT, textsR s en ((en - at').toNat + 1) [] at' = RT := ⟨_, rfl⟩
            rw [hRT] at hE
            have HE := Lib.hid hE
            have HL := Aside0.mk hRT
            have H6 := Aside0.mk (Kd.R_nil Kd.string 9 wr w.heap.size (fun _ => True))
            clear hE hRT k16
            go_wp2_with fail
            clear x1 H4
            go_loopg [9] ((en - at').toNat + 1) (fun kq v9 w' => ∃ (txt : List ByteArray) (p : Int) (v6 : Value), Aside0 (textsR s en kq txt p = RT) ∧ Aside0 ((en - p).toNat < kq) ∧ Aside0 (0 ≤ p ∧ p ≤ s.size) ∧ Aside0 ((txt.length : Int) ≤ p) ∧ Aside0 (RAt w' g s p) ∧ Aside0 (XAt w' h f0 k c t (.slice none 0 0) (.slice A5 nums.length c5) v6) ∧ Aside0 (Two g h w w') ∧ Aside0 (Kd.R Kd.string 9 w' w.heap.size (fun _ => True) v6 txt) ∧ Aside0 (Kd.R (Kd.int .u32) 41 w' w.heap.size (fun _ => True) (.slice A5 nums.length c5) nums))
            case atStart => exact ⟨[], at', (.slice none 0 0), HL, ⟨Nat.lt_succ_self _⟩, HA, ⟨by have := HA.out; simp; omega⟩, HR, HX, HT, H6, H5⟩
            case round =>
              clear HL HR HX HT H5 H6 HA
              obtain ⟨txt, p, v6, HL, HK2, HA, HTl, HR, HX, HT, H6, H5⟩ := hrel
              obtain ⟨gk, rfl⟩ : ∃ q, gk = q + 1 := ⟨gk - 1, by have := HK2.out; omega⟩
              have hl := HL.out
              unfold textsR at hl
              clear HL
              have z1 := HR.out.c1
              obtain ⟨a0, a9⟩ := HA.out
              have q9 : p ≤ 1000000 := by have := HS.out.1; omega
              by_cases c1 : p < en
              · rw [if_pos c1] at hl
                have d1 : decide (p < en) = true := decide_eq_true c1
                cases h1 : getF s p 1 with
                | none =>
                  rw [h1] at hl
                  have H1 := Lib.hid h1
                  have hE := HE.out
                  rw [← hl] at hE
                  have HE := Lib.hid hE
                  clear hl h1 hE
                  go_wp2_with fail
                  refine (num_no HR.out HS.out.1 H1.out).mono ?_
                  rintro e w2 ⟨rfl, ho⟩
                  exact ⟨rfl, DataEnds.err HE.out.symm (HT.out.only ho)⟩
                | some m1 =>
                  rw [h1] at hl
                  simp only [] at hl
                  have H1 := Lib.hid h1
                  obtain ⟨m10, m11, _, m12⟩ := get1 h1
                  have hwm : IntKind.i64.wrap m1 = m1 := by rw [IntKind.wrap_i64]; omega
                  have C1 := Lib.hid c1
                  clear h1 c1
                  go_wp2_with fail
                  refine (num_yes HR.out HS.out.1 H1.out).mono ?_
                  rintro e w2 ⟨rfl, hr, ho⟩
                  have HX2 := Aside0.mk (HX.out.only HR.out ho)
                  have HT2 := Aside0.mk (HT.out.only ho)
                  have H62 := Aside0.mk (R_only H6.out HR.out (by decide) ho)
                  have H52 := Aside0.mk (R_only H5.out HR.out (by decide) ho)
                  have HR2 := Aside0.mk hr
                  have z2 := hr.c1
                  clear z1 hr ho HR HX HT H6 H5
                  by_cases c2 : en - (p + 1) < m1
                  · rw [if_pos c2] at hl
                    have d2 : decide (en - (p + 1) < m1) = true := decide_eq_true c2
                    have hE := HE.out
                    rw [← hl] at hE
                    have HE := Lib.hid hE
                    clear hl hE c2
                    go_wp2_with fail
                    exact ⟨rfl, DataEnds.err HE.out.symm HT2.out⟩
                  rw [if_neg c2] at hl
                  have d2 : decide (en - (p + 1) < m1) = false := decide_eq_false c2
                  obtain ⟨A6, n6, c6, rfl⟩ := R_anyslice H62.out
                  have y6 : w2.cell? ⟨h, 6, none⟩ = some (.slice A6 n6 c6) := (HX2.out.cell 6).trans rfl
                  clear c2
                  go_wp2_with fail
                  refine start_ (n := 13) (S := fun w' => w'.cell? ⟨h, 6, none⟩ = some (.slice A6 n6 c6)) (ds := [12]) (Array.replicate 13 false) (by kernel_rfl) (by kernel_rfl) rfl (by exact y6) (fun hS => ?_)
                  refine dpure 0 (some 87) rfl rfl (by kernel_rfl) (fun _ _ _ h => h) (by rfl) (v := ?_) (a' := ?_) ?_ ?_ ?_
                  rotate_left 2
                  · intro w'; go_simp; with_reducible rfl
                  · simp only [Act.put, List.setIfInBounds_toArray, List.set_cons_zero, List.set_cons_succ]; rfl
                  refine dpure 1 (some 88) rfl rfl (by kernel_rfl) (fun _ _ _ h => h) (by rfl) (v := ?_) (a' := ?_) ?_ ?_ ?_
                  rotate_left 2
                  · intro w'; go_simp; with_reducible rfl
                  · simp only [Act.put, List.setIfInBounds_toArray, List.set_cons_zero, List.set_cons_succ]; rfl
                  refine dpure 2 (some 89) rfl rfl (by kernel_rfl) (fun _ _ _ h => h) (by rfl) (v := ?_) (a' := ?_) ?_ ?_ ?_
                  rotate_left 2
                  · intro w'; go_simp; with_reducible rfl
                  · simp only [Act.put, List.setIfInBounds_toArray, List.set_cons_zero, List.set_cons_succ]; rfl
                  refine dpure 3 (some 90) rfl rfl (by kernel_rfl) (fun _ _ _ h => h) (by rfl) (v := ?_) (a' := ?_) ?_ ?_ ?_
                  rotate_left 2
                  · intro w'; go_simp; with_reducible rfl
                  · simp only [Act.put, List.setIfInBounds_toArray, List.set_cons_zero, List.set_cons_succ]; rfl
                  refine dtake 4 (some 91) rfl rfl (by kernel_rfl) (fun _ _ _ h => h) (by rfl) hS (v := ?_) (a' := ?_) ?_ ?_ ?_
                  rotate_left 2
                  · rintro w' s0; go_simp; with_reducible rfl
                  · simp only [Act.put, List.setIfInBounds_toArray, List.set_cons_zero, List.set_cons_succ]; rfl
                  refine dpure 5 (some 92) rfl rfl (by kernel_rfl) (fun _ _ _ h => h) (by rfl) (v := ?_) (a' := ?_) ?_ ?_ ?_
                  rotate_left 2
                  · intro w'; go_simp; with_reducible rfl
                  · simp only [Act.put, List.setIfInBounds_toArray, List.set_cons_zero, List.set_cons_succ]; rfl
                  refine dpure 6 (some 93) rfl rfl (by kernel_rfl) (fun _ _ _ h => h) (by rfl) (v := ?_) (a' := ?_) ?_ ?_ ?_
                  rotate_left 2
                  · intro w'; go_simp; with_reducible rfl
                  · simp only [Act.put, List.setIfInBounds_toArray, List.set_cons_zero, List.set_cons_succ]; rfl
                  cases h3 : partF s (p + 1) m1 with
                  | none =>
                    rw [h3] at hl
                    have hE := HE.out
                    rw [← hl] at hE
                    refine done1 7 (some 94) rfl rfl (by kernel_rfl) (by decide) (fun K hK => ?_)
                    refine goesp_ Try.func67 (by kernel_rfl) rfl #[.pointer (some ⟨g, 0, none⟩), .int .i64 m1] (by rfl) rfl rfl (by kernel_rfl) ?_
                    refine (text_no (w := w2.drew) HR2.out HS.out.1 h3).mono ?_
                    rintro e w3 ⟨rfl, ho⟩
                    exact .inr ⟨_, rfl, rfl, DataEnds.err hE.symm (HT2.out.drew.only ho)⟩
                  | some tx =>
                    rw [h3] at hl
                    have HL := Aside0.mk hl
                    have HA2 := Aside0.mk (show 0 ≤ p + 1 + m1 ∧ p + 1 + m1 ≤ s.size by have := part_at h3; omega)
                    clear hl
                    refine done1 7 (some 94) rfl rfl (by kernel_rfl) (by decide) (fun K hK => ?_)
                    refine goes_ Try.func67 (by kernel_rfl) rfl #[.pointer (some ⟨g, 0, none⟩), .int .i64 m1] (by rfl) rfl rfl (by kernel_rfl) ?_
                    refine (text_yes (w := w2.drew) HR2.out HS.out.1 h3).mono ?_
                    rintro e w4 ⟨rfl, hr2, ho⟩
                    refine ⟨_, rfl, ?_⟩
                    have hx2 := XAt.only (w := w2.drew) HX2.out HR2.out ho
                    have ht2 := HT2.out.drew.only ho
                    have h62 := R_only (w := w2.drew) (Kd.R_drew H62.out) HR2.out (by decide) ho
                    have h52 := R_only (w := w2.drew) (Kd.R_drew H52.out) HR2.out (by decide) ho
                    refine hK.out _ _ ((hx2.cell 6).trans rfl) (fun hS => ?_)
                    clear hK K
                    refine norm_ (a' := ?_) ?_ ?_
                    rotate_left
                    · simp only [Act.put, List.setIfInBounds_toArray, List.set_cons_zero, List.set_cons_succ]; rfl
                    refine done1 8 (some 95) rfl rfl (by kernel_rfl) (by decide) (fun K hK => ?_)
                    refine event_step (by kernel_rfl) (v := .slice (some ⟨w4.heap.size, 0, none⟩) 1 1) (w1 := w4.alloc (.cells #[.string tx] 9)) (by go_simp; done) ?_
                    refine hK.out _ _ ((blk_cell (blk_below hx2 (below_alloc (Below.refl _ _) _)) 6).trans rfl) (fun hS => ?_)
                    clear hK K
                    refine norm_ (a' := ?_) ?_ ?_
                    rotate_left
                    · simp only [Act.put, List.setIfInBounds_toArray, List.set_cons_zero, List.set_cons_succ]; rfl
                    refine done1 9 (some 96) rfl rfl (by kernel_rfl) (by decide) (fun K hK => ?_)
                    refine Kd.R_append_step Kd.string (w0 := w4) w.heap.size (by kernel_rfl) (.tmp 91) (.tmp 95) 40 9 (.string ⟨#[]⟩) 16 (by rfl) Try.underlying40 infoS rfl (by decide) (by decide) (.slice A6 n6 c6) txt tx [.string tx] (fun _ => True) (fun _ => False) (by rfl) (by rfl) rfl (fun _ hk => hk.elim) (fun _ _ => trivial) h62 (Below.refl _ _) ht2.size (by have := HTl.out; omega) ?_
                    intro v3 w3 ho3 hb3 hg3 _
                    obtain ⟨A3, n3, c3, rfl⟩ := R_anyslice ho3
                    have hx3 : XAt w3 h f0 k c t _ _ _ := blk_grown hx2 hg3 (Kd.R_ne h62 hx2 (by decide))
                    have hr3 : RAt w3 g s (p + 1 + m1) := blk_grown hr2 hg3 (Kd.R_ne h62 hr2 (by decide))
                    have h53 := Kd.R_over h52 h62 (by decide) hg3
                    have ht3 := ht2.of_grown hg3 (Kd.R_base h62)
                    have f6 : w3.frozen? ⟨h, 6, none⟩ = false := blk_frozen hx3 6
                    have y6' : w3.cell? ⟨h, 6, none⟩ = some (.slice A6 n6 c6) := (hx3.cell 6).trans rfl
                    refine hK.out _ _ y6' (fun hS => ?_)
                    clear hK K
                    refine norm_ (a' := ?_) ?_ ?_
                    rotate_left
                    · simp only [Act.put, List.setIfInBounds_toArray, List.set_cons_zero, List.set_cons_succ]; rfl
                    refine dpure 10 (some 97) rfl rfl (by kernel_rfl) (fun _ _ _ h => h) (by rfl) (v := ?_) (a' := ?_) ?_ ?_ ?_
                    rotate_left 2
                    · intro w'; go_simp; with_reducible rfl
                    · simp only [Act.put, List.setIfInBounds_toArray, List.set_cons_zero, List.set_cons_succ]; rfl
                    refine dpure 11 (some 98) rfl rfl (by kernel_rfl) (fun _ _ _ h => h) (by rfl) (v := ?_) (a' := ?_) ?_ ?_ ?_
                    rotate_left 2
                    · intro w'; go_simp; with_reducible rfl
                    · simp only [Act.put, List.setIfInBounds_toArray, List.set_cons_zero, List.set_cons_succ]; rfl
                    refine dlast 12 (Array.getElem?_eq_getElem (by decide)) (by kernel_rfl) (List.mem_singleton.2 rfl) ?_
                    intro K hK
                    refine dskip (w1 := w3.setCell ⟨h, 6, none⟩ (.slice A3 n3 c3)) (by kernel_rfl) (by kernel_rfl) ?_ ?_
                    · go_simp
                    refine hK.out _ _ (done_ (by kernel_rfl) ?_)
                    clear hK K
                    have HX := Aside0.mk (hx3.set6 (.slice A3 n3 c3))
                    have HR := Aside0.mk (hr3.setx hx3 6 (.slice A3 n3 c3))
                    have HT := Aside0.mk (ht3.set 6 (.slice A3 n3 c3))
                    have H6 := Aside0.mk (Kd.R_set ho3 hx3 (by decide) 6 (.slice A3 n3 c3))
                    have H5 := Aside0.mk (Kd.R_set h53 hx3 (by decide) 6 (.slice A3 n3 c3))
                    clear hx3 hr3 h53 ht3 ho3 hb3 hg3 hx2 ht2 h62 h52 hr2 f6
                    go_wp2_with fail
                    go_roundg gk
                    case measure => omega
                    case rel => exact ⟨_, p + 1 + m1, _, HL, ⟨by have := HK2.out; have := C1.out; omega⟩, HA2, ⟨by have := HTl.out; rw [List.length_append, List.length_singleton]; omega⟩, HR, HX, HT, H6, H5⟩
              · rw [if_neg c1] at hl
                have d1 : decide (p < en) = false := decide_eq_false c1
                have hE := HE.out
                rw [← hl] at hE
                simp only [dataE_eq] at hE
                have H4 := Aside0.mk (Kd.R_nil Kd.string 9 wr w.heap.size (fun _ => True))
                clear hl c1 z1
                have z1 := HR.out.c1
                by_cases c9 : p = en
                · rw [if_pos c9] at hE
                  have HE := Lib.hid hE
                  have d9 : (p != en) = false := by rw [bne_eq_false_iff_eq]; exact c9
                  clear hE c9
                  go_wp2_with fail
                  go_end0
                  exact DataEnds.ok HE.out.symm HR.out HX.out H4.out H5.out H6.out HT.out
                · rw [if_neg c9] at hE
                  have HE := Lib.hid hE
                  have d9 : (p != en) = true := by rw [bne_iff_ne]; exact c9
                  clear hE c9
                  go_wp2_with fail
                  exact ⟨rfl, DataEnds.err HE.out.symm HT.out⟩
          have d16 : (k == 16) = false := beq_eq_false_iff_ne.mpr k16
          have H6 := Aside0.mk (Kd.R_nil Kd.string 9 wr w.heap.size (fun _ => True))
          by_cases k0 : i + m = 0
          · rw [dataT_free k16 (by rw [HNM.out.1, HNM.out.2]; exact k0)] at hE
            have i0 : i = 0 := by omega
            have hv4 := HZ.out i0
            injection hv4 with hv1 hv2 hv3
            obtain rfl : out = [] := List.length_eq_zero_iff.1 hv2
            subst hv1
            subst hv3
            clear hv2
            have d0 : ((i : Int) + (m : Int) == 0) = true := beq_iff_eq.mpr (by omega)
            have hsub : IntKind.i64.wrap (en - at') = en - at' := by have := HA.out; have := HS.out; rw [IntKind.wrap_i64]; omega
            have y6 : wr.cell? ⟨h, 6, none⟩ = some (.slice none 0 0) := (HX.out.cell 6).trans rfl
            have z1 := HR.out.c1
            clear k16 k0 i0 H4
            go_wp2_with fail
            refine start_ (n := 18) (S := fun w' => w'.cell? ⟨h, 6, none⟩ = some (.slice none 0 0)) (ds := [17]) (Array.replicate 18 false) (by kernel_rfl) (by kernel_rfl) rfl (by exact y6) (fun hS => ?_)
            refine dpure 0 (some 104) rfl rfl (by kernel_rfl) (fun _ _ _ h => h) (by rfl) (v := ?_) (a' := ?_) ?_ ?_ ?_
            rotate_left 2
            · intro w'; go_simp; with_reducible rfl
            · simp only [Act.put, List.setIfInBounds_toArray, List.set_cons_zero, List.set_cons_succ]; rfl
            refine dpure 1 (some 105) rfl rfl (by kernel_rfl) (fun _ _ _ h => h) (by rfl) (v := ?_) (a' := ?_) ?_ ?_ ?_
            rotate_left 2
            · intro w'; go_simp; with_reducible rfl
            · simp only [Act.put, List.setIfInBounds_toArray, List.set_cons_zero, List.set_cons_succ]; rfl
            refine dpure 2 (some 106) rfl rfl (by kernel_rfl) (fun _ _ _ h => h) (by rfl) (v := ?_) (a' := ?_) ?_ ?_ ?_
            rotate_left 2
            · intro w'; go_simp; with_reducible rfl
            · simp only [Act.put, List.setIfInBounds_toArray, List.set_cons_zero, List.set_cons_succ]; rfl
            refine dpure 3 (some 107) rfl rfl (by kernel_rfl) (fun _ _ _ h => h) (by rfl) (v := ?_) (a' := ?_) ?_ ?_ ?_
            rotate_left 2
            · intro w'; go_simp; with_reducible rfl
            · simp only [Act.put, List.setIfInBounds_toArray, List.set_cons_zero, List.set_cons_succ]; rfl
            refine dtake 4 (some 108) rfl rfl (by kernel_rfl) (fun _ _ _ h => h) (by rfl) hS (v := ?_) (a' := ?_) ?_ ?_ ?_
            rotate_left 2
            · rintro w' s0; go_simp; with_reducible rfl
            · simp only [Act.put, List.setIfInBounds_toArray, List.set_cons_zero, List.set_cons_succ]; rfl
            refine dpure 5 (some 109) rfl rfl (by kernel_rfl) (fun _ _ _ h => h) (by rfl) (v := ?_) (a' := ?_) ?_ ?_ ?_
            rotate_left 2
            · intro w'; go_simp; with_reducible rfl
            · simp only [Act.put, List.setIfInBounds_toArray, List.set_cons_zero, List.set_cons_succ]; rfl
            refine dpure 6 (some 110) rfl rfl (by kernel_rfl) (fun _ _ _ h => h) (by rfl) (v := ?_) (a' := ?_) ?_ ?_ ?_
            rotate_left 2
            · intro w'; go_simp; with_reducible rfl
            · simp only [Act.put, List.setIfInBounds_toArray, List.set_cons_zero, List.set_cons_succ]; rfl
            refine dpure 7 (some 111) rfl rfl (by kernel_rfl) (fun _ _ _ h => h) (by rfl) (v := ?_) (a' := ?_) ?_ ?_ ?_
            rotate_left 2
            · intro w'; go_simp; with_reducible rfl
            · simp only [Act.put, List.setIfInBounds_toArray, List.set_cons_zero, List.set_cons_succ]; rfl
            refine dpure 8 (some 112) rfl rfl (by kernel_rfl) (fun _ _ _ h => h) (by rfl) (v := ?_) (a' := ?_) ?_ ?_ ?_
            rotate_left 2
            · intro w'; go_simp; with_reducible rfl
            · simp only [Act.put, List.setIfInBounds_toArray, List.set_cons_zero, List.set_cons_succ]; rfl
            refine dpure 9 (some 113) rfl rfl (by kernel_rfl) (fun _ _ _ h => h) (by rfl) (v := ?_) (a' := ?_) ?_ ?_ ?_
            rotate_left 2
            · intro w'; go_simp; with_reducible rfl
            · simp only [Act.put, List.setIfInBounds_toArray, List.set_cons_zero, List.set_cons_succ]; rfl
            refine done1 10 (some 114) rfl rfl (by kernel_rfl) (by decide) (fun K hK => ?_)
            refine event_step (by kernel_rfl) (v := .int .i64 at') (w1 := wr.drew) (by go_simp; done) ?_
            refine hK.out _ _ y6 (fun hS => ?_)
            clear hK K
            refine norm_ (a' := ?_) ?_ ?_
            rotate_left
            · simp only [Act.put, List.setIfInBounds_toArray, List.set_cons_zero, List.set_cons_succ]; rfl
            refine dpure 11 (some 115) rfl rfl (by kernel_rfl) (fun _ _ _ h => h) (by rfl) (v := .int .i64 (en - at')) (a' := ?_) ?_ ?_ ?_
            rotate_left 1
            · intro w'; go_simp; first | done | rw [hsub]
            · simp only [Act.put, List.setIfInBounds_toArray, List.set_cons_zero, List.set_cons_succ]; rfl
            cases h3 : partF s at' (en - at') with
            | none =>
              rw [h3] at hE
              refine done1 12 (some 116) rfl rfl (by kernel_rfl) (by decide) (fun K hK => ?_)
              refine goesp_ Try.func67 (by kernel_rfl) rfl #[.pointer (some ⟨g, 0, none⟩), .int .i64 (en - at')] (by rfl) rfl rfl (by kernel_rfl) ?_
              refine (text_no (w := wr.drew) HR.out HS.out.1 h3).mono ?_
              rintro e w3 ⟨rfl, ho⟩
              exact .inr ⟨_, rfl, rfl, DataEnds.err hE.symm (HT.out.drew.only ho)⟩
            | some tx =>
              rw [h3] at hE
              have HE := Lib.hid ((if_pos rfl).symm.trans hE : Except.ok (([], nums, [tx]), en) = R)
              clear hE
              refine done1 12 (some 116) rfl rfl (by kernel_rfl) (by decide) (fun K hK => ?_)
              refine goes_ Try.func67 (by kernel_rfl) rfl #[.pointer (some ⟨g, 0, none⟩), .int .i64 (en - at')] (by rfl) rfl rfl (by kernel_rfl) ?_
              refine (text_yes (w := wr.drew) HR.out HS.out.1 h3).mono ?_
              rintro e w4 ⟨rfl, hr2, ho⟩
              refine ⟨_, rfl, ?_⟩
              rw [show at' + (en - at') = en by omega] at hr2
              have hx2 := XAt.only (w := wr.drew) HX.out HR.out ho
              have ht2 := HT.out.drew.only ho
              have h62 := Kd.R_nil Kd.string 9 w4 w.heap.size (fun _ => True)
              have h52 := R_only (w := wr.drew) (Kd.R_drew H5.out) HR.out (by decide) ho
              refine hK.out _ _ ((hx2.cell 6).trans rfl) (fun hS => ?_)
              clear hK K
              refine norm_ (a' := ?_) ?_ ?_
              rotate_left
              · simp only [Act.put, List.setIfInBounds_toArray, List.set_cons_zero, List.set_cons_succ]; rfl
              refine done1 13 (some 117) rfl rfl (by kernel_rfl) (by decide) (fun K hK => ?_)
              refine event_step (by kernel_rfl) (v := .slice (some ⟨w4.heap.size, 0, none⟩) 1 1) (w1 := w4.alloc (.cells #[.string tx] 9)) (by go_simp; done) ?_
              refine hK.out _ _ ((blk_cell (blk_below hx2 (below_alloc (Below.refl _ _) _)) 6).trans rfl) (fun hS => ?_)
              clear hK K
              refine norm_ (a' := ?_) ?_ ?_
              rotate_left
              · simp only [Act.put, List.setIfInBounds_toArray, List.set_cons_zero, List.set_cons_succ]; rfl
              refine done1 14 (some 118) rfl rfl (by kernel_rfl) (by decide) (fun K hK => ?_)
              refine Kd.R_append_step Kd.string (w0 := w4) w.heap.size (by kernel_rfl) (.tmp 108) (.tmp 117) 40 9 (.string ⟨#[]⟩) 16 (by rfl) Try.underlying40 infoS rfl (by decide) (by decide) (.slice none 0 0) [] tx [.string tx] (fun _ => True) (fun _ => False) (by rfl) (by rfl) rfl (fun _ hk => hk.elim) (fun _ _ => trivial) h62 (Below.refl _ _) ht2.size (by decide) ?_
              intro v3 w3 ho3 hb3 hg3 _
              obtain ⟨A3, n3, c3, rfl⟩ := R_anyslice ho3
              have hx3 : XAt w3 h f0 k c t _ _ _ := blk_grown hx2 hg3 (Kd.R_ne h62 hx2 (by decide))
              have hr3 : RAt w3 g s (en) := blk_grown hr2 hg3 (Kd.R_ne h62 hr2 (by decide))
              have h53 := Kd.R_over h52 h62 (by decide) hg3
              have ht3 := ht2.of_grown hg3 (Kd.R_base h62)
              have f6 : w3.frozen? ⟨h, 6, none⟩ = false := blk_frozen hx3 6
              have y6' : w3.cell? ⟨h, 6, none⟩ = some (.slice none 0 0) := (hx3.cell 6).trans rfl
              refine hK.out _ _ y6' (fun hS => ?_)
              clear hK K
              refine norm_ (a' := ?_) ?_ ?_
              rotate_left
              · simp only [Act.put, List.setIfInBounds_toArray, List.set_cons_zero, List.set_cons_succ]; rfl
              refine dpure 15 (some 119) rfl rfl (by kernel_rfl) (fun _ _ _ h => h) (by rfl) (v := ?_) (a' := ?_) ?_ ?_ ?_
              rotate_left 2
              · intro w'; go_simp; with_reducible rfl
              · simp only [Act.put, List.setIfInBounds_toArray, List.set_cons_zero, List.set_cons_succ]; rfl
              refine dpure 16 (some 120) rfl rfl (by kernel_rfl) (fun _ _ _ h => h) (by rfl) (v := ?_) (a' := ?_) ?_ ?_ ?_
              rotate_left 2
              · intro w'; go_simp; with_reducible rfl
              · simp only [Act.put, List.setIfInBounds_toArray, List.set_cons_zero, List.set_cons_succ]; rfl
              refine dlast 17 (Array.getElem?_eq_getElem (by decide)) (by kernel_rfl) (List.mem_singleton.2 rfl) ?_
              intro K hK
              refine dskip (w1 := w3.setCell ⟨h, 6, none⟩ (.slice A3 n3 c3)) (by kernel_rfl) (by kernel_rfl) ?_ ?_
              · go_simp
              refine hK.out _ _ (done_ (by kernel_rfl) ?_)
              clear hK K
              have HX := Aside0.mk (hx3.set6 (.slice A3 n3 c3))
              have HR := Aside0.mk (hr3.setx hx3 6 (.slice A3 n3 c3))
              have HT := Aside0.mk (ht3.set 6 (.slice A3 n3 c3))
              have H6 := Aside0.mk (Kd.R_set ho3 hx3 (by decide) 6 (.slice A3 n3 c3))
              have H5 := Aside0.mk (Kd.R_set h53 hx3 (by decide) 6 (.slice A3 n3 c3))
              clear hx3 hr3 h53 ht3 ho3 hb3 hg3 hx2 ht2 h62 h52 hr2 f6
              have H4 := Aside0.mk (Kd.R_nil Kd.string 9 (w3.setCell ⟨h, 6, none⟩ (.slice A3 n3 c3)) w.heap.size (fun _ => True))
              have z1 := HR.out.c1
              have d9 : (en != en) = false := by rw [bne_eq_false_iff_eq]
              clear y6 y6'
              go_wp2_with fail
              go_end0
              exact DataEnds.ok HE.out.symm HR.out HX.out H4.out H5.out H6.out HT.out
          · rw [dataT_none k16 (by rw [HNM.out.1, HNM.out.2]; exact k0), dataE_eq] at hE
            have d0 : ((i : Int) + (m : Int) == 0) = false := beq_eq_false_iff_ne.mpr (by omega)
            clear k16 k0
            have z1 := HR.out.c1
            by_cases c9 : at' = en
            · rw [if_pos c9] at hE
              have HE := Lib.hid hE
              have d9 : (at' != en) = false := by rw [bne_eq_false_iff_eq]; exact c9
              clear hE c9
              go_wp2_with fail
              go_end0
              exact DataEnds.ok HE.out.symm HR.out HX.out H4.out H5.out H6.out HT.out
            · rw [if_neg c9] at hE
              have HE := Lib.hid hE
              have d9 : (at' != en) = true := by rw [bne_iff_ne]; exact c9
              clear hE c9
              go_wp2_with fail
              exact ⟨rfl, DataEnds.err HE.out.symm HT.out⟩
        | succ gk =>
          unfold namesR at he
          have q1 : (i : Int) < (n : Int) := by have := HK.out; omega
          have hne := HX.out.ne HR.out
          have y1 : wr.cell? ⟨h, 1, none⟩ = some (.int .u16 k) := (HX.out.cell 1).trans rfl
          have y4 : wr.cell? ⟨h, 4, none⟩ = some (.slice A4 out.length c4) := (HX.out.cell 4).trans rfl
          go_wp2_with fail
          refine start_ (n := 17) (S := fun w' => w'.cell? ⟨h, 1, none⟩ = some (.int .u16 k) ∧ w'.cell? ⟨h, 4, none⟩ = some (.slice A4 out.length c4)) (ds := [16]) (Array.replicate 17 false) (by kernel_rfl) (by kernel_rfl) rfl ⟨y1, y4⟩ (fun hS => ?_)
          refine dpure 0 (some 34) rfl rfl (by kernel_rfl) (fun _ _ _ h => h) (by rfl) (v := ?_) (a' := ?_) ?_ ?_ ?_
          rotate_left 2
          · intro w'; go_simp; with_reducible rfl
          · simp only [Act.put, List.setIfInBounds_toArray, List.set_cons_zero, List.set_cons_succ]; rfl
          refine dpure 1 (some 35) rfl rfl (by kernel_rfl) (fun _ _ _ h => h) (by rfl) (v := ?_) (a' := ?_) ?_ ?_ ?_
          rotate_left 2
          · intro w'; go_simp; with_reducible rfl
          · simp only [Act.put, List.setIfInBounds_toArray, List.set_cons_zero, List.set_cons_succ]; rfl
          refine dpure 2 (some 36) rfl rfl (by kernel_rfl) (fun _ _ _ h => h) (by rfl) (v := ?_) (a' := ?_) ?_ ?_ ?_
          rotate_left 2
          · intro w'; go_simp; with_reducible rfl
          · simp only [Act.put, List.setIfInBounds_toArray, List.set_cons_zero, List.set_cons_succ]; rfl
          refine dpure 3 (some 37) rfl rfl (by kernel_rfl) (fun _ _ _ h => h) (by rfl) (v := ?_) (a' := ?_) ?_ ?_ ?_
          rotate_left 2
          · intro w'; go_simp; with_reducible rfl
          · simp only [Act.put, List.setIfInBounds_toArray, List.set_cons_zero, List.set_cons_succ]; rfl
          refine dtake 4 (some 38) rfl rfl (by kernel_rfl) (fun _ _ _ h => h) (by rfl) hS (v := ?_) (a' := ?_) ?_ ?_ ?_
          rotate_left 2
          · rintro w' ⟨s0,s1⟩; go_simp; with_reducible rfl
          · simp only [Act.put, List.setIfInBounds_toArray, List.set_cons_zero, List.set_cons_succ]; rfl
          refine dpure 5 (some 39) rfl rfl (by kernel_rfl) (fun _ _ _ h => h) (by rfl) (v := ?_) (a' := ?_) ?_ ?_ ?_
          rotate_left 2
          · intro w'; go_simp; with_reducible rfl
          · simp only [Act.put, List.setIfInBounds_toArray, List.set_cons_zero, List.set_cons_succ]; rfl
          refine dpure 6 (some 40) rfl rfl (by kernel_rfl) (fun _ _ _ h => h) (by rfl) (v := ?_) (a' := ?_) ?_ ?_ ?_
          rotate_left 2
          · intro w'; go_simp; with_reducible rfl
          · simp only [Act.put, List.setIfInBounds_toArray, List.set_cons_zero, List.set_cons_succ]; rfl
          refine dpure 7 (some 41) rfl rfl (by kernel_rfl) (fun _ _ _ h => h) (by rfl) (v := ?_) (a' := ?_) ?_ ?_ ?_
          rotate_left 2
          · intro w'; go_simp; with_reducible rfl
          · simp only [Act.put, List.setIfInBounds_toArray, List.set_cons_zero, List.set_cons_succ]; rfl
          refine dpure 8 (some 42) rfl rfl (by kernel_rfl) (fun _ _ _ h => h) (by rfl) (v := ?_) (a' := ?_) ?_ ?_ ?_
          rotate_left 2
          · intro w'; go_simp; with_reducible rfl
          · simp only [Act.put, List.setIfInBounds_toArray, List.set_cons_zero, List.set_cons_succ]; rfl
          refine dtake 9 (some 43) rfl rfl (by kernel_rfl) (fun _ _ _ h => h) (by rfl) hS (v := ?_) (a' := ?_) ?_ ?_ ?_
          rotate_left 2
          · rintro w' ⟨s0,s1⟩; go_simp; with_reducible rfl
          · simp only [Act.put, List.setIfInBounds_toArray, List.set_cons_zero, List.set_cons_succ]; rfl
          refine dpure 10 (some 44) rfl rfl (by kernel_rfl) (fun _ _ _ h => h) (by rfl) (v := ?_) (a' := ?_) ?_ ?_ ?_
          rotate_left 2
          · intro w'; go_simp; with_reducible rfl
          · simp only [Act.put, List.setIfInBounds_toArray, List.set_cons_zero, List.set_cons_succ]; rfl
          refine done1 11 (some 45) rfl rfl (by kernel_rfl) (by decide) (fun K hK => ?_)
          refine goesp_ Try.func87 (by kernel_rfl) rfl #[.pointer (some ⟨g, 0, none⟩), .int .u16 k, .int .i64 en] (by rfl) rfl rfl (by kernel_rfl) ?_
          refine (within_calls (w := wr.drew) HR.out HS.out.1 HA.out.1 HA.out.2 HS.out.2.1 HS.out.2.2).mono ?_
          intro e w2 ht
          have ho : Only g wr w2 := ⟨ht.only.os, ht.only.tape, ht.only.output, ht.only.size, ht.only.block⟩
          have hx2 := HX.out.only HR.out ho
          have ht2 := HT.out.only ho
          have h42 := R_only H4.out HR.out (by decide) ho
          have h52 := R_only H5.out HR.out (by decide) ho
          cases hw : withinF s k at' en with
          | error d =>
            rw [hw] at he
            obtain rfl := ht.bad d hw
            have hq := HQ.out
            rw [← he] at hq
            exact .inr ⟨_, rfl, rfl, DataEnds.err hq.symm ht2⟩
          | ok x =>
            obtain ⟨b, a2⟩ := x
            rw [hw] at he
            obtain ⟨rfl, hr2⟩ := ht.good b a2 hw
            have HL := Aside0.mk he
            have HA2 := Aside0.mk (within_at hw)
            refine .inl ⟨_, rfl, ?_⟩
            clear ho ht hw he
            have hne4 := fun (u : Kd.R Kd.string 9 w2 w.heap.size (fun _ => True) (.slice A4 out.length c4) out) => Kd.R_ne u hx2 (by decide)
            refine hK.out _ _ ⟨(hx2.cell 1).trans rfl, (hx2.cell 4).trans rfl⟩ (fun hS => ?_)
            clear hK K
            refine norm_ (a' := ?_) ?_ ?_
            rotate_left
            · simp only [Act.put, List.setIfInBounds_toArray, List.set_cons_zero, List.set_cons_succ]; rfl
            refine done1 12 (some 46) rfl rfl (by kernel_rfl) (by decide) (fun K hK => ?_)
            refine event_step (by kernel_rfl) (v := .slice (some ⟨w2.heap.size, 0, none⟩) 1 1) (w1 := w2.alloc (.cells #[.string (strOfNums b)] 9)) (by go_simp; done) ?_
            refine hK.out _ _ ⟨(blk_cell (blk_below hx2 (below_alloc (Below.refl _ _) _)) 1).trans rfl, (blk_cell (blk_below hx2 (below_alloc (Below.refl _ _) _)) 4).trans rfl⟩ (fun hS => ?_)
            clear hK K
            refine norm_ (a' := ?_) ?_ ?_
            rotate_left
            · simp only [Act.put, List.setIfInBounds_toArray, List.set_cons_zero, List.set_cons_succ]; rfl
            refine done1 13 (some 47) rfl rfl (by kernel_rfl) (by decide) (fun K hK => ?_)
            refine Kd.R_append_step Kd.string (w0 := w2) w.heap.size (by kernel_rfl) (.tmp 38) (.tmp 46) 40 9 (.string ⟨#[]⟩) 16 (by rfl) Try.underlying40 infoS rfl (by decide) (by decide) (.slice A4 out.length c4) out (strOfNums b) [.string (strOfNums b)] (fun _ => True) (fun _ => False) (by rfl) (by rfl) rfl (fun _ hk => hk.elim) (fun _ _ => trivial) h42 (Below.refl _ _) ht2.size (by have := HLen.out; have := HK.out; omega) ?_
            intro v3 w3 ho3 hb3 hg3 _
            obtain ⟨A3, n3, c3, rfl⟩ := R_anyslice ho3
            have hx3 : XAt w3 h f0 k c t _ _ _ := blk_grown hx2 hg3 (hne4 h42)
            have hr3 : RAt w3 g s a2 := blk_grown hr2 hg3 (Kd.R_ne h42 hr2 (by decide))
            have h53 := Kd.R_over h52 h42 (by decide) hg3
            have ht3 := ht2.of_grown hg3 (Kd.R_base h42)
            have y4' : w3.cell? ⟨h, 4, none⟩ = some (.slice A4 out.length c4) := (hx3.cell 4).trans rfl
            have f4 : w3.frozen? ⟨h, 4, none⟩ = false := blk_frozen hx3 4
            refine hK.out _ _ ⟨(hx3.cell 1).trans rfl, y4'⟩ (fun hS => ?_)
            clear hK K
            refine norm_ (a' := ?_) ?_ ?_
            rotate_left
            · simp only [Act.put, List.setIfInBounds_toArray, List.set_cons_zero, List.set_cons_succ]; rfl
            refine dpure 14 (some 48) rfl rfl (by kernel_rfl) (fun _ _ _ h => h) (by rfl) (v := ?_) (a' := ?_) ?_ ?_ ?_
            rotate_left 2
            · intro w'; go_simp; with_reducible rfl
            · simp only [Act.put, List.setIfInBounds_toArray, List.set_cons_zero, List.set_cons_succ]; rfl
            refine dpure 15 (some 49) rfl rfl (by kernel_rfl) (fun _ _ _ h => h) (by rfl) (v := ?_) (a' := ?_) ?_ ?_ ?_
            rotate_left 2
            · intro w'; go_simp; with_reducible rfl
            · simp only [Act.put, List.setIfInBounds_toArray, List.set_cons_zero, List.set_cons_succ]; rfl
            refine dlast 16 (Array.getElem?_eq_getElem (by decide)) (by kernel_rfl) (List.mem_singleton.2 rfl) ?_
            intro K hK
            refine dskip (w1 := w3.setCell ⟨h, 4, none⟩ (.slice A3 n3 c3)) (by kernel_rfl) (by kernel_rfl) ?_ ?_
            · go_simp
            refine hK.out _ _ (done_ (by kernel_rfl) ?_)
            clear hK K
            have HX4 := Aside0.mk (hx3.set4 (.slice A3 n3 c3))
            have HR4 := Aside0.mk (hr3.setx hx3 4 (.slice A3 n3 c3))
            have HT4 := Aside0.mk (ht3.set 4 (.slice A3 n3 c3))
            have H44 := Aside0.mk (Kd.R_set ho3 hx3 (by decide) 4 (.slice A3 n3 c3))
            have H54 := Aside0.mk (Kd.R_set h53 hx3 (by decide) 4 (.slice A3 n3 c3))
            clear hx3 hr3 h53 ht3 ho3 hb3 hg3 hx2 ht2 h42 h52 hr2 hne4 y4' y1 y4 hne f4
            go_wp2_with fail
            go_roundg gk
            case measure => omega
            case rel => exact ⟨i + 1, _, a2, _, by go_num, HL, ⟨by have := HK.out; omega⟩, ⟨by have := HLen.out; rw [List.length_append, List.length_singleton]; omega⟩, HA2, HR4, HX4, HT4, H44, H54, ⟨fun h => absurd h (by omega)⟩⟩
end Go.Proofs.Ytbbeikdbioelgaa.M
set_option linter.unusedVariables false
set_option linter.unusedSimpArgs false
namespace Go.Proofs.Ytbbeikdbioelgaa.M
open Go.RowKit Go.Maps Go.Proofs.YtbbeikdbioelgaaW.PrintWords Go.Proofs.YtbbeikdbioelgaaW.PrintLast Go.Proofs.YtbbeikdbioelgaaW.PrintMore
attribute [local go_sem] max2_int min2_int max_two min_two max_three min_three max_four min_four
attribute [local go_sem ↓] Go.wp_at_zero Go.wp_at_succ
def quesR (s : ByteArray) (a : Int) : Except Int (Ques × Int) :=
  match nameAt s a with
  | .error c => .error c
  | .ok (b, a1) => match getF s a1 2 with
    | none => .error 2
    | some t => match getF s (a1 + 2) 2 with
      | none => .error 2
      | some c => .ok (⟨strOfNums b, t, c⟩, a1 + 2 + 2)
def QuesP (q : Ques) (v : Value) (w' : World) : Prop := v = .agg #[.string q.f0, .int .u16 q.f1, .int .u16 q.f2]
def SAt (w : World) (h : Nat) (cs : Array Value) (T : Nat) : Prop := w.heap[h]? = some (.cells cs T (0, 0))
section
variable {w w1 : World} {g h : Nat} {s : ByteArray} {a : Int} {cs : Array Value} {T : Nat}
theorem SAt.cell (hx : SAt w h cs T) (j : Nat) : w.cell? ⟨h, j, none⟩ = cs[j]? := blk_cell hx j
theorem SAt.is (hx : SAt w h cs T) (j : Nat) {v : Value} (hv : cs[j]? = some v) : w.cell? ⟨h, j, none⟩ = some v := (hx.cell j).trans hv
theorem SAt.ne (hx : SAt w h cs T) (hr : RAt w g s a) (hT : T ≠ 87) : h ≠ g := by
  rintro rfl
  unfold SAt at hx
  unfold RAt at hr
  rw [hr] at hx
  have := Option.some.inj hx
  injection this with _ h2
  exact hT h2.symm
theorem SAt.only (hx : SAt w h cs T) (hr : RAt w g s a) (hT : T ≠ 87) (ho : Only g w w1) : SAt w1 h cs T := ho.at_ hx (hx.ne hr hT)
theorem SAt.new (w : World) (cs : Array Value) (T : Nat) : SAt (w.alloc (.cells cs T (0, 0))) w.heap.size cs T := blk_new w _
theorem SAt.below (hx : SAt w h cs T) (hb : Below w.heap.size w w1) : SAt w1 h cs T := blk_below hx hb
theorem SAt.set (hx : SAt w h cs T) (j : Nat) (u : Value) : SAt (w.setCell ⟨h, j, none⟩ u) h (cs.setIfInBounds j u) T := by
  unfold SAt
  rw [blk_set hx j _]
theorem SAt.far (hx : SAt w h cs T) {h2 : Nat} (hne : h ≠ h2) (j : Nat) (u : Value) : SAt (w.setCell ⟨h2, j, none⟩ u) h cs T := (Below.heap_setCell w _ u h hne).trans hx
theorem SAt.frozen (hx : SAt w h cs T) (j : Nat) : w.frozen? ⟨h, j, none⟩ = false := blk_frozen hx j
theorem SAt.lt (hx : SAt w h cs T) : h < w.heap.size := blk_lt hx
theorem RAt.far (hr : RAt w g s a) {h2 : Nat} (hne : g ≠ h2) (j : Nat) (u : Value) : RAt (w.setCell ⟨h2, j, none⟩ u) g s a := (Below.heap_setCell w _ u g hne).trans hr
theorem RAt.lt (hr : RAt w g s a) : g < w.heap.size := blk_lt hr
theorem Only.setNew {w0 : World} (h0 : Only g w0 w) {h2 : Nat} (hn : w0.heap.size ≤ h2) (j : Nat) (u : Value) : Only g w0 (w.setCell ⟨h2, j, none⟩ u) :=
  ⟨h0.os, h0.tape, h0.output, by simpa using h0.size, fun k hk hg => (Below.heap_setCell w _ u k (by show k ≠ h2; omega)).trans (h0.block k hk hg)⟩
theorem Only.alloc {w0 : World} (h0 : Only g w0 w) (o : Obj) : Only g w0 (w.alloc o) := h0.trans (Only.of_below (below_alloc (Below.refl _ _) o) g)
end
theorem get2 {s : ByteArray} {a n : Int} (h : getF s a 2 = some n) : 0 ≤ n ∧ n ≤ 65535 ∧ 0 ≤ a ∧ a + 2 ≤ s.size ∧ IntKind.u16.wrap n = n := by
  have h1 := get_bound (z := 2) h
  have h2 := get_at h
  refine ⟨h1.1, by omega, h2.1, h2.2.2, ?_⟩
  simp [IntKind.wrap, IntKind.bits, IntKind.signed]
  omega
theorem get4 {s : ByteArray} {a n : Int} (h : getF s a 4 = some n) : 0 ≤ n ∧ n ≤ 4294967295 ∧ 0 ≤ a ∧ a + 4 ≤ s.size ∧ IntKind.u32.wrap n = n := by
  have h1 := get_bound (z := 4) h
  have h2 := get_at h
  refine ⟨h1.1, by omega, h2.1, h2.2.2, ?_⟩
  rw [IntKind.wrap_u32]
  omega
set_option maxHeartbeats 4000000 in
set_option maxRecDepth 100000 in
theorem question_calls {w : World} {g : Nat} {s : ByteArray} {a : Int} (h : RAt w g s a) (hs : s.size ≤ 1000000) (h0 : 0 ≤ a) (ha : a ≤ s.size) :
    Calls Try.prog 68 #[.pointer (some ⟨g, 0, none⟩)] w fun e w' => Ends QuesP (quesR s a) w g s e w' := by
  obtain ⟨R, hR⟩ : ∃ R, quesR s a = R := ⟨_, rfl⟩
  rw [hR]
  unfold quesR at hR
  have HR := Aside0.mk h
  clear h
  go_enter Try.func68, Try.ntmps68
  go_wp2_with fail
  have HV := Aside0.mk (SAt.new w #[.string ⟨#[]⟩, .int .u16 0, .int .u16 0] 39)
  refine (name_calls' (HR.out.below (below_alloc (Below.refl _ _) _)) hs (by omega) (by omega)).mono ?_
  intro e w2 ht
  have HO := Aside0.mk (((Only.refl g w).alloc _).trans ht.only)
  have HV2 := Aside0.mk (HV.out.only (HR.out.below (below_alloc (Below.refl _ _) _)) (by decide) ht.only)
  cases hn : nameAt s a with
  | error c =>
    rw [hn] at hR
    obtain rfl := ht.bad c hn
    exact ⟨rfl, Ends.err hR.symm HO.out⟩
  | ok x =>
    obtain ⟨b, a1⟩ := x
    rw [hn] at hR
    obtain ⟨rfl, hr2⟩ := ht.good b a1 hn
    clear ht hn
    simp only [] at hR
    obtain ⟨t0, ht0⟩ : ∃ t0, strOfNums b = t0 := ⟨_, rfl⟩
    rw [ht0] at hR ⊢
    go_wp2_with fail
    have HQ3 := Aside0.mk (SAt.new w2 #[.string t0, .int .u16 0, .int .u16 0] 39)
    have HR3 := Aside0.mk (hr2.below (below_alloc (Below.refl _ _) (.cells #[.string t0, .int .u16 0, .int .u16 0] 39 (0, 0))))
    have HO3 := Aside0.mk (HO.out.alloc (.cells #[.string t0, .int .u16 0, .int .u16 0] 39 (0, 0)))
    have HV3 := Aside0.mk (HV2.out.below (below_alloc (Below.refl _ _) (.cells #[.string t0, .int .u16 0, .int .u16 0] 39 (0, 0))))
    have HSz := Lib.hid (show w.heap.size ≤ w2.heap.size ∧ w.heap.size ≤ w.heap.size from ⟨HO.out.size, Nat.le_refl _⟩)
    have HLt := Lib.hid (show w.heap.size ≤ w2.heap.size ∧ w.heap.size ≠ w2.heap.size from ⟨HO.out.size, by have := HV2.out.lt; omega⟩)
    clear hr2 HO HV2
    generalize hW : w2.alloc (.cells #[.string t0, .int .u16 0, .int .u16 0] 39 (0, 0)) = w3 at *
    obtain ⟨q, hq⟩ : ∃ q, w2.heap.size = q := ⟨_, rfl⟩
    obtain ⟨r, hr⟩ : ∃ r, w.heap.size = r := ⟨_, rfl⟩
    rw [hq] at HQ3 HLt HSz
    have HSz := Lib.hid (show w.heap.size ≤ q ∧ w.heap.size ≤ r from ⟨HSz.out.1, by omega⟩)
    rw [hr] at HLt HV3
    rw [hq]
    rw [hr]
    clear hq hr hW
    have hgq := HQ3.out.ne HR3.out (by decide)
    have hgr := HV3.out.ne HR3.out (by decide)
    cases h1 : getF s a1 2 with
    | none =>
      rw [h1] at hR
      refine (num_no HR3.out hs h1).mono ?_
      rintro e w' ⟨rfl, ho⟩
      exact ⟨rfl, Ends.err hR.symm (HO3.out.trans ho)⟩
    | some t =>
      rw [h1] at hR
      simp only [] at hR
      obtain ⟨t0', t1', _, _, hwt⟩ := get2 h1
      refine (num_yes HR3.out hs h1).mono ?_
      rintro e w4 ⟨rfl, hr, ho⟩
      have HQ4 := HQ3.out.only HR3.out (by decide) ho
      have HV4 := HV3.out.only HR3.out (by decide) ho
      have HO4 := HO3.out.trans ho
      have y := HQ4.is 1 rfl
      have f := HQ4.frozen 1
      clear h1
      go_wp2_with fail
      have HR5 := hr.far (Ne.symm hgq) 1 (.int .u16 t)
      have HO5 := HO4.setNew HSz.out.1 1 (.int .u16 t)
      have HV5 := HV4.far HLt.out.2 1 (.int .u16 t)
      have HQ5 : SAt _ q #[.string t0, .int .u16 t, .int .u16 0] 39 := HQ4.set 1 (.int .u16 t)
      clear HR3 HO3 HV3 HQ3 hr HO4 HV4 HQ4 ho y f
      generalize hW : w4.setCell ⟨q, 1, none⟩ (.int .u16 t) = w5 at *
      cases h2 : getF s (a1 + 2) 2 with
      | none =>
        rw [h2] at hR
        refine (num_no HR5 hs h2).mono ?_
        rintro e w' ⟨rfl, ho⟩
        exact ⟨rfl, Ends.err hR.symm (HO5.trans ho)⟩
      | some c =>
        rw [h2] at hR
        simp only [] at hR
        obtain ⟨c0', c1', _, _, hwc⟩ := get2 h2
        refine (num_yes HR5 hs h2).mono ?_
        rintro e w6 ⟨rfl, hr, ho⟩
        have HQ6 := HQ5.only HR5 (by decide) ho
        have HV6 := HV5.only HR5 (by decide) ho
        have HO6 := HO5.trans ho
        have y := HQ6.is 2 rfl
        have f := HQ6.frozen 2
        have y0 := HQ6.is 0 rfl
        have y1 := HQ6.is 1 rfl
        have z0 := HV6.is 0 rfl
        have z1 := HV6.is 1 rfl
        have z2 := HV6.is 2 rfl
        have g0 := HV6.frozen 0
        have g1 := HV6.frozen 1
        have g2 := HV6.frozen 2
        have hqr := HLt.out.2
        have hrq := Ne.symm HLt.out.2
        clear h2
        go_wp2_with fail
        have HR9 := ((((hr.far (Ne.symm hgq) 2 (.int .u16 c)).far (Ne.symm hgr) 0 (.string t0)).far (Ne.symm hgr) 1 (.int .u16 t)).far (Ne.symm hgr) 2 (.int .u16 c))
        have HO9 := ((((HO6.setNew HSz.out.1 2 (.int .u16 c)).setNew HSz.out.2 0 (.string t0)).setNew HSz.out.2 1 (.int .u16 t)).setNew HSz.out.2 2 (.int .u16 c))
        have HV9 : SAt _ r #[.string t0, .int .u16 t, .int .u16 c] 39 := ((((HV6.far HLt.out.2 2 (.int .u16 c)).set 0 (.string t0)).set 1 (.int .u16 t)).set 2 (.int .u16 c))
        clear y f y0 y1 z0 z1 z2 g0 g1 g2
        generalize hW : (((w6.setCell ⟨q, 2, none⟩ (.int .u16 c)).setCell ⟨r, 0, none⟩ (.string t0)).setCell ⟨r, 1, none⟩ (.int .u16 t)).setCell ⟨r, 2, none⟩ (.int .u16 c) = w9 at *
        have z0 := HV9.is 0 rfl
        have z1 := HV9.is 1 rfl
        have z2 := HV9.is 2 rfl
        refine bodyPost_ret (v := .agg #[.string t0, .int .u16 t, .int .u16 c]) (by simp [results, Try.results68, go_sem, z0, z1, z2]) rfl ?_
        exact Ends.ok hR.symm rfl HR9 HO9
def recR (s : ByteArray) (a : Int) : Except Int (Rec × Int) :=
  match nameAt s a with
  | .error c => .error c
  | .ok (b, a1) => match getF s a1 2 with
    | none => .error 2
    | some t => match getF s (a1 + 2) 2 with
      | none => .error 2
      | some c => match getF s (a1 + 2 + 2) 4 with
        | none => .error 2
        | some l => match getF s (a1 + 2 + 2 + 4) 2 with
          | none => .error 2
          | some n => if s.size - (a1 + 2 + 2 + 4 + 2) < n then .error 2 else
            match dataR s t (a1 + 2 + 2 + 4 + 2 + n) (a1 + 2 + 2 + 4 + 2) with
            | .error d => .error d
            | .ok ((names, nums, texts), a2) => if checkF ⟨strOfNums b, t, c, l, names, nums, texts⟩ = 0 then .ok (⟨strOfNums b, t, c, l, names, nums, texts⟩, a2) else .error (checkF ⟨strOfNums b, t, c, l, names, nums, texts⟩)
def RecP (B : Nat) (r : Rec) (v : Value) (w : World) : Prop := ∃ v4 v5 v6, v = .agg #[.string r.f0, .int .u16 r.f1, .int .u16 r.f2, .int .u32 r.f3, v4, v5, v6] ∧
  Kd.R Kd.string 9 w B (fun _ => True) v4 r.f4 ∧ Kd.R (Kd.int .u32) 41 w B (fun _ => True) v5 r.f5 ∧ Kd.R Kd.string 9 w B (fun _ => True) v6 r.f6
theorem recAt_of {w : World} {B : Nat} {r : Rec} {v4 v5 v6 : Value} (h4 : Kd.R Kd.string 9 w B (fun _ => True) v4 r.f4) (h5 : Kd.R (Kd.int .u32) 41 w B (fun _ => True) v5 r.f5) (h6 : Kd.R Kd.string 9 w B (fun _ => True) v6 r.f6) :
    RecAt w (.agg #[.string r.f0, .int .u16 r.f1, .int .u16 r.f2, .int .u32 r.f3, v4, v5, v6]) r := by
  obtain ⟨A4, c4, rfl, l4, g4⟩ := Kd.R_reads h4
  obtain ⟨A5, c5, rfl, l5, g5⟩ := Kd.R_reads h5
  obtain ⟨A6, c6, rfl, l6, g6⟩ := Kd.R_reads h6
  exact ⟨A4, c4, A5, c5, A6, c6, rfl, l4, g4, l5, g5, l6, g6⟩
end Go.Proofs.Ytbbeikdbioelgaa.M
set_option linter.unusedVariables false
set_option linter.unusedSimpArgs false
namespace Go.Proofs.Ytbbeikdbioelgaa.M
open Go.RowKit Go.Maps Go.Proofs.YtbbeikdbioelgaaW.PrintWords Go.Proofs.YtbbeikdbioelgaaW.PrintLast Go.Proofs.YtbbeikdbioelgaaW.PrintMore
theorem getD_mem' {α : Type} {l : List α} (z : α) {j : Nat} (h : j < l.length) : l.getD j z ∈ l := by
  rw [List.getD_eq_getElem?_getD, List.getElem?_eq_getElem h, Option.getD_some]
  exact List.getElem_mem h
theorem nameR_len (K : Nat) : ∀ {s : ByteArray} {b : List Int} {part nx a : Int} {b' : List Int} {a' : Int}, nameR K s b part nx a = .ok (b', a') → b.length ≤ 254 → b'.length ≤ 255 := by
  induction K with
  | zero => intro s b part nx a b' a' h _; exact absurd h (by simp [nameR])
  | succ K ih =>
    intro s b part nx a b' a' h hn
    unfold nameR at h
    cases h1 : getF s a 1 with
    | none => rw [h1] at h; exact absurd h (by simp)
    | some n =>
      rw [h1] at h
      simp only [] at h
      have g1 := get1 h1
      by_cases c1 : n = 0
      · rw [if_pos c1] at h
        rw [← (Prod.mk.inj (Except.ok.inj h)).1]
        simp
        omega
      rw [if_neg c1] at h
      by_cases c2 : 191 < n
      · rw [if_pos c2] at h
        cases h2 : getF s (a + 1) 1 with
        | none => rw [h2] at h; exact absurd h (by simp)
        | some m =>
          rw [h2] at h
          simp only [] at h
          by_cases c3 : part ≤ n % 64 * 256 + m
          · rw [if_pos c3] at h; exact absurd h (by simp)
          · rw [if_neg c3] at h
            exact ih h hn
      rw [if_neg c2] at h
      by_cases c4 : 63 < n
      · rw [if_pos c4] at h; exact absurd h (by simp)
      rw [if_neg c4] at h
      cases h3 : partF s (a + 1) n with
      | none => rw [h3] at h; exact absurd h (by simp)
      | some l =>
        rw [h3] at h
        simp only [] at h
        by_cases c5 : 255 < (b.length : Int) + n + 2
        · rw [if_pos c5] at h; exact absurd h (by simp)
        · rw [if_neg c5] at h
          have := (part_size h3).1
          exact ih h (by simp only [List.length_append, List.length_singleton, bytesOf_length]; omega)
theorem bareR_len (K : Nat) : ∀ {s : ByteArray} {b : List Int} {a : Int} {b' : List Int} {a' : Int}, bareR K s b a = .ok (b', a') → b.length ≤ 254 → b'.length ≤ 255 := by
  induction K with
  | zero => intro s b a b' a' h; exact absurd h (by simp [bareR])
  | succ K ih =>
    intro s b a b' a' h hn
    unfold bareR at h
    cases h1 : getF s a 1 with
    | none => rw [h1] at h; exact absurd h (by simp)
    | some n =>
      rw [h1] at h
      simp only [] at h
      have g1 := get1 h1
      by_cases c1 : n = 0
      · rw [if_pos c1] at h
        rw [← (Prod.mk.inj (Except.ok.inj h)).1]
        simp
        omega
      rw [if_neg c1] at h
      by_cases c2 : 191 < n
      · rw [if_pos c2] at h; exact absurd h (by simp)
      rw [if_neg c2] at h
      by_cases c4 : 63 < n
      · rw [if_pos c4] at h; exact absurd h (by simp)
      rw [if_neg c4] at h
      by_cases c5 : 255 < (b.length : Int) + n + 2
      · rw [if_pos c5] at h; exact absurd h (by simp)
      rw [if_neg c5] at h
      cases h3 : partF s (a + 1) n with
      | none => rw [h3] at h; exact absurd h (by simp)
      | some l =>
        rw [h3] at h
        have := (part_size h3).1
        exact ih h (by simp only [List.length_append, List.length_singleton, bytesOf_length]; omega)
theorem name_len {s : ByteArray} {a : Int} {b : List Int} {a' : Int} (h : nameAt s a = .ok (b, a')) : (strOfNums b).size ≤ 255 := by
  rw [strOfNums_size]
  exact nameR_len _ h (by simp)
theorem within_len {s : ByteArray} {k a en : Int} {b : List Int} {a' : Int} (h : withinF s k a en = .ok (b, a')) : (strOfNums b).size ≤ 255 := by
  unfold withinF at h
  split at h
  · exact absurd h (by simp)
  · split at h
    · rw [strOfNums_size]; exact bareR_len _ h (by simp)
    · exact name_len h
theorem numsR_all {s : ByteArray} {z : Nat} {en : Int} (hz : z ≤ 4) (K : Nat) : ∀ {out : List Int} {a : Int} {out' : List Int} {a' : Int}, numsR s z en K out a = .ok (out', a') → (∀ x ∈ out, 0 ≤ x ∧ x ≤ 4294967295) → (∀ x ∈ out', 0 ≤ x ∧ x ≤ 4294967295) ∧ out'.length = out.length + K := by
  induction K with
  | zero =>
    intro out a out' a' h ha
    rw [← (Prod.mk.inj (Except.ok.inj h)).1]
    exact ⟨ha, rfl⟩
  | succ K ih =>
    intro out a out' a' h ha
    unfold numsR at h
    by_cases c1 : en - a < z
    · rw [if_pos c1] at h; exact absurd h (by simp)
    rw [if_neg c1] at h
    cases h1 : getF s a z with
    | none => rw [h1] at h; exact absurd h (by simp)
    | some n =>
      rw [h1] at h
      have hb := get_bound h1
      have hp : (256 : Int) ^ z ≤ 4294967296 := by
        have hz' : z = 0 ∨ z = 1 ∨ z = 2 ∨ z = 3 ∨ z = 4 := by omega
        rcases hz' with e | e | e | e | e <;> rw [e] <;> decide
      obtain ⟨r1, r2⟩ := ih h (fun x hx => by
        rcases List.mem_append.1 hx with hx | hx
        · exact ha x hx
        · rw [List.mem_singleton.1 hx]
          omega)
      exact ⟨r1, by rw [r2, List.length_append, List.length_singleton]; omega⟩
theorem namesR_all {s : ByteArray} {k en : Int} (K : Nat) : ∀ {out : List ByteArray} {a : Int} {out' : List ByteArray} {a' : Int}, namesR s k en K out a = .ok (out', a') → (∀ x ∈ out, x.size ≤ 255) → (∀ x ∈ out', x.size ≤ 255) ∧ out'.length = out.length + K := by
  induction K with
  | zero =>
    intro out a out' a' h ha
    rw [← (Prod.mk.inj (Except.ok.inj h)).1]
    exact ⟨ha, rfl⟩
  | succ K ih =>
    intro out a out' a' h ha
    unfold namesR at h
    cases h1 : withinF s k a en with
    | error c => rw [h1] at h; exact absurd h (by simp)
    | ok x =>
      obtain ⟨b, a2⟩ := x
      rw [h1] at h
      obtain ⟨r1, r2⟩ := ih h (fun x hx => by
        rcases List.mem_append.1 hx with hx | hx
        · exact ha x hx
        · rw [List.mem_singleton.1 hx]
          exact within_len h1)
      exact ⟨r1, by rw [r2, List.length_append, List.length_singleton]; omega⟩
theorem namesR_at {s : ByteArray} {k en : Int} (K : Nat) : ∀ {out : List ByteArray} {a : Int} {out' : List ByteArray} {a' : Int}, namesR s k en K out a = .ok (out', a') → 0 ≤ a ∧ a ≤ s.size → 0 ≤ a' ∧ a' ≤ s.size := by
  induction K with
  | zero =>
    intro out a out' a' h ha
    have := (Prod.mk.inj (Except.ok.inj h)).2
    omega
  | succ K ih =>
    intro out a out' a' h ha
    unfold namesR at h
    cases h1 : withinF s k a en with
    | error c => rw [h1] at h; exact absurd h (by simp)
    | ok x =>
      obtain ⟨b, a2⟩ := x
      rw [h1] at h
      exact ih h (within_at h1)
theorem textsR_all {s : ByteArray} {en : Int} (K : Nat) : ∀ {out : List ByteArray} {a : Int} {out' : List ByteArray} {a' : Int}, textsR s en K out a = .ok (out', a') → 0 ≤ a → (∀ x ∈ out, x.size ≤ s.size) ∧ (out.length : Int) ≤ a → (∀ x ∈ out', x.size ≤ s.size) ∧ (out'.length : Int) ≤ max a s.size := by
  induction K with
  | zero => intro out a out' a' h; exact absurd h (by simp [textsR])
  | succ K ih =>
    intro out a out' a' h h0 ha
    unfold textsR at h
    by_cases c1 : a < en
    · rw [if_pos c1] at h
      cases h1 : getF s a 1 with
      | none => rw [h1] at h; exact absurd h (by simp)
      | some m =>
        rw [h1] at h
        simp only [] at h
        by_cases c2 : en - (a + 1) < m
        · rw [if_pos c2] at h; exact absurd h (by simp)
        rw [if_neg c2] at h
        cases h2 : partF s (a + 1) m with
        | none => rw [h2] at h; exact absurd h (by simp)
        | some t =>
          rw [h2] at h
          have hs := part_size h2
          have := ih h (by omega) ⟨fun x hx => by
            rcases List.mem_append.1 hx with hx | hx
            · exact ha.1 x hx
            · rw [List.mem_singleton.1 hx]
              omega, by rw [List.length_append, List.length_singleton]; omega⟩
          exact ⟨this.1, by omega⟩
    · rw [if_neg c1] at h
      rw [← (Prod.mk.inj (Except.ok.inj h)).1]
      exact ⟨ha.1, by omega⟩
theorem sum_le (l : List ByteArray) (B : Nat) (h : ∀ x ∈ l, x.size ≤ B) : sumS l ≤ B * l.length := by
  induction l with
  | nil => exact Nat.le_refl _
  | cons s l ih =>
    have h1 := h s (by simp)
    have h2 := ih (fun x hx => h x (by simp [hx]))
    rw [sumS_cons, List.length_cons]
    have : B * (l.length + 1) = B * l.length + B := by rw [Nat.mul_add, Nat.mul_one]
    omega
theorem dataE_inv {en : Int} {names : List ByteArray} {nums : List Int} {x : List ByteArray × Int} {p : Parts} {a' : Int} (h : dataE en names nums x = .ok (p, a')) : p = (names, nums, x.1) ∧ a' = en ∧ x.2 = en := by
  obtain ⟨t, a⟩ := x
  simp only [dataE] at h
  by_cases c : a = en
  · rw [if_pos c] at h
    obtain ⟨h1, h2⟩ := Prod.mk.inj (Except.ok.inj h)
    exact ⟨h1.symm, by omega, c⟩
  · rw [if_neg c] at h; exact absurd h (by simp)
theorem dataT_all {s : ByteArray} {k en a : Int} {names : List ByteArray} {nums : List Int} {p : Parts} {a' : Int} (h : dataT s k en names nums a = .ok (p, a')) (h0 : 0 ≤ a ∧ a ≤ s.size) : p.1 = names ∧ p.2.1 = nums ∧ (∀ x ∈ p.2.2, x.size ≤ s.size) ∧ p.2.2.length ≤ s.size + 1 ∧ a' = en := by
  by_cases c1 : k = 16
  · rw [dataT_txt c1] at h
    cases h1 : textsR s en ((en - a).toNat + 1) [] a with
    | error c => rw [h1] at h; exact absurd h (by simp)
    | ok x =>
      rw [h1] at h
      obtain ⟨rfl, h2, h3⟩ := dataE_inv h
      obtain ⟨t, a2⟩ := x
      have := textsR_all _ h1 h0.1 ⟨fun x hx => absurd hx (by simp), by simp; omega⟩
      exact ⟨rfl, rfl, this.1, by have := this.2; show t.length ≤ _; omega, h2⟩
  by_cases c2 : (shapeOf k).1 + (shapeOf k).2.1 = 0
  · rw [dataT_free c1 c2] at h
    cases h1 : partF s a (en - a) with
    | none => rw [h1] at h; exact absurd h (by simp)
    | some t =>
      rw [h1] at h
      obtain ⟨rfl, h2, _⟩ := dataE_inv h
      have := part_size h1
      exact ⟨rfl, rfl, fun x hx => by rw [List.mem_singleton.1 hx]; omega, by simp, h2⟩
  · rw [dataT_none c1 c2] at h
    obtain ⟨rfl, h2, _⟩ := dataE_inv h
    exact ⟨rfl, rfl, fun x hx => absurd hx (by simp), by simp, h2⟩
structure PartsOk (s : ByteArray) (p : Parts) : Prop where
  n : p.1.length ≤ 2
  ns : ∀ x ∈ p.1, x.size ≤ 255
  m : p.2.1.length ≤ 5
  ms : ∀ x ∈ p.2.1, 0 ≤ x ∧ x ≤ 4294967295
  ts : ∀ x ∈ p.2.2, x.size ≤ s.size
  t : p.2.2.length ≤ s.size + 1
theorem dataR_all {s : ByteArray} {k en a : Int} {p : Parts} {a' : Int} (h : dataR s k en a = .ok (p, a')) (h0 : 0 ≤ a ∧ a ≤ s.size) : PartsOk s p ∧ a' = en := by
  obtain ⟨s1, s2, s3⟩ := shapeOf_le k
  have key : ∀ (nums : List Int) (a1 : Int), (∀ x ∈ nums, 0 ≤ x ∧ x ≤ 4294967295) → nums.length ≤ 5 → 0 ≤ a1 ∧ a1 ≤ s.size → dataM s k en (nums, a1) = .ok (p, a') → PartsOk s p ∧ a' = en := by
    intro nums a1 w1 w2 w3 hm
    unfold dataM at hm
    dsimp only at hm
    cases h1 : namesR s k en (shapeOf k).1 [] a1 with
    | error c => rw [h1] at hm; exact absurd hm (by simp)
    | ok x =>
      obtain ⟨names, a2⟩ := x
      rw [h1] at hm
      simp only [] at hm
      obtain ⟨n1, n2⟩ := namesR_all _ h1 (fun x hx => absurd hx (by simp))
      have n3 := namesR_at _ h1 w3
      by_cases c6 : k = 6
      · rw [dataN_six c6] at hm
        cases h2 : numsR s 4 en (shapeOf k).2.1 [] a2 with
        | error c => rw [h2] at hm; exact absurd hm (by simp)
        | ok x =>
          obtain ⟨nums', a3⟩ := x
          rw [h2] at hm
          obtain ⟨m1, m2⟩ := numsR_all (z := 4) (by decide) _ h2 (fun x hx => absurd hx (by simp))
          obtain ⟨e1, e2, t1, t2, e3⟩ := dataT_all hm (numsR_at _ h2 n3)
          exact ⟨⟨by rw [e1, n2]; simp; omega, by rw [e1]; exact n1, by rw [e2, m2]; simp; omega, by rw [e2]; exact m1, t1, t2⟩, e3⟩
      · rw [dataN_not c6] at hm
        obtain ⟨e1, e2, t1, t2, e3⟩ := dataT_all hm n3
        exact ⟨⟨by rw [e1, n2]; simp; omega, by rw [e1]; exact n1, by rw [e2]; exact w2, by rw [e2]; exact w1, t1, t2⟩, e3⟩
  unfold dataR at h
  by_cases c6 : k = 6
  · rw [if_pos c6] at h
    exact key [] a (fun x hx => absurd hx (by simp)) (by simp) h0 h
  · rw [if_neg c6] at h
    cases h1 : numsR s 2 en (shapeOf k).2.1 [] a with
    | error c => rw [h1] at h; exact absurd h (by simp)
    | ok x =>
      obtain ⟨nums, a1⟩ := x
      rw [h1] at h
      obtain ⟨m1, m2⟩ := numsR_all (z := 2) (by decide) _ h1 (fun x hx => absurd hx (by simp))
      exact key nums a1 m1 (by rw [m2]; simp; omega) (numsR_at _ h1 h0) h
theorem PartsOk.fine {s : ByteArray} {p : Parts} (h : PartsOk s p) (hs : s.size ≤ 1000000) (f0 : ByteArray) (k c t : Int) : Fine ⟨f0, k, c, t, p.1, p.2.1, p.2.2⟩ where
  len4 := by have := h.n; show p.1.length ≤ _; omega
  names := by
    have h1 := sum_le p.1 255 h.ns
    have := h.n
    have := h.m
    show 4 * p.2.1.length + sumS p.1 ≤ _
    omega
  texts := fun j hj => by
    have := h.ts _ (getD_mem' ⟨#[]⟩ hj)
    show (p.2.2.getD j ⟨#[]⟩).size ≤ _
    omega
  texts2 := by have := h.t; show p.2.2.length ≤ _; omega
  wf := fun j hj => h.ms _ (getD_mem' 0 hj)
end Go.Proofs.Ytbbeikdbioelgaa.M
set_option linter.unusedVariables false
set_option linter.unusedSimpArgs false
namespace Go.Proofs.Ytbbeikdbioelgaa.M
open Go.RowKit Go.Maps Go.Proofs.YtbbeikdbioelgaaW.PrintWords Go.Proofs.YtbbeikdbioelgaaW.PrintLast Go.Proofs.YtbbeikdbioelgaaW.PrintMore
attribute [local go_sem] max2_int min2_int max_two min_two max_three min_three max_four min_four
attribute [local go_sem ↓] Go.wp_at_zero Go.wp_at_succ
theorem Only.two {w0 w w1 : World} {g h : Nat} (h0 : Only g w0 w) (ht : Two g h w w1) (hh : w0.heap.size ≤ h) : Only g w0 w1 :=
  ⟨ht.os.trans h0.os, ht.tape.trans h0.tape, ht.output.trans h0.output, Nat.le_trans h0.size ht.size, fun k hk hg => (ht.block k (Nat.lt_of_lt_of_le hk h0.size) hg (by omega)).trans (h0.block k hk hg)⟩
theorem SAt.two {w w1 : World} {g h r : Nat} {cs : Array Value} {T : Nat} (hx : SAt w r cs T) (ht : Two g h w w1) (hg : r ≠ g) (hh : r ≠ h) : SAt w1 r cs T := (ht.block r hx.lt hg hh).trans hx
theorem RecP.below {B : Nat} {r : Rec} {v : Value} {w w1 : World} (h : RecP B r v w) (hb : Below w.heap.size w w1) : RecP B r v w1 := by
  obtain ⟨v4, v5, v6, h1, h4, h5, h6⟩ := h
  exact ⟨v4, v5, v6, h1, Kd.R_below h4 hb, Kd.R_below h5 hb, Kd.R_below h6 hb⟩
theorem RecP.set {B : Nat} {rc : Rec} {v : Value} {w : World} {r : Nat} {cs : Array Value} (h : RecP B rc v w) (hx : SAt w r cs 44) (j : Nat) (u : Value) : RecP B rc v (w.setCell ⟨r, j, none⟩ u) := by
  obtain ⟨v4, v5, v6, h1, h4, h5, h6⟩ := h
  exact ⟨v4, v5, v6, h1, Kd.R_set h4 hx (by decide) j u, Kd.R_set h5 hx (by intro q hq; rw [show q = 41 by simpa [Kd.int, Kd.scalar] using hq]; decide) j u, Kd.R_set h6 hx (by decide) j u⟩
structure Laying (w0 w : World) (g r : Nat) (s : ByteArray) (a : Int) (cs : Array Value) (T : Nat) : Prop where
  v : SAt w r cs T
  rd : RAt w g s a
  o : Only g w0 w
  ne : r ≠ g
  sz : w0.heap.size ≤ r
theorem Laying.step {w0 w : World} {g r : Nat} {s : ByteArray} {a : Int} {cs : Array Value} {T : Nat} (h : Laying w0 w g r s a cs T) (j : Nat) (u : Value) : Laying w0 (w.setCell ⟨r, j, none⟩ u) g r s a (cs.setIfInBounds j u) T :=
  ⟨h.v.set j u, h.rd.far (Ne.symm h.ne) j u, h.o.setNew h.sz j u, h.ne, h.sz⟩
set_option maxHeartbeats 8000000 in
set_option maxRecDepth 100000 in
theorem record_reads {w : World} {g : Nat} {s : ByteArray} {a : Int} (h : RAt w g s a) (hs : s.size ≤ 1000000) (h0 : 0 ≤ a) (ha : a ≤ s.size) :
    Calls Try.prog 80 #[.pointer (some ⟨g, 0, none⟩)] w fun e w' => Ends (RecP w.heap.size) (recR s a) w g s e w' := by
  obtain ⟨R, hR⟩ : ∃ R, recR s a = R := ⟨_, rfl⟩
  rw [hR]
  unfold recR at hR
  have HR := Aside0.mk h
  have HSm := Lib.hid hs
  clear h
  go_enter Try.func80, Try.ntmps80
  go_wp2_with fail
  have HV := Aside0.mk (SAt.new w #[.string ⟨#[]⟩, .int .u16 0, .int .u16 0, .int .u32 0, .slice none 0 0, .slice none 0 0, .slice none 0 0] 44)
  refine (name_calls' (HR.out.below (below_alloc (Below.refl _ _) _)) hs (by omega) (by omega)).mono ?_
  intro e w2 ht
  have HO := Aside0.mk (((Only.refl g w).alloc _).trans ht.only)
  have HV2 := Aside0.mk (HV.out.only (HR.out.below (below_alloc (Below.refl _ _) _)) (by decide) ht.only)
  cases hn : nameAt s a with
  | error c =>
    rw [hn] at hR
    obtain rfl := ht.bad c hn
    exact ⟨rfl, Ends.err hR.symm HO.out⟩
  | ok x =>
    obtain ⟨b, a1⟩ := x
    rw [hn] at hR
    obtain ⟨rfl, hr2⟩ := ht.good b a1 hn
    clear ht hn
    simp only [] at hR
    obtain ⟨t0, ht0⟩ : ∃ t0, strOfNums b = t0 := ⟨_, rfl⟩
    rw [ht0] at hR ⊢
    go_wp2_with fail
    have HQ3 := Aside0.mk (SAt.new w2 #[.string t0, .int .u16 0, .int .u16 0, .int .u32 0, .slice none 0 0, .slice none 0 0, .slice none 0 0] 44)
    have HR3 := Aside0.mk (hr2.below (below_alloc (Below.refl _ _) (.cells #[.string t0, .int .u16 0, .int .u16 0, .int .u32 0, .slice none 0 0, .slice none 0 0, .slice none 0 0] 44 (0, 0))))
    have HO3 := Aside0.mk (HO.out.alloc (.cells #[.string t0, .int .u16 0, .int .u16 0, .int .u32 0, .slice none 0 0, .slice none 0 0, .slice none 0 0] 44 (0, 0)))
    have HV3 := Aside0.mk (HV2.out.below (below_alloc (Below.refl _ _) (.cells #[.string t0, .int .u16 0, .int .u16 0, .int .u32 0, .slice none 0 0, .slice none 0 0, .slice none 0 0] 44 (0, 0))))
    have HSz := Lib.hid (show w.heap.size ≤ w2.heap.size ∧ w.heap.size ≤ w.heap.size from ⟨HO.out.size, Nat.le_refl _⟩)
    have HLt := Lib.hid (show w.heap.size ≤ w2.heap.size ∧ w.heap.size ≠ w2.heap.size from ⟨HO.out.size, by have := HV2.out.lt; omega⟩)
    clear hr2 HO HV2
    generalize hW : w2.alloc (.cells #[.string t0, .int .u16 0, .int .u16 0, .int .u32 0, .slice none 0 0, .slice none 0 0, .slice none 0 0] 44 (0, 0)) = w3 at *
    obtain ⟨q, hq⟩ : ∃ q, w2.heap.size = q := ⟨_, rfl⟩
    obtain ⟨r, hr⟩ : ∃ r, w.heap.size = r := ⟨_, rfl⟩
    rw [hq] at HQ3 HLt HSz
    have HSz := Lib.hid (show w.heap.size ≤ q ∧ w.heap.size ≤ r from ⟨HSz.out.1, by omega⟩)
    have HRr := Lib.hid hr
    rw [hr] at HLt HV3
    rw [hq]
    rw [hr]
    clear hq hr hW HV HR
    have hgq := HQ3.out.ne HR3.out (by decide)
    have hgr := HV3.out.ne HR3.out (by decide)
    cases h1 : getF s a1 2 with
    | none =>
      rw [h1] at hR
      refine (num_no HR3.out hs h1).mono ?_
      rintro e w' ⟨rfl, ho⟩
      exact ⟨rfl, Ends.err hR.symm (HO3.out.trans ho)⟩
    | some t =>
      rw [h1] at hR
      simp only [] at hR
      obtain ⟨t0', t1', _, _, hwt⟩ := get2 h1
      refine (num_yes HR3.out hs h1).mono ?_
      rintro e w4 ⟨rfl, hr, ho⟩
      have HQ4 := HQ3.out.only HR3.out (by decide) ho
      have HV4 := HV3.out.only HR3.out (by decide) ho
      have HO4 := HO3.out.trans ho
      clear HR3 HQ3 HV3 HO3
      clear h1
      have y := HQ4.is 1 rfl
      have f := HQ4.frozen 1
      go_wp2_with fail
      have HR5 := Aside0.mk (hr.far (Ne.symm hgq) 1 (.int .u16 t))
      have HO5 := Aside0.mk (HO4.setNew HSz.out.1 1 (.int .u16 t))
      have HV5 := Aside0.mk (HV4.far HLt.out.2 1 (.int .u16 t))
      have HQ5 := Aside0.mk (show SAt (w4.setCell ⟨q, 1, none⟩ (.int .u16 t)) q #[.string t0, .int .u16 t, .int .u16 0, .int .u32 0, .slice none 0 0, .slice none 0 0, .slice none 0 0] 44 from HQ4.set 1 (.int .u16 t))
      clear hr HO4 HV4 HQ4 ho y f
      generalize hW : w4.setCell ⟨q, 1, none⟩ (.int .u16 t) = w5 at *
      clear hW
      have HR3 := HR5
      have HO3 := HO5
      have HV3 := HV5
      have HQ3 := HQ5
      clear HR5 HO5 HV5 HQ5
      cases h2 : getF s (a1 + 2) 2 with
      | none =>
        rw [h2] at hR
        refine (num_no HR3.out hs h2).mono ?_
        rintro e w' ⟨rfl, ho⟩
        exact ⟨rfl, Ends.err hR.symm (HO3.out.trans ho)⟩
      | some c =>
        rw [h2] at hR
        simp only [] at hR
        obtain ⟨c0', c1', _, _, hwc⟩ := get2 h2
        refine (num_yes HR3.out hs h2).mono ?_
        rintro e w6 ⟨rfl, hr, ho⟩
        have HQ4 := HQ3.out.only HR3.out (by decide) ho
        have HV4 := HV3.out.only HR3.out (by decide) ho
        have HO4 := HO3.out.trans ho
        clear HR3 HQ3 HV3 HO3
        clear h2
        have y := HQ4.is 2 rfl
        have f := HQ4.frozen 2
        go_wp2_with fail
        have HR5 := Aside0.mk (hr.far (Ne.symm hgq) 2 (.int .u16 c))
        have HO5 := Aside0.mk (HO4.setNew HSz.out.1 2 (.int .u16 c))
        have HV5 := Aside0.mk (HV4.far HLt.out.2 2 (.int .u16 c))
        have HQ5 := Aside0.mk (show SAt (w6.setCell ⟨q, 2, none⟩ (.int .u16 c)) q #[.string t0, .int .u16 t, .int .u16 c, .int .u32 0, .slice none 0 0, .slice none 0 0, .slice none 0 0] 44 from HQ4.set 2 (.int .u16 c))
        clear hr HO4 HV4 HQ4 ho y f
        generalize hW : w6.setCell ⟨q, 2, none⟩ (.int .u16 c) = w7 at *
        clear hW
        have HR3 := HR5
        have HO3 := HO5
        have HV3 := HV5
        have HQ3 := HQ5
        clear HR5 HO5 HV5 HQ5
        cases h3 : getF s (a1 + 2 + 2) 4 with
        | none =>
          rw [h3] at hR
          refine (num_no HR3.out hs h3).mono ?_
          rintro e w' ⟨rfl, ho⟩
          exact ⟨rfl, Ends.err hR.symm (HO3.out.trans ho)⟩
        | some l =>
          rw [h3] at hR
          simp only [] at hR
          obtain ⟨l0', l1', _, _, hwl⟩ := get4 h3
          refine (num_yes HR3.out hs h3).mono ?_
          rintro e w8 ⟨rfl, hr, ho⟩
          have HQ4 := HQ3.out.only HR3.out (by decide) ho
          have HV4 := HV3.out.only HR3.out (by decide) ho
          have HO4 := HO3.out.trans ho
          clear HR3 HQ3 HV3 HO3
          clear h3
          have y := HQ4.is 3 rfl
          have f := HQ4.frozen 3
          go_wp2_with fail
          have HR5 := Aside0.mk (hr.far (Ne.symm hgq) 3 (.int .u32 l))
          have HO5 := Aside0.mk (HO4.setNew HSz.out.1 3 (.int .u32 l))
          have HV5 := Aside0.mk (HV4.far HLt.out.2 3 (.int .u32 l))
          have HQ5 := Aside0.mk (show SAt (w8.setCell ⟨q, 3, none⟩ (.int .u32 l)) q #[.string t0, .int .u16 t, .int .u16 c, .int .u32 l, .slice none 0 0, .slice none 0 0, .slice none 0 0] 44 from HQ4.set 3 (.int .u32 l))
          clear hr HO4 HV4 HQ4 ho y f
          generalize hW : w8.setCell ⟨q, 3, none⟩ (.int .u32 l) = w9 at *
          clear hW
          have HR3 := HR5
          have HO3 := HO5
          have HV3 := HV5
          have HQ3 := HQ5
          clear HR5 HO5 HV5 HQ5
          cases h4 : getF s (a1 + 2 + 2 + 4) 2 with
          | none =>
            rw [h4] at hR
            refine (num_no HR3.out hs h4).mono ?_
            rintro e w' ⟨rfl, ho⟩
            exact ⟨rfl, Ends.err hR.symm (HO3.out.trans ho)⟩
          | some n =>
            rw [h4] at hR
            simp only [] at hR
            obtain ⟨n0', n1', _, n3', _⟩ := get2 h4
            have hwn : IntKind.i64.wrap n = n := by rw [IntKind.wrap_i64]; omega
            obtain ⟨ad, had⟩ : ∃ ad, a1 + 2 + 2 + 4 + 2 = ad := ⟨_, rfl⟩
            rw [had] at hR
            have HAd := Lib.hid (show 0 ≤ ad ∧ ad ≤ s.size by omega)
            refine (num_yes HR3.out hs h4).mono ?_
            rw [had]
            rintro e w10 ⟨rfl, hr, ho⟩
            have HQ4 := Aside0.mk (HQ3.out.only HR3.out (by decide) ho)
            have HV4 := Aside0.mk (HV3.out.only HR3.out (by decide) ho)
            have HO4 := Aside0.mk (HO3.out.trans ho)
            have HR4 := Aside0.mk hr
            clear HR3 HQ3 HV3 HO3 ho h4 n3' had
            have z0 := hr.c0
            have z1 := hr.c1
            clear hr
            have q1 : ad ≤ 1000000 := by have := HAd.out; omega
            have q2 : 0 ≤ ad := HAd.out.1
            have q3 : (s.size : Int) ≤ 1000000 := by omega
            have hsub : IntKind.i64.wrap ((s.size : Int) - ad) = (s.size : Int) - ad := by rw [IntKind.wrap_i64]; omega
            go_wp2_with fail
            refine start_ (n := 12) (S := fun w' => w'.cell? ⟨g, 0, none⟩ = some (.string s) ∧ w'.cell? ⟨g, 1, none⟩ = some (.int .i64 ad)) (ds := []) (Array.replicate 12 false) (by kernel_rfl) (by kernel_rfl) rfl ⟨z0, z1⟩ (fun hS => ?_)
            refine dpure 0 (some 24) rfl rfl (by kernel_rfl) (fun _ _ _ h => h) (by rfl) (v := ?_) (a' := ?_) ?_ ?_ ?_
            rotate_left 2
            · intro w'; go_simp; with_reducible rfl
            · simp only [Act.put, List.setIfInBounds_toArray, List.set_cons_zero, List.set_cons_succ]; rfl
            refine dpure 1 (some 25) rfl rfl (by kernel_rfl) (fun _ _ _ h => h) (by rfl) (v := ?_) (a' := ?_) ?_ ?_ ?_
            rotate_left 2
            · intro w'; go_simp; with_reducible rfl
            · simp only [Act.put, List.setIfInBounds_toArray, List.set_cons_zero, List.set_cons_succ]; rfl
            refine dpure 2 (some 26) rfl rfl (by kernel_rfl) (fun _ _ _ h => h) (by rfl) (v := ?_) (a' := ?_) ?_ ?_ ?_
            rotate_left 2
            · intro w'; go_simp; with_reducible rfl
            · simp only [Act.put, List.setIfInBounds_toArray, List.set_cons_zero, List.set_cons_succ]; rfl
            refine dpure 3 (some 27) rfl rfl (by kernel_rfl) (fun _ _ _ h => h) (by rfl) (v := ?_) (a' := ?_) ?_ ?_ ?_
            rotate_left 2
            · intro w'; go_simp; with_reducible rfl
            · simp only [Act.put, List.setIfInBounds_toArray, List.set_cons_zero, List.set_cons_succ]; rfl
            refine dtake 4 (some 28) rfl rfl (by kernel_rfl) (fun _ _ _ h => h) (by rfl) hS (v := ?_) (a' := ?_) ?_ ?_ ?_
            rotate_left 2
            · rintro w' ⟨s0,s1⟩; go_simp; with_reducible rfl
            · simp only [Act.put, List.setIfInBounds_toArray, List.set_cons_zero, List.set_cons_succ]; rfl
            refine dpure 5 (some 29) rfl rfl (by kernel_rfl) (fun _ _ _ h => h) (by rfl) (v := ?_) (a' := ?_) ?_ ?_ ?_
            rotate_left 2
            · intro w'; go_simp; with_reducible rfl
            · simp only [Act.put, List.setIfInBounds_toArray, List.set_cons_zero, List.set_cons_succ]; rfl
            refine dpure 6 (some 30) rfl rfl (by kernel_rfl) (fun _ _ _ h => h) (by rfl) (v := ?_) (a' := ?_) ?_ ?_ ?_
            rotate_left 2
            · intro w'; go_simp; with_reducible rfl
            · simp only [Act.put, List.setIfInBounds_toArray, List.set_cons_zero, List.set_cons_succ]; rfl
            refine dpure 7 (some 31) rfl rfl (by kernel_rfl) (fun _ _ _ h => h) (by rfl) (v := ?_) (a' := ?_) ?_ ?_ ?_
            rotate_left 2
            · intro w'; go_simp; with_reducible rfl
            · simp only [Act.put, List.setIfInBounds_toArray, List.set_cons_zero, List.set_cons_succ]; rfl
            refine dpure 8 (some 32) rfl rfl (by kernel_rfl) (fun _ _ _ h => h) (by rfl) (v := ?_) (a' := ?_) ?_ ?_ ?_
            rotate_left 2
            · intro w'; go_simp; with_reducible rfl
            · simp only [Act.put, List.setIfInBounds_toArray, List.set_cons_zero, List.set_cons_succ]; rfl
            refine dtake 9 (some 33) rfl rfl (by kernel_rfl) (fun _ _ _ h => h) (by rfl) hS (v := ?_) (a' := ?_) ?_ ?_ ?_
            rotate_left 2
            · rintro w' ⟨s0,s1⟩; go_simp; with_reducible rfl
            · simp only [Act.put, List.setIfInBounds_toArray, List.set_cons_zero, List.set_cons_succ]; rfl
            refine dpure 10 (some 34) rfl rfl (by kernel_rfl) (fun _ _ _ h => h) (by rfl) (v := .int .i64 ((s.size : Int) - ad)) (a' := ?_) ?_ ?_ ?_
            rotate_left 1
            · intro w'; go_simp; first | done | rw [hsub]
            · simp only [Act.put, List.setIfInBounds_toArray, List.set_cons_zero, List.set_cons_succ]; rfl
            by_cases c1 : (s.size : Int) - ad < n
            · rw [if_pos c1] at hR
              refine dpure 11 (some 35) rfl rfl (by kernel_rfl) (fun _ _ _ h => h) (by rfl) (v := .bool true) (a' := ?_) ?_ ?_ ?_
              rotate_left 1
              · intro w'; go_simp; first | done | omega | simp [c1]
              · simp only [Act.put, List.setIfInBounds_toArray, List.set_cons_zero, List.set_cons_succ]; rfl
              refine done_ (by kernel_rfl) ?_
              clear c1
              go_wp2_with fail
              exact ⟨rfl, Ends.err hR.symm HO4.out.drew⟩
            rw [if_neg c1] at hR
            refine dpure 11 (some 35) rfl rfl (by kernel_rfl) (fun _ _ _ h => h) (by rfl) (v := .bool false) (a' := ?_) ?_ ?_ ?_
            rotate_left 1
            · intro w'; go_simp; first | done | omega | simp [c1]
            · simp only [Act.put, List.setIfInBounds_toArray, List.set_cons_zero, List.set_cons_succ]; rfl
            refine done_ (by kernel_rfl) ?_
            have q4 : ad + n ≤ 1000000 := by omega
            have q5 : 0 ≤ ad + n := by omega
            have HEn := Lib.hid (show ad ≤ ad + n ∧ ad + n ≤ s.size by omega)
            clear c1
            go_wp2_with fail
            refine (data_reads (w := w10.drew) (f0 := t0) (k := t) (c := c) (t := l) HR4.out HQ4.out HSm.out HAd.out.1 HEn.out.1 HEn.out.2).mono ?_
            intro e w11 ht
            have ho := HO4.out.drew.two ht.two HSz.out.1
            have hv := SAt.two (w := w10.drew) HV4.out ht.two hgr HLt.out.2
            cases hd : dataR s t (ad + n) ad with
            | error d =>
              rw [hd] at hR
              obtain rfl := ht.bad d hd
              exact ⟨rfl, Ends.err hR.symm ho⟩
            | ok x =>
              obtain ⟨⟨names, nums, texts⟩, a2⟩ := x
              rw [hd] at hR
              simp only [] at hR
              obtain ⟨rfl, hr11, v4, v5, v6, hx11, h4, h5, h6⟩ := ht.good _ _ _ _ hd
              have hfine := (dataR_all hd HAd.out).1.fine HSm.out t0 t c l
              obtain ⟨rc, hrc⟩ : ∃ rc : Rec, rc = ⟨t0, t, c, l, names, nums, texts⟩ := ⟨_, rfl⟩
              have HRc := Lib.hid hrc
              rw [← hrc] at hR
              have HF := Aside0.mk (show Fine rc by rw [hrc]; exact hfine)
              have HQ11 : Aside0 (SAt w11 q #[.string t0, .int .u16 t, .int .u16 c, .int .u32 l, v4, v5, v6] 44) := ⟨hx11⟩
              have HR11 := Aside0.mk hr11
              have HO11 := Aside0.mk ho
              have HV11 := Aside0.mk hv
              have hrat := recAt_of (r := rc) (by rw [hrc]; exact h4) (by rw [hrc]; exact h5) (by rw [hrc]; exact h6)
              have hrp : RecP w.heap.size rc (.agg #[.string t0, .int .u16 t, .int .u16 c, .int .u32 l, v4, v5, v6]) w11 := ⟨v4, v5, v6, by rw [hrc], by rw [hrc]; exact Kd.R_lower h4 HO4.out.size, by rw [hrc]; exact Kd.R_lower h5 HO4.out.size, by rw [hrc]; exact Kd.R_lower h6 HO4.out.size⟩
              have HRP := Aside0.mk hrp
              have HRA := Aside0.mk (show RecAt w11 (.agg #[.string t0, .int .u16 t, .int .u16 c, .int .u32 l, v4, v5, v6]) rc by rw [hrc] at hrat ⊢; exact hrat)
              obtain ⟨A4, n4, c4, rfl⟩ := R_anyslice h4
              obtain ⟨A5, n5, c5, rfl⟩ := R_anyslice h5
              obtain ⟨A6, n6, c6, rfl⟩ := R_anyslice h6
              clear ht hd ho hv hr11 hx11 h4 h5 h6 hfine hrat hrp hrc HQ4 HV4 HR4 z0 z1 hS
              have x0 := HQ11.out.is 0 rfl
              have x1 := HQ11.out.is 1 rfl
              have x2 := HQ11.out.is 2 rfl
              have x3 := HQ11.out.is 3 rfl
              have x4 := HQ11.out.is 4 rfl
              have x5 := HQ11.out.is 5 rfl
              have x6 := HQ11.out.is 6 rfl
              go_wp2_with fail
              refine (check_calls rc _ _ HRA.out HF.out).mono ?_
              obtain ⟨ck, hck⟩ : ∃ ck, checkF rc = ck := ⟨_, rfl⟩
              rw [hck] at hR ⊢
              rintro e w12 ⟨rfl, hb⟩
              have HQ12 := Aside0.mk (HQ11.out.below hb)
              have HV12 := Aside0.mk (HV11.out.below hb)
              have HR12 := Aside0.mk (HR11.out.below hb)
              have HO12 := Aside0.mk (HO11.out.trans (Only.of_below hb g))
              have HRP12 := Aside0.mk (HRP.out.below hb)
              clear hb x0 x1 x2 x3 x4 x5 x6 hck HRP
              by_cases k1 : ck = 0
              · rw [if_pos k1] at hR
                have d2 : (ck != 0) = false := by rw [bne_eq_false_iff_eq]; exact k1
                clear k1
                have x0 := HQ12.out.is 0 rfl
                have x1 := HQ12.out.is 1 rfl
                have x2 := HQ12.out.is 2 rfl
                have x3 := HQ12.out.is 3 rfl
                have x4 := HQ12.out.is 4 rfl
                have x5 := HQ12.out.is 5 rfl
                have x6 := HQ12.out.is 6 rfl
                have z0 := HV12.out.is 0 rfl
                have z1 := HV12.out.is 1 rfl
                have z2 := HV12.out.is 2 rfl
                have z3 := HV12.out.is 3 rfl
                have z4 := HV12.out.is 4 rfl
                have z5 := HV12.out.is 5 rfl
                have z6 := HV12.out.is 6 rfl
                have g0 := HV12.out.frozen 0
                have g1 := HV12.out.frozen 1
                have g2 := HV12.out.frozen 2
                have g3 := HV12.out.frozen 3
                have g4 := HV12.out.frozen 4
                have g5 := HV12.out.frozen 5
                have g6 := HV12.out.frozen 6
                have hqr := HLt.out.2
                have hrq := Ne.symm HLt.out.2
                go_wp2_with fail
                have L0 : Laying w w12 g r s a2 _ _ := ⟨HV12.out, HR12.out, HO12.out, hgr, HSz.out.2⟩
                have L1 := L0.step 0 (.string t0)
                have L2 := L1.step 1 (.int .u16 t)
                have L3 := L2.step 2 (.int .u16 c)
                have L4 := L3.step 3 (.int .u32 l)
                have L5 := L4.step 4 (.slice A4 n4 c4)
                have L6 := L5.step 5 (.slice A5 n5 c5)
                have L7 := L6.step 6 (.slice A6 n6 c6)
                have P7 := ((((((HRP12.out.set L0.v 0 (.string t0)).set L1.v 1 (.int .u16 t)).set L2.v 2 (.int .u16 c)).set L3.v 3 (.int .u32 l)).set L4.v 4 (.slice A4 n4 c4)).set L5.v 5 (.slice A5 n5 c5)).set L6.v 6 (.slice A6 n6 c6)
                clear L0 L1 L2 L3 L4 L5 L6 z0 z1 z2 z3 z4 z5 z6 g0 g1 g2 g3 g4 g5 g6 x0 x1 x2 x3 x4 x5 x6
                generalize hW : ((((((w12.setCell ⟨r, 0, none⟩ (.string t0)).setCell ⟨r, 1, none⟩ (.int .u16 t)).setCell ⟨r, 2, none⟩ (.int .u16 c)).setCell ⟨r, 3, none⟩ (.int .u32 l)).setCell ⟨r, 4, none⟩ (.slice A4 n4 c4)).setCell ⟨r, 5, none⟩ (.slice A5 n5 c5)).setCell ⟨r, 6, none⟩ (.slice A6 n6 c6) = w13 at *
                have HV9 : SAt w13 r #[.string t0, .int .u16 t, .int .u16 c, .int .u32 l, .slice A4 n4 c4, .slice A5 n5 c5, .slice A6 n6 c6] 44 := L7.v
                have z0 := HV9.is 0 rfl
                have z1 := HV9.is 1 rfl
                have z2 := HV9.is 2 rfl
                have z3 := HV9.is 3 rfl
                have z4 := HV9.is 4 rfl
                have z5 := HV9.is 5 rfl
                have z6 := HV9.is 6 rfl
                refine bodyPost_ret (v := .agg #[.string t0, .int .u16 t, .int .u16 c, .int .u32 l, .slice A4 n4 c4, .slice A5 n5 c5, .slice A6 n6 c6]) (by simp [results, Try.results80, go_sem, z0, z1, z2, z3, z4, z5, z6]) rfl ?_
                exact Ends.ok hR.symm P7 L7.rd L7.o
              · rw [if_neg k1] at hR
                have d2 : (ck != 0) = true := by rw [bne_iff_ne]; exact k1
                clear k1
                go_wp2_with fail
                exact ⟨rfl, Ends.err hR.symm HO12.out⟩
def recsR (s : ByteArray) : Nat → List Rec → Int → Except Int (List Rec × Int)
  | 0, out, a => .ok (out, a)
  | k + 1, out, a => match recR s a with
    | .error c => .error c
    | .ok (r, a') => recsR s k (out ++ [r]) a'
def RecsP (B : Nat) (l : List Rec) (v : Value) (w : World) : Prop := Kd.R kRec 44 w B (fun _ => True) v l
theorem recR_at {s : ByteArray} {a : Int} {r : Rec} {a' : Int} (h : recR s a = .ok (r, a')) : 0 ≤ a' ∧ a' ≤ s.size := by
  unfold recR at h
  cases hn : nameAt s a with
  | error c => rw [hn] at h; exact absurd h (by simp)
  | ok x =>
    obtain ⟨b, a1⟩ := x
    rw [hn] at h
    simp only [] at h
    cases h1 : getF s a1 2 with
    | none => rw [h1] at h; exact absurd h (by simp)
    | some t =>
      rw [h1] at h
      simp only [] at h
      cases h2 : getF s (a1 + 2) 2 with
      | none => rw [h2] at h; exact absurd h (by simp)
      | some c =>
        rw [h2] at h
        simp only [] at h
        cases h3 : getF s (a1 + 2 + 2) 4 with
        | none => rw [h3] at h; exact absurd h (by simp)
        | some l =>
          rw [h3] at h
          simp only [] at h
          cases h4 : getF s (a1 + 2 + 2 + 4) 2 with
          | none => rw [h4] at h; exact absurd h (by simp)
          | some n =>
            rw [h4] at h
            simp only [] at h
            have g4 := get2 h4
            by_cases c1 : (s.size : Int) - (a1 + 2 + 2 + 4 + 2) < n
            · rw [if_pos c1] at h; exact absurd h (by simp)
            rw [if_neg c1] at h
            cases hd : dataR s t (a1 + 2 + 2 + 4 + 2 + n) (a1 + 2 + 2 + 4 + 2) with
            | error d => rw [hd] at h; exact absurd h (by simp)
            | ok x =>
              obtain ⟨⟨names, nums, texts⟩, a2⟩ := x
              rw [hd] at h
              simp only [] at h
              have := (dataR_all hd (by omega)).2
              split at h
              · have := (Prod.mk.inj (Except.ok.inj h)).2
                omega
              · exact absurd h (by simp)
set_option maxHeartbeats 8000000 in
set_option maxRecDepth 100000 in
theorem records_reads {w : World} {g : Nat} {s : ByteArray} {a : Int} {count : Nat} (h : RAt w g s a) (hs : s.size ≤ 1000000) (h0 : 0 ≤ a) (ha : a ≤ s.size) (hc : count ≤ 256) :
    Calls Try.prog 69 #[.pointer (some ⟨g, 0, none⟩), .int .i64 count] w fun e w' => Ends (RecsP w.heap.size) (recsR s count [] a) w g s e w' := by
  obtain ⟨R, hR⟩ : ∃ R, recsR s count [] a = R := ⟨_, rfl⟩
  rw [hR]
  have HR := Aside0.mk h
  have HE := Aside0.mk hR
  have HO := Aside0.mk (Only.refl g w)
  have HS := Lib.hid (show s.size ≤ 1000000 from hs)
  have HA := Lib.hid (show 0 ≤ a ∧ a ≤ s.size from ⟨h0, ha⟩)
  have p1 : (count : Int) ≤ 256 := by omega
  have HC := Lib.hid hc
  clear h hR hs h0 ha hc
  go_enter Try.func69, Try.ntmps69
  go_wp2_with fail
  go_loopg [5, 7] count (fun kq v5 v7 w' => ∃ (i : Nat) (out : List Rec) (at' : Int), v7 = .int .i64 i ∧ Aside0 (recsR s kq out at' = R) ∧ Aside0 (kq + i = count) ∧ Aside0 (out.length = i) ∧ Aside0 (0 ≤ at' ∧ at' ≤ s.size) ∧ Aside0 (RAt w' g s at') ∧ Aside0 (Only g w w') ∧ Aside0 (RecsP w.heap.size out v5 w'))
  case atStart => exact ⟨0, [], a, rfl, HE, ⟨rfl⟩, ⟨rfl⟩, ⟨HA.out⟩, HR, HO, ⟨Kd.R_nil _ _ _ _ _⟩⟩
  case round =>
    clear HE HO HR HA
    obtain ⟨i, out, at', rfl, HE, HK, HL, HA, HR, HO, HB⟩ := hrel
    have he := HE.out
    clear HE
    cases gk with
    | zero =>
      have HE := Lib.hid he
      obtain rfl : i = count := by have := HK.out; omega
      clear he
      go_wp2_with fail
      go_ret
      exact Ends.ok HE.out.symm HB.out HR.out HO.out
    | succ k =>
      unfold recsR at he
      have q1 : (i : Int) < (count : Int) := by have := HK.out; omega
      go_wp2_with fail
      refine (record_reads HR.out HS.out HA.out.1 HA.out.2).mono ?_
      intro e w2 ht
      cases hn : recR s at' with
      | error c =>
        rw [hn] at he
        obtain rfl := ht.bad c hn
        exact ⟨rfl, Ends.err he.symm (HO.out.trans ht.only)⟩
      | ok x =>
        obtain ⟨rc, a2⟩ := x
        rw [hn] at he
        simp only [] at he
        have HE := Aside0.mk he
        have HA2 := Aside0.mk (recR_at hn)
        obtain ⟨v, rfl, hp, hr⟩ := ht.good rc a2 hn
        obtain ⟨v4, v5', v6, rfl, h4, h5, h6⟩ := hp
        have HR2 := Aside0.mk hr
        have HO2 := Aside0.mk (HO.out.trans ht.only)
        have hb2 : RecsP w.heap.size out u5 w2 := R_only HB.out HR.out (by decide) ht.only
        have HB2 := Aside0.mk hb2
        have H4 := Aside0.mk (Kd.R_apartR (Kd.R_lower h4 HO.out.size) hb2 (by decide))
        have H5 := Aside0.mk (Kd.R_apartR (Kd.R_lower h5 HO.out.size) hb2 (by intro q hq; rw [show q = 41 by simpa [Kd.int, Kd.scalar] using hq]; decide))
        have H6 := Aside0.mk (Kd.R_apartR (Kd.R_lower h6 HO.out.size) hb2 (by decide))
        have HL1 := Aside0.mk (show (out.length + 1) * 96 ≤ 140737488355328 by have := HL.out; have := HK.out; have := HC.out; omega)
        obtain ⟨A4, n4, c4, rfl⟩ := R_anyslice h4
        obtain ⟨A5, n5, c5, rfl⟩ := R_anyslice h5
        obtain ⟨A6, n6, c6, rfl⟩ := R_anyslice h6
        clear ht hn he hr h4 h5 h6 hb2
        go_wp2_with ((with_reducible refine gate_builtin (b := .append) (xs := #[.tmp 9, .tmp 12]) rfl ?_); at_builtin; go_must (refine Kd.R_append kRec (w0 := w2) w.heap.size rfl (.tmp 9) (.tmp 12) 24 44 (.agg #[(.string ⟨#[]⟩), (.int .u16 0), (.int .u16 0), (.int .u32 0), (.slice none 0 0), (.slice none 0 0), (.slice none 0 0)]) 96 rfl Try.underlying24 infoRec rfl (by decide) (by decide) u5 out rc [.string rc.f0, .int .u16 rc.f1, .int .u16 rc.f2, .int .u32 rc.f3, .slice A4 n4 c4, .slice A5 n5 c5, .slice A6 n6 c6] (fun _ => True) (fun k => True ∧ some k ≠ u5.ownBlock) rfl rfl (kRec_mkM w2 w.heap.size _ rc H4.out H5.out H6.out) (fun k hk => ⟨trivial, hk.2⟩) (fun _ _ => trivial) HB2.out (Below.refl _ _) HO2.out.size HL1.out ?_; intro va wa hoa hba hga hata; have HR4 := Aside0.mk (show RAt wa g s a2 from blk_grown HR2.out hga (Kd.R_ne HB2.out HR2.out (by decide))); have HO4 := Aside0.mk (HO2.out.of_grown hga (Kd.R_base HB2.out)); have HB4 := Aside0.mk hoa; clear hoa hba hga hata))
        go_roundg k
        case measure => omega
        case rel => exact ⟨i + 1, _, a2, by go_num, HE, ⟨by have := HK.out; omega⟩, ⟨by have := HL.out; rw [List.length_append, List.length_singleton]; omega⟩, HA2, HR4, HO4, HB4⟩
end Go.Proofs.Ytbbeikdbioelgaa.M
