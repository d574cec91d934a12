/- Walk of nunciolaw07.awake: the answers that the document fixes. -/
import Derived.Test.YtbbeikdbioelgaaMWrite
set_option linter.unusedVariables false
set_option linter.unusedSimpArgs false
namespace Go.Proofs.Ytbbeikdbioelgaa.M
open Go.RowKit Go.Maps Go.Proofs.YtbbeikdbioelgaaW.PrintWords Go.Proofs.YtbbeikdbioelgaaW.PrintLast Go.Proofs.YtbbeikdbioelgaaW.PrintMore
attribute [local go_sem] max2_int min2_int max_two min_two max_three min_three max_four min_four
attribute [local go_sem ↓] Go.wp_at_zero Go.wp_at_succ

def awQ : ByteArray := ⟨#[3, 119, 119, 119, 2, 101, 120, 0]⟩
def awN : ByteArray := ⟨#[1, 97, 2, 101, 120, 0]⟩
def awR : Rec := ⟨awQ, 5, 0, 0, [awN], [], []⟩
def awM : Msg := ⟨0, 0, [⟨awQ, 0, 0⟩], [awR], [], []⟩
def awZ : Msg := ⟨0, 0, [⟨⟨#[]⟩, 0, 0⟩], [], [], []⟩
def awS : ByteArray := (writeM awM).1
theorem aw_check : checkM awM = 0 := by decide +kernel
theorem aw_code : (writeM awM).2 = 0 := by decide +kernel
theorem aw_size : awS.size = 40 := by decide +kernel
theorem aw_mid : awS.extract 24 26 = ⟨#[192, 12]⟩ := by decide +kernel
theorem aw_end : awS.extract 36 40 = ⟨#[1, 97, 192, 16]⟩ := by decide +kernel
theorem awZ_check : checkM awZ = 40 := by decide +kernel
theorem C_one {α : Type} {K : Kd α} {w : World} {x : α} {b : Nat} {cs : Array Value} {t : TypeId} (hb : w.heap[b]? = some (.cells cs t (0, 0))) (hl : cs.toList.length = K.sz) (hK : K.K w x cs.toList) : K.C w (some ⟨b, 0, none⟩) 1 [x] := by
  refine ⟨rfl, by simp, fun _ => ⟨_, rfl, fun j p hp => ?_⟩⟩
  have hj : j = 0 := by
    have := (List.getElem?_eq_some_iff.1 hp).1
    simpa using this
  subst hj
  obtain rfl : x = p := by simpa using hp
  refine ⟨_, hl, hK, fun i u hu => ?_⟩
  have e : (⟨b, 0, none⟩ : Addr).add (0 * K.sz + i) = ⟨b, i, none⟩ := by simp [Addr.add]; exact Eq.symm
  rw [e, blk_cell hb i]
  simpa using hu
theorem aw_at {W : World} {b b1 b2 : Nat} (h0 : W.heap[b]? = some (.cells #[.string awQ, .int .u16 0, .int .u16 0] 39 (0, 0))) (h1 : W.heap[b1]? = some (.cells #[.string awN] 9 (0, 0)))
    (h2 : W.heap[b2]? = some (.cells #[.string awQ, .int .u16 5, .int .u16 0, .int .u32 0, .slice (some ⟨b1, 0, none⟩) 1 1, .slice none 0 0, .slice none 0 0] 44 (0, 0))) :
    MsgAt W (.agg #[.int .u16 0, .int .u16 0, .slice (some ⟨b, 0, none⟩) 1 1, .slice (some ⟨b2, 0, none⟩) 1 1, .slice none 0 0, .slice none 0 0]) awM :=
  ⟨_, _, _, _, _, _, _, _, rfl, Nat.le_refl _, C_one h0 rfl (kQues_mk W _), Nat.le_refl _,
    C_one h2 rfl (kRec_mk W awR (Nat.le_refl 1) (C_one h1 rfl rfl) (Nat.le_refl _) (Kd.C_nil _ W) (Nat.le_refl _) (Kd.C_nil _ W)), Nat.le_refl _, Kd.C_nil _ W, Nat.le_refl _, Kd.C_nil _ W⟩
theorem awZ_at {W : World} {b : Nat} (h0 : W.heap[b]? = some (.cells #[.string ⟨#[]⟩, .int .u16 0, .int .u16 0] 39 (0, 0))) :
    MsgAt W (.agg #[.int .u16 0, .int .u16 0, .slice (some ⟨b, 0, none⟩) 1 1, .slice none 0 0, .slice none 0 0, .slice none 0 0]) awZ :=
  ⟨_, _, _, _, _, _, _, _, rfl, Nat.le_refl _, C_one h0 rfl (kQues_mk W _), Nat.le_refl _, Kd.C_nil _ W, Nat.le_refl _, Kd.C_nil _ W, Nat.le_refl _, Kd.C_nil _ W⟩
theorem awR_in {r : Rec} (h : r ∈ awM.ans ++ awM.auth ++ awM.add) : r = awR := by simpa [awM] using h
theorem aw_ok : MsgOk awM where
  fine := fun r h => by
    obtain rfl := awR_in h
    exact ⟨by decide, by decide +kernel, by decide, by decide, by decide⟩
  wf := fun r h => by
    obtain rfl := awR_in h
    exact ⟨by decide, by decide, by decide, by decide, by decide, by decide⟩
  qs := fun q h => by
    obtain rfl : q = ⟨awQ, 0, 0⟩ := by simpa [awM] using h
    decide
  id0 := by decide
  id1 := by decide
  fl0 := by decide
  fl1 := by decide
  n0 := by decide
  n1 := by decide
  n2 := by decide
  n3 := by decide
theorem awZ_ok : MsgOk awZ where
  fine := fun r h => absurd h (by simp [awZ])
  wf := fun r h => absurd h (by simp [awZ])
  qs := fun q h => by
    obtain rfl : q = ⟨⟨#[]⟩, 0, 0⟩ := by simpa [awZ] using h
    decide
  id0 := by decide
  id1 := by decide
  fl0 := by decide
  fl1 := by decide
  n0 := by decide
  n1 := by decide
  n2 := by decide
  n3 := by decide
theorem aw_write : ∃ S, writeM awM = (S, 0) ∧ S.size = 40 ∧ S.extract 24 26 = ⟨#[192, 12]⟩ ∧ S.extract 36 40 = ⟨#[1, 97, 192, 16]⟩ := ⟨awS, by rw [← aw_code]; rfl, aw_size, aw_mid, aw_end⟩
theorem aw_world (w : World) : ∃ W : World, W = ((((w.alloc (.cells #[.string ⟨#[3, 119, 119, 119, 2, 101, 120, 0]⟩, .int .u16 0, .int .u16 0] 39)).alloc (.cells #[.string ⟨#[1, 97, 2, 101, 120, 0]⟩] 9)).alloc (.cells #[.string ⟨#[3, 119, 119, 119, 2, 101, 120, 0]⟩, .int .u16 5, .int .u16 0, .int .u32 0, .slice (some ⟨w.heap.size + 1, 0, none⟩) 1 1, .slice none 0 0, .slice none 0 0] 44)).alloc (.cells #[.int .u16 0, .int .u16 0, .slice (some ⟨w.heap.size, 0, none⟩) 1 1, .slice (some ⟨w.heap.size + 1 + 1, 0, none⟩) 1 1, .slice none 0 0, .slice none 0 0] 26)) ∧ MsgAt W (.agg #[.int .u16 0, .int .u16 0, .slice (some ⟨w.heap.size, 0, none⟩) 1 1, .slice (some ⟨w.heap.size + 1 + 1, 0, none⟩) 1 1, .slice none 0 0, .slice none 0 0]) awM ∧ Below w.heap.size w W ∧ W.heap[w.heap.size + 1 + 1 + 1]? = some (.cells #[.int .u16 0, .int .u16 0, .slice (some ⟨w.heap.size, 0, none⟩) 1 1, .slice (some ⟨w.heap.size + 1 + 1, 0, none⟩) 1 1, .slice none 0 0, .slice none 0 0] 26 (0, 0)) := by
  refine ⟨_, rfl, aw_at (b1 := w.heap.size + 1) ?_ ?_ ?_, below_alloc (below_alloc (below_alloc (below_alloc (Below.refl _ _) _) _) _) _, ?_⟩
  · exact blk_alloc (blk_alloc (blk_alloc (blk_new _ _) _) _) _
  · have := blk_alloc (blk_alloc (blk_new (w.alloc (.cells #[.string ⟨#[3, 119, 119, 119, 2, 101, 120, 0]⟩, .int .u16 0, .int .u16 0] 39)) (.cells #[.string ⟨#[1, 97, 2, 101, 120, 0]⟩] 9)) (.cells #[.string ⟨#[3, 119, 119, 119, 2, 101, 120, 0]⟩, .int .u16 5, .int .u16 0, .int .u32 0, .slice (some ⟨w.heap.size + 1, 0, none⟩) 1 1, .slice none 0 0, .slice none 0 0] 44)) (.cells #[.int .u16 0, .int .u16 0, .slice (some ⟨w.heap.size, 0, none⟩) 1 1, .slice (some ⟨w.heap.size + 1 + 1, 0, none⟩) 1 1, .slice none 0 0, .slice none 0 0] 26)
    rw [World.size_alloc] at this
    exact this
  · have := blk_alloc (blk_new ((w.alloc (.cells #[.string ⟨#[3, 119, 119, 119, 2, 101, 120, 0]⟩, .int .u16 0, .int .u16 0] 39)).alloc (.cells #[.string ⟨#[1, 97, 2, 101, 120, 0]⟩] 9)) (.cells #[.string ⟨#[3, 119, 119, 119, 2, 101, 120, 0]⟩, .int .u16 5, .int .u16 0, .int .u32 0, .slice (some ⟨w.heap.size + 1, 0, none⟩) 1 1, .slice none 0 0, .slice none 0 0] 44)) (.cells #[.int .u16 0, .int .u16 0, .slice (some ⟨w.heap.size, 0, none⟩) 1 1, .slice (some ⟨w.heap.size + 1 + 1, 0, none⟩) 1 1, .slice none 0 0, .slice none 0 0] 26)
    rw [World.size_alloc, World.size_alloc] at this
    exact this
  · have := blk_new (((w.alloc (.cells #[.string ⟨#[3, 119, 119, 119, 2, 101, 120, 0]⟩, .int .u16 0, .int .u16 0] 39)).alloc (.cells #[.string ⟨#[1, 97, 2, 101, 120, 0]⟩] 9)).alloc (.cells #[.string ⟨#[3, 119, 119, 119, 2, 101, 120, 0]⟩, .int .u16 5, .int .u16 0, .int .u32 0, .slice (some ⟨w.heap.size + 1, 0, none⟩) 1 1, .slice none 0 0, .slice none 0 0] 44)) (.cells #[.int .u16 0, .int .u16 0, .slice (some ⟨w.heap.size, 0, none⟩) 1 1, .slice (some ⟨w.heap.size + 1 + 1, 0, none⟩) 1 1, .slice none 0 0, .slice none 0 0] 26)
    rw [World.size_alloc, World.size_alloc, World.size_alloc] at this
    exact this
set_option maxHeartbeats 2000000 in
set_option maxRecDepth 100000 in
theorem awake_calls (w : World) :
    Calls Try.prog 13 #[] w fun e w' => e = .returned (.bool true) ∧ Below w.heap.size w w' := by
  obtain ⟨S, hS, hs, hs1, hs2⟩ := aw_write
  have HS := Lib.hid hS
  clear hS
  go_enter Try.func13, Try.ntmps13
  go_wp2_with fail
  obtain ⟨W, hW, hM, hB, hX⟩ := aw_world w
  rw [← hW]
  have HM := Aside0.mk hM
  have HB := Aside0.mk hB
  have HX := Aside0.mk hX
  clear hW hM hB hX
  refine (write_calls awM _ _ HM.out aw_ok).mono ?_
  rintro e w1 ⟨rfl, hb⟩
  rw [HS.out]
  have HM1 := Aside0.mk (HM.out.below hb)
  have HX1 := Aside0.mk (blk_below HX.out hb)
  have HB1 := Aside0.mk (below_step HB.out hb)
  clear hb
  have z0 : w1.cell? ⟨w.heap.size + 1 + 1 + 1, 0, none⟩ = some (.int .u16 0) := (blk_cell HX1.out 0).trans rfl
  have z1 : w1.cell? ⟨w.heap.size + 1 + 1 + 1, 1, none⟩ = some (.int .u16 0) := (blk_cell HX1.out 1).trans rfl
  have z2 : w1.cell? ⟨w.heap.size + 1 + 1 + 1, 2, none⟩ = some (.slice (some ⟨w.heap.size, 0, none⟩) 1 1) := (blk_cell HX1.out 2).trans rfl
  have z3 : w1.cell? ⟨w.heap.size + 1 + 1 + 1, 3, none⟩ = some (.slice (some ⟨w.heap.size + 1 + 1, 0, none⟩) 1 1) := (blk_cell HX1.out 3).trans rfl
  have z4 : w1.cell? ⟨w.heap.size + 1 + 1 + 1, 4, none⟩ = some (.slice none 0 0) := (blk_cell HX1.out 4).trans rfl
  have z5 : w1.cell? ⟨w.heap.size + 1 + 1 + 1, 5, none⟩ = some (.slice none 0 0) := (blk_cell HX1.out 5).trans rfl
  go_wp2_with fail
  refine (checkM_calls awM _ _ HM1.out aw_ok).mono ?_
  rw [aw_check]
  rintro e w2 ⟨rfl, hb⟩
  have HB2 := Aside0.mk (below_step HB1.out hb)
  clear hb z0 z1 z2 z3 z4 z5
  go_wp2_with fail
  refine (checkM_calls awZ _ _ (awZ_at (blk_new _ _)) awZ_ok).mono ?_
  rw [awZ_check]
  rintro e w3 ⟨rfl, hb⟩
  have HB3 := Aside0.mk (below_step HB2.out (below_step (below_alloc (Below.refl w2.heap.size w2) _) hb))
  clear hb
  go_wp2_with fail
  go_ret
  exact ⟨rfl, HB3.out⟩
end Go.Proofs.Ytbbeikdbioelgaa.M
