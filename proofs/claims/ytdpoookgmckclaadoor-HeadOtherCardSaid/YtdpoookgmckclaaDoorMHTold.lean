/- What a head tells, in memory: two maps, three numbers and texts. -/
import Derived.Test.YtdpoookgmckclaaDoorMHRight
import Derived.Maps.OwnSet
import Derived.Maps.Ext
import Derived.Maps.StringElems
import Derived.StringKeys
import Derived.StillTailTactics
import Derived.Deep.DeepMust
set_option linter.unusedVariables false
set_option linter.unusedSimpArgs false
namespace Go.Proofs.YtdpoookgmckclaaDoor.M
open Go.RowKit Go.Maps Go.Proofs.YtdpoookgmckclaaDoorW.PrintWords Go.Proofs.YtdpoookgmckclaaDoorW.PrintLast Go.Proofs.YtdpoookgmckclaaDoorW.PrintMore
theorem keyedH : Keyed Tryd.prog 9 := string_keyed Tryd.underlying9
theorem zeroIH (w : World) : (zeroValue 3).run Tryd.prog w = .ok (.int .i64 0) w := by kernel_rfl
theorem zeroSH (w : World) : (zeroValue 9).run Tryd.prog w = .ok (.string ⟨#[]⟩) w := by kernel_rfl
def TRep (D : DataW Unit) (c : List Fld) : Prop := ∀ n : ByteArray, D.atKey (.string n.data.toList) (.lit (.int .i64 0)) = .lit (.int .i64 (b2n (hasN c n) : Nat))
def VRep (D : DataW Unit) (c : List Fld) : Prop := ∀ n : ByteArray, D.atKey (.string n.data.toList) (.lit (.string [])) = .lit (.string (valN c n).data.toList)
theorem keyH (n : ByteArray) (hn : n.size ≤ maxLen) : keyOf Tryd.prog 9 (.string n) = some (.string n.data.toList) := Go.WideMaps.keyOf_string_mk Tryd.underlying9 hn
theorem isKey (l : List UInt8) : WideAt.IsKeyLit (.string l) := by first | trivial | (unfold WideAt.IsKeyLit; trivial)
theorem data_ne {s t : ByteArray} (h : s ≠ t) : s.data.toList ≠ t.data.toList := fun e => h (ByteArray.ext (Array.toList_inj.1 e))
theorem TRep.nil : TRep (.map []) [] := fun n => rfl
theorem VRep.nil : VRep (.map []) [] := fun n => rfl
theorem TRep.add {D : DataW Unit} {c : List Fld} (h : TRep D c) (hD : IsMap D) (f : Fld) (hf : hasN c f.1 = false) : TRep (D.put (.string f.1.data.toList) (.lit (.int .i64 1))) (c ++ [f]) := by
  intro n
  rw [hasN_app]
  by_cases e : n = f.1
  · subst e
    rw [Maps.atKey_put_same hD (isKey _), hf]
    simp [hasN, b2n]
  · rw [Maps.atKey_put_other (fun x => data_ne e (by injection x)), h n]
    have : hasN [f] n = false := by simp [hasN]; exact fun x => e x.symm
    rw [this, Bool.or_false]
theorem VRep.add {D : DataW Unit} {c : List Fld} (h : VRep D c) (hD : IsMap D) (f : Fld) (hf : hasN c f.1 = false) : VRep (D.put (.string f.1.data.toList) (.lit (.string f.2.data.toList))) (c ++ [f]) := by
  intro n
  rw [valN_app]
  by_cases e : n = f.1
  · subst e
    rw [Maps.atKey_put_same hD (isKey _), hf, if_neg (by decide)]
    simp [valN]
  · rw [Maps.atKey_put_other (fun x => data_ne e (by injection x)), h n]
    by_cases hn : hasN c n = true
    · rw [if_pos hn]
    · rw [if_neg hn]
      have h1 : valN [f] n = ⟨#[]⟩ := by simp [valN, List.find?_cons]; rw [decide_eq_false (fun x => e x.symm)]; rfl
      have h2 : valN c n = ⟨#[]⟩ := by
        unfold valN
        rw [List.find?_eq_none.2]
        · rfl
        · intro g hg e2
          exact hn (List.any_eq_true.2 ⟨g, hg, e2⟩)
      rw [h1, h2]
section
variable {w w1 : World} {b N : Nat} {D : DataW Unit} {c : List Fld}
set_option maxRecDepth 100000 in
theorem look_t (hM : w.ownsMap Tryd.prog 9 (plainElem Tryd.prog 3) b N D) (hR : TRep D c) (n : ByteArray) (hn : n.size ≤ maxLen) : (Instr.lookup 50 (.map (some b)) (.string n) false).run Tryd.prog w = .ok (.int .i64 (b2n (hasN c n) : Nat)) w := by
  obtain ⟨x, hrun, hat, _⟩ := hM.lookup_int keyedH Tryd.underlying50 Tryd.underlying3 (zeroIH w) (keyH n hn)
  rw [hR n] at hat
  injection hat with hat
  injection hat with _ hat
  exact hrun.trans (congrArg (fun y => Result.ok (Value.int .i64 y) w) hat.symm)
set_option maxRecDepth 100000 in
theorem look_v (hM : w.ownsMap Tryd.prog 9 (plainElem Tryd.prog 9) b N D) (hR : VRep D c) (n : ByteArray) (hn : n.size ≤ maxLen) : (Instr.lookup 51 (.map (some b)) (.string n) false).run Tryd.prog w = .ok (.string (valN c n)) w := by
  obtain ⟨x, ps, hrun, hv⟩ := hM.lookup keyedH Tryd.underlying51 (zeroSH w) (plainElem_string (s := ⟨#[]⟩) Tryd.underlying9 (by decide)) (keyH n hn)
  obtain ⟨s, rfl, hz, _⟩ := plainElem_string_inv Tryd.underlying9 hv
  have h1 := congrArg Prod.fst hz
  have h2 : D.atKey (.string n.data.toList) (.lit (.string [])) = .lit (.string s.data.toList) := h1
  rw [hR n] at h2
  injection h2 with h2
  injection h2 with h2
  have e : valN c n = s := ByteArray.ext (Array.toList_inj.1 h2)
  exact hrun.trans (congrArg (fun y => Result.ok (Value.string y) w) e.symm)
end
/-- What a head tells so far. -/
structure TAt (w0 w : World) (g mt mv : Nat) (c : List Fld) (ps : Int) (me : ByteArray) (le : Int) (N : Nat) : Prop where
  box : SAt w g #[.map (some mt), .map (some mv), .int .i64 ps, .string me, .int .i64 le] 53
  times : ∃ D : DataW Unit, w.ownsMap Tryd.prog 9 (plainElem Tryd.prog 3) mt N D ∧ TRep D c
  value : ∃ D : DataW Unit, w.ownsMap Tryd.prog 9 (plainElem Tryd.prog 9) mv N D ∧ VRep D c
  gt : g ≠ mt
  gv : g ≠ mv
  tv : mt ≠ mv
  bg : w0.heap.size ≤ g
  bt : w0.heap.size ≤ mt
  bv : w0.heap.size ≤ mv
  below : Below w0.heap.size w0 w
theorem map_far {w w1 : World} {e b N : Nat} {D : DataW Unit} (h : w.ownsMap Tryd.prog 9 (plainElem Tryd.prog e) b N D) (hb : w1.heap[b]? = w.heap[b]?) : w1.ownsMap Tryd.prog 9 (plainElem Tryd.prog e) b N D := by
  obtain ⟨es, clock, he, hr⟩ := h
  exact ⟨es, clock, hb.trans he, hr⟩
section
variable {w0 w w1 : World} {g mt mv N : Nat} {c : List Fld} {ps le : Int} {me : ByteArray}
theorem TAt.more (h : TAt w0 w g mt mv c ps me le N) {M : Nat} (hm : N ≤ M) : TAt w0 w g mt mv c ps me le M := by
  obtain ⟨h1, ⟨D, hM, hR⟩, ⟨E, hM2, hR2⟩, h2, h3, h4, h5, h6, h7, h8⟩ := h
  exact ⟨h1, ⟨D, hM.mono hm, hR⟩, ⟨E, hM2.mono hm, hR2⟩, h2, h3, h4, h5, h6, h7, h8⟩
theorem TAt.step (h : TAt w0 w g mt mv c ps me le N) (hb : Below w.heap.size w w1) : TAt w0 w1 g mt mv c ps me le N := by
  obtain ⟨h1, ⟨D, hM, hR⟩, ⟨E, hM2, hR2⟩, h2, h3, h4, h5, h6, h7, h8⟩ := h
  exact ⟨h1.below hb, ⟨D, map_far hM (hb.block mt hM.lt), hR⟩, ⟨E, map_far hM2 (hb.block mv hM2.lt), hR2⟩, h2, h3, h4, h5, h6, h7, h8.trans (hb.mono h8.size)⟩
theorem TAt.drew (h : TAt w0 w g mt mv c ps me le N) : TAt w0 w.drew g mt mv c ps me le N := h.step (below_drew (Below.refl _ _))
theorem TAt.lt (h : TAt w0 w g mt mv c ps me le N) : g < w.heap.size := h.box.lt
theorem TAt.lookT (h : TAt w0 w g mt mv c ps me le N) (n : ByteArray) (hn : n.size ≤ maxLen) : (Instr.lookup 50 (.map (some mt)) (.string n) false).run Tryd.prog w = .ok (.int .i64 (b2n (hasN c n) : Nat)) w := by
  obtain ⟨D, hM, hR⟩ := h.times
  exact look_t hM hR n hn
theorem TAt.lookV (h : TAt w0 w g mt mv c ps me le N) (n : ByteArray) (hn : n.size ≤ maxLen) : (Instr.lookup 51 (.map (some mv)) (.string n) false).run Tryd.prog w = .ok (.string (valN c n)) w := by
  obtain ⟨D, hM, hR⟩ := h.value
  exact look_v hM hR n hn
/-- A store into the head's own block. -/
theorem TAt.set (h : TAt w0 w g mt mv c ps me le N) (j : Nat) (u : Value) {ps' le' : Int} {me' : ByteArray} (hc : (#[.map (some mt), .map (some mv), .int .i64 ps, .string me, .int .i64 le] : Array Value).setIfInBounds j u = #[.map (some mt), .map (some mv), .int .i64 ps', .string me', .int .i64 le']) : TAt w0 (w.setCell ⟨g, j, none⟩ u) g mt mv c ps' me' le' N := by
  obtain ⟨h1, ⟨D, hM, hR⟩, ⟨E, hM2, hR2⟩, h2, h3, h4, h5, h6, h7, h8⟩ := h
  exact ⟨by have := h1.set j u; rw [hc] at this; exact this, ⟨D, map_far hM (Below.heap_setCell w _ u mt h2.symm), hR⟩, ⟨E, map_far hM2 (Below.heap_setCell w _ u mv h3.symm), hR2⟩, h2, h3, h4, h5, h6, h7, h8.setCell h5 u⟩
theorem TAt.belowPut {w2 : World} (h : TAt w0 w g mt mv c ps me le N) (g1 : w.grownBy w1 (some mt)) (g2 : w1.grownBy w2 (some mv)) : Below w0.heap.size w0 w2 := by
  have b1 := h.below.grown g1 h.below.size (fun k hk => by rw [← Option.some.inj hk]; exact h.bt)
  exact b1.grown g2 b1.size (fun k hk => by rw [← Option.some.inj hk]; exact h.bv)
/-- A field counted for the first time, in both maps. -/
theorem TAt.put {f : Fld} {D E : DataW Unit} (h : TAt w0 w g mt mv c ps me le N) (hf : hasN c f.1 = false) {w2 : World}
    (hM : w.ownsMap Tryd.prog 9 (plainElem Tryd.prog 3) mt N D) (hR : TRep D c) (h1 : w1.ownsMap Tryd.prog 9 (plainElem Tryd.prog 3) mt (N + 1) (D.put (.string f.1.data.toList) (.lit (.int .i64 1)))) (g1 : w.grownBy w1 (some mt))
    (hM2 : w1.ownsMap Tryd.prog 9 (plainElem Tryd.prog 9) mv N E) (hR2 : VRep E c) (h2 : w2.ownsMap Tryd.prog 9 (plainElem Tryd.prog 9) mv (N + 1) (E.put (.string f.1.data.toList) (.lit (.string f.2.data.toList)))) (g2 : w1.grownBy w2 (some mv)) :
    TAt w0 w2 g mt mv (c ++ [f]) ps me le (N + 1) := by
  have hb := h.box
  refine ⟨?_, ⟨_, map_far h1 (g2.block mt h1.lt (fun e => h.tv (Option.some.inj e))), hR.add hM.isMap f hf⟩, ⟨_, h2, hR2.add hM2.isMap f hf⟩, h.gt, h.gv, h.tv, h.bg, h.bt, h.bv, ?_⟩
  · have e1 := g1.block g hb.lt (fun e => h.gt (Option.some.inj e))
    have e2 := g2.block g (Nat.lt_of_lt_of_le hb.lt g1.size) (fun e => h.gv (Option.some.inj e))
    exact (e2.trans e1).trans hb
  · have b1 := h.below.grown g1 h.below.size (fun k hk => by rw [← Option.some.inj hk]; exact h.bt)
    exact b1.grown g2 b1.size (fun k hk => by rw [← Option.some.inj hk]; exact h.bv)
end
end Go.Proofs.YtdpoookgmckclaaDoor.M
