/- Walks of nuncioref05.texts, nuncioref05.Same, nuncioref06.records, nuncioref06.Same: are two alike? -/
import Derived.Test.YtbbeikdbioelgaaMPlain
import Derived.Test.YtbbeikdbioelgaaMJDraw
import Derived.Maps.OwnSet
import Derived.Maps.Ext
import Derived.Deep.RegionHeld3
import Derived.Deep.RegionLaw
import Derived.Deep.DrawnRows
import Derived.Deep.DeepMust
import Derived.MapKept
import Derived.Laws.StructEq
set_option linter.unusedVariables false
set_option linter.unusedSimpArgs false
namespace Go.Proofs.Ytbbeikdbioelgaa.M
open Go.RowKit Go.Maps Go.Proofs.YtbbeikdbioelgaaW.PrintWords Go.Proofs.YtbbeikdbioelgaaW.PrintLast Go.Proofs.YtbbeikdbioelgaaW.PrintMore
attribute [local go_sem] max2_int min2_int max_two min_two max_three min_three max_four min_four
attribute [local go_sem ↓] Go.wp_at_zero Go.wp_at_succ

/-- A bool is returned; it is true just where P holds. -/
def Iff1 (P : Prop) (F : World → Prop) (e : Ending) (w' : World) : Prop := ∃ b : Bool, e = .returned (.bool b) ∧ (b = true ↔ P) ∧ F w'
theorem ques_if_ne {x y : Ques} (h : ¬ x = y) {β : Type} (a b : β) : (if x.f0.toList = y.f0.toList then if x.f1 = y.f1 then if x.f2 = y.f2 then a else b else b else b) = b := by
  by_cases h0 : x.f0.toList = y.f0.toList
  · by_cases h1 : x.f1 = y.f1
    · by_cases h2 : x.f2 = y.f2
      · refine absurd ?_ h
        have hf : x.f0 = y.f0 := by
          refine Classical.byContradiction fun hn => ?_
          have := text_ne hn
          rw [h0] at this
          simp at this
        obtain ⟨x0, x1, x2⟩ := x
        obtain ⟨y0, y1, y2⟩ := y
        simp only at hf h1 h2
        rw [hf, h1, h2]
      · rw [if_pos h0, if_pos h1, if_neg h2]
    · rw [if_pos h0, if_neg h1]
  · rw [if_neg h0]
theorem take_step {α : Type} (z : α) {l l' : List α} {k : Nat} (h : l.take k = l'.take k) (h1 : k < l.length) (h2 : k < l'.length) (he : l.getD k z = l'.getD k z) : l.take (k + 1) = l'.take (k + 1) := by
  rw [List.getD_eq_getElem?_getD, List.getElem?_eq_getElem h1, List.getD_eq_getElem?_getD, List.getElem?_eq_getElem h2] at he
  rw [List.take_succ_eq_append_getElem h1, List.take_succ_eq_append_getElem h2, h, show l[k] = l'[k] from he]
theorem take_all {α : Type} {l l' : List α} {k : Nat} (h : l.take k = l'.take k) (h1 : k = l.length) (h2 : l'.length = l.length) : l = l' := by
  rwa [h1, List.take_length, ← h2, List.take_length] at h
set_option maxHeartbeats 2000000 in
set_option maxRecDepth 100000 in
theorem texts5_calls {A B : Option Addr} {c d : Nat} {l l2 : List ByteArray} {w : World} (hr : Kd.string.C w A l.length l) (hr2 : Kd.string.C w B l2.length l2) :
    Calls Try.prog 77 #[.slice A l.length c, .slice B l2.length d] w fun e w' => Iff1 (l = l2) (fun w' => Below w.heap.size w w') e w' := by
  have HC := Aside0.mk hr
  have HD := Aside0.mk hr2
  have hM := hr.2.1
  have hM2 := hr2.2.1
  clear hr hr2
  by_cases hl : l2.length = l.length
  case neg =>
    have d1 : ((l.length : Int) != (l2.length : Int)) = true := by rw [bne_iff_ne]; omega
    have HL := Aside0.mk (show ¬ l = l2 from fun h => hl (by rw [h]))
    clear hl
    go_enter Try.func77, Try.ntmps77
    go_wp2_with fail
    go_ret
    exact ⟨false, rfl, ⟨fun h => absurd h (by decide), fun h => absurd h HL.out⟩, Below.refl _ _⟩
  have d1 : ((l.length : Int) != (l.length : Int)) = false := by simp
  have HL := Aside0.mk hl
  rw [hl]
  clear hl
  go_enter Try.func77, Try.ntmps77
  go_wp2_with fail
  go_loopw [5] (fun t wr => ∃ k : Nat, t = .int .i64 k ∧ Aside0 (k ≤ l.length) ∧ Aside0 (l.take k = l2.take k) ∧ Aside0 (Below w.heap.size w wr)) (fun t _ => l.length - (intOf t).toNat)
  case atStart => exact ⟨0, rfl, ⟨Nat.zero_le _⟩, ⟨rfl⟩, ⟨Below.refl _ _⟩⟩
  case round =>
    obtain ⟨k, rfl, HK, HE, HB⟩ := hrel
    by_cases hk : k < l.length
    · obtain ⟨ad, hA, e1⟩ := at_str (Kd.C_below HC.out HB.out) k hk
      obtain ⟨ad2, hA2, e2⟩ := at_str (Kd.C_below HD.out HB.out) k (by rw [HL.out]; exact hk)
      subst hA hA2
      have p1 : (0 : Int) ≤ (k : Int) := by omega
      have p2 : (k : Int) < (l.length : Int) := by omega
      obtain ⟨s, hs⟩ : ∃ s, l.getD k ⟨#[]⟩ = s := ⟨_, rfl⟩
      obtain ⟨s2, hs2⟩ : ∃ s, l2.getD k ⟨#[]⟩ = s := ⟨_, rfl⟩
      rw [hs] at e1
      rw [hs2] at e2
      have HS := Aside0.mk (And.intro hs hs2)
      clear hs hs2
      go_wp2_with fail
      refine start_ (n := 9) (S := fun w' => w'.cell? (ad.add k) = some (.string s) ∧ w'.cell? (ad2.add k) = some (.string s2)) (ds := []) (Array.replicate 9 false) (by kernel_rfl) (by kernel_rfl) rfl ⟨e1, e2⟩ (fun hS => ?_)
      refine dpure 0 (some 17) rfl rfl (by kernel_rfl) (fun _ _ _ h => h) (by rfl) (v := ?_) (a' := ?_) ?_ ?_ ?_
      rotate_left 2
      · intro w'; go_simp; with_reducible rfl
      · simp only [Act.put, List.setIfInBounds_toArray, List.set_cons_zero, List.set_cons_succ]; rfl
      refine dpure 1 (some 18) rfl rfl (by kernel_rfl) (fun _ _ _ h => h) (by rfl) (v := ?_) (a' := ?_) ?_ ?_ ?_
      rotate_left 2
      · intro w'; go_simp; with_reducible rfl
      · simp only [Act.put, List.setIfInBounds_toArray, List.set_cons_zero, List.set_cons_succ]; rfl
      refine dpure 2 (some 19) rfl rfl (by kernel_rfl) (fun _ _ _ h => h) (by rfl) (v := ?_) (a' := ?_) ?_ ?_ ?_
      rotate_left 2
      · intro w'; go_simp; with_reducible rfl
      · simp only [Act.put, List.setIfInBounds_toArray, List.set_cons_zero, List.set_cons_succ]; rfl
      refine dtake 3 (some 20) rfl rfl (by kernel_rfl) (fun _ _ _ h => h) (by rfl) hS (v := ?_) (a' := ?_) ?_ ?_ ?_
      rotate_left 2
      · rintro w' ⟨s0,s1⟩; go_simp; with_reducible rfl
      · simp only [Act.put, List.setIfInBounds_toArray, List.set_cons_zero, List.set_cons_succ]; rfl
      refine dpure 4 (some 21) rfl rfl (by kernel_rfl) (fun _ _ _ h => h) (by rfl) (v := ?_) (a' := ?_) ?_ ?_ ?_
      rotate_left 2
      · intro w'; go_simp; with_reducible rfl
      · simp only [Act.put, List.setIfInBounds_toArray, List.set_cons_zero, List.set_cons_succ]; rfl
      refine dpure 5 (some 22) rfl rfl (by kernel_rfl) (fun _ _ _ h => h) (by rfl) (v := ?_) (a' := ?_) ?_ ?_ ?_
      rotate_left 2
      · intro w'; go_simp; with_reducible rfl
      · simp only [Act.put, List.setIfInBounds_toArray, List.set_cons_zero, List.set_cons_succ]; rfl
      refine dpure 6 (some 23) rfl rfl (by kernel_rfl) (fun _ _ _ h => h) (by rfl) (v := ?_) (a' := ?_) ?_ ?_ ?_
      rotate_left 2
      · intro w'; go_simp; with_reducible rfl
      · simp only [Act.put, List.setIfInBounds_toArray, List.set_cons_zero, List.set_cons_succ]; rfl
      refine dtake 7 (some 24) rfl rfl (by kernel_rfl) (fun _ _ _ h => h) (by rfl) hS (v := ?_) (a' := ?_) ?_ ?_ ?_
      rotate_left 2
      · rintro w' ⟨s0,s1⟩; go_simp; with_reducible rfl
      · simp only [Act.put, List.setIfInBounds_toArray, List.set_cons_zero, List.set_cons_succ]; rfl
      refine dpure 8 (some 25) rfl rfl (by kernel_rfl) (fun _ _ _ h => h) (by rfl) (v := ?_) (a' := ?_) ?_ ?_ ?_
      rotate_left 2
      · intro w'; go_simp; with_reducible rfl
      · simp only [Act.put, List.setIfInBounds_toArray, List.set_cons_zero, List.set_cons_succ]; rfl
      refine done_ (by kernel_rfl) ?_
      have HBd := Aside0.mk (below_drew HB.out)
      by_cases he : s = s2
      · have d2 : (s.toList == s2.toList) = true := by rw [he]; exact text_eq s2
        rw [d2]
        have HE2 := Aside0.mk (take_step ⟨#[]⟩ HE.out hk (by rw [HL.out]; exact hk) (HS.out.1.trans (he.trans HS.out.2.symm)))
        clear he
        go_wp2_with fail
        go_roundw
        case rel => exact ⟨k + 1, by go_num, ⟨hk⟩, HE2, HBd⟩
        case measure => simp [intOf]; omega
      · have d2 : (s.toList == s2.toList) = false := text_ne he
        rw [d2]
        have HN := Aside0.mk (show ¬ l = l2 from fun h => he (by rw [← HS.out.1, ← HS.out.2, h]))
        clear he
        go_wp2_with fail
        go_ret
        exact ⟨false, rfl, ⟨fun h => absurd h (by decide), fun h => absurd h HN.out⟩, HBd.out⟩
    · have hk' : k = l.length := by have := HK.out; omega
      have HN := Aside0.mk (show l = l2 from take_all HE.out hk' HL.out)
      clear hk'
      go_wp2_with fail
      go_ret
      exact ⟨true, rfl, ⟨fun _ => HN.out, fun _ => rfl⟩, HB.out⟩
set_option maxHeartbeats 8000000 in
set_option maxRecDepth 100000 in
theorem same5_calls {r s : Rec} {u v : Value} {w : World} (hu : RecAt w u r) (hv : RecAt w v s) :
    Calls Try.prog 65 #[u, v] w fun e w' => Iff1 (r = s) (fun w' => Below w.heap.size w w') e w' := by
  obtain ⟨A4, c4, A5, c5, A6, c6, rfl, l4, g4, l5, g5, l6, g6⟩ := hu
  obtain ⟨B4, d4, B5, d5, B6, d6, rfl, m4, h4, m5, h5, m6, h6⟩ := hv
  have G4 := Aside0.mk g4
  have G5 := Aside0.mk g5
  have G6 := Aside0.mk g6
  have H4 := Aside0.mk h4
  have H5 := Aside0.mk h5
  have H6 := Aside0.mk h6
  have hM := g5.2.1
  have hM2 := h5.2.1
  clear g4 g5 g6 h4 h5 h6
  by_cases k0 : r.f0 = s.f0
  case neg =>
    have e0 : (!r.f0.toList == s.f0.toList) = true := by rw [text_ne k0]; rfl
    have HN := Aside0.mk (show ¬ r = s from fun h => k0 (by rw [h]))
    go_enter Try.func65, Try.ntmps65
    go_wp2_with (first | ((with_reducible refine gate_dst (N := 2) rfl ?_); refine box_event rfl (N := 2) rfl (cs := #[.string r.f0, .int .u16 r.f1, .int .u16 r.f2, .int .u32 r.f3, .slice A4 r.f4.length c4, .slice A5 r.f5.length c5, .slice A6 r.f6.length c6]) (t := 44) (by first | (go_simp; done) | (go_simp; rfl)) ?_; intro g hg w1 hbox hb; have HX := Aside0.mk hbox; have HB := Aside0.mk hb; clear hb hg hbox) | ((with_reducible refine gate_dst (N := 3) rfl ?_); refine box_event rfl (N := 3) rfl (cs := #[.string s.f0, .int .u16 s.f1, .int .u16 s.f2, .int .u32 s.f3, .slice B4 s.f4.length d4, .slice B5 s.f5.length d5, .slice B6 s.f6.length d6]) (t := 44) (by first | (go_simp; done) | (go_simp; rfl)) ?_; intro g2 hg2 w2 hbox2 hb2; have HX2 := Aside0.mk (blk_below HX.out hb2); have HY2 := Aside0.mk hbox2; have HB2 := Aside0.mk (below_step HB.out hb2); clear hb2 hg2 hbox2; have z0 : w2.cell? ⟨g, 0, none⟩ = some (.string r.f0) := (blk_cell HX2.out 0).trans rfl; have z1 : w2.cell? ⟨g, 1, none⟩ = some (.int .u16 r.f1) := (blk_cell HX2.out 1).trans rfl; have z2 : w2.cell? ⟨g, 2, none⟩ = some (.int .u16 r.f2) := (blk_cell HX2.out 2).trans rfl; have z3 : w2.cell? ⟨g, 3, none⟩ = some (.int .u32 r.f3) := (blk_cell HX2.out 3).trans rfl; have z4 : w2.cell? ⟨g, 4, none⟩ = some (.slice A4 r.f4.length c4) := (blk_cell HX2.out 4).trans rfl; have z5 : w2.cell? ⟨g, 5, none⟩ = some (.slice A5 r.f5.length c5) := (blk_cell HX2.out 5).trans rfl; have z6 : w2.cell? ⟨g, 6, none⟩ = some (.slice A6 r.f6.length c6) := (blk_cell HX2.out 6).trans rfl; have y0 : w2.cell? ⟨g2, 0, none⟩ = some (.string s.f0) := (blk_cell HY2.out 0).trans rfl; have y1 : w2.cell? ⟨g2, 1, none⟩ = some (.int .u16 s.f1) := (blk_cell HY2.out 1).trans rfl; have y2 : w2.cell? ⟨g2, 2, none⟩ = some (.int .u16 s.f2) := (blk_cell HY2.out 2).trans rfl; have y3 : w2.cell? ⟨g2, 3, none⟩ = some (.int .u32 s.f3) := (blk_cell HY2.out 3).trans rfl; have y4 : w2.cell? ⟨g2, 4, none⟩ = some (.slice B4 s.f4.length d4) := (blk_cell HY2.out 4).trans rfl; have y5 : w2.cell? ⟨g2, 5, none⟩ = some (.slice B5 s.f5.length d5) := (blk_cell HY2.out 5).trans rfl; have y6 : w2.cell? ⟨g2, 6, none⟩ = some (.slice B6 s.f6.length d6) := (blk_cell HY2.out 6).trans rfl))
    go_ret
    exact ⟨false, rfl, ⟨fun h => absurd h (by decide), fun h => absurd h HN.out⟩, HB2.out⟩
  have e0 : (!r.f0.toList == s.f0.toList) = false := by rw [k0, text_eq]; rfl
  have K0 := Aside0.mk k0
  clear k0
  by_cases k1 : r.f1 = s.f1
  case neg =>
    have e1 : (r.f1 != s.f1) = true := by rw [bne_iff_ne]; exact k1
    have HN := Aside0.mk (show ¬ r = s from fun h => k1 (by rw [h]))
    go_enter Try.func65, Try.ntmps65
    go_wp2_with (first | ((with_reducible refine gate_dst (N := 2) rfl ?_); refine box_event rfl (N := 2) rfl (cs := #[.string r.f0, .int .u16 r.f1, .int .u16 r.f2, .int .u32 r.f3, .slice A4 r.f4.length c4, .slice A5 r.f5.length c5, .slice A6 r.f6.length c6]) (t := 44) (by first | (go_simp; done) | (go_simp; rfl)) ?_; intro g hg w1 hbox hb; have HX := Aside0.mk hbox; have HB := Aside0.mk hb; clear hb hg hbox) | ((with_reducible refine gate_dst (N := 3) rfl ?_); refine box_event rfl (N := 3) rfl (cs := #[.string s.f0, .int .u16 s.f1, .int .u16 s.f2, .int .u32 s.f3, .slice B4 s.f4.length d4, .slice B5 s.f5.length d5, .slice B6 s.f6.length d6]) (t := 44) (by first | (go_simp; done) | (go_simp; rfl)) ?_; intro g2 hg2 w2 hbox2 hb2; have HX2 := Aside0.mk (blk_below HX.out hb2); have HY2 := Aside0.mk hbox2; have HB2 := Aside0.mk (below_step HB.out hb2); clear hb2 hg2 hbox2; have z0 : w2.cell? ⟨g, 0, none⟩ = some (.string r.f0) := (blk_cell HX2.out 0).trans rfl; have z1 : w2.cell? ⟨g, 1, none⟩ = some (.int .u16 r.f1) := (blk_cell HX2.out 1).trans rfl; have z2 : w2.cell? ⟨g, 2, none⟩ = some (.int .u16 r.f2) := (blk_cell HX2.out 2).trans rfl; have z3 : w2.cell? ⟨g, 3, none⟩ = some (.int .u32 r.f3) := (blk_cell HX2.out 3).trans rfl; have z4 : w2.cell? ⟨g, 4, none⟩ = some (.slice A4 r.f4.length c4) := (blk_cell HX2.out 4).trans rfl; have z5 : w2.cell? ⟨g, 5, none⟩ = some (.slice A5 r.f5.length c5) := (blk_cell HX2.out 5).trans rfl; have z6 : w2.cell? ⟨g, 6, none⟩ = some (.slice A6 r.f6.length c6) := (blk_cell HX2.out 6).trans rfl; have y0 : w2.cell? ⟨g2, 0, none⟩ = some (.string s.f0) := (blk_cell HY2.out 0).trans rfl; have y1 : w2.cell? ⟨g2, 1, none⟩ = some (.int .u16 s.f1) := (blk_cell HY2.out 1).trans rfl; have y2 : w2.cell? ⟨g2, 2, none⟩ = some (.int .u16 s.f2) := (blk_cell HY2.out 2).trans rfl; have y3 : w2.cell? ⟨g2, 3, none⟩ = some (.int .u32 s.f3) := (blk_cell HY2.out 3).trans rfl; have y4 : w2.cell? ⟨g2, 4, none⟩ = some (.slice B4 s.f4.length d4) := (blk_cell HY2.out 4).trans rfl; have y5 : w2.cell? ⟨g2, 5, none⟩ = some (.slice B5 s.f5.length d5) := (blk_cell HY2.out 5).trans rfl; have y6 : w2.cell? ⟨g2, 6, none⟩ = some (.slice B6 s.f6.length d6) := (blk_cell HY2.out 6).trans rfl))
    go_ret
    exact ⟨false, rfl, ⟨fun h => absurd h (by decide), fun h => absurd h HN.out⟩, HB2.out⟩
  have e1 : (r.f1 != s.f1) = false := by rw [k1]; simp
  have K1 := Aside0.mk k1
  clear k1
  by_cases k2 : r.f2 = s.f2
  case neg =>
    have e2 : (r.f2 != s.f2) = true := by rw [bne_iff_ne]; exact k2
    have HN := Aside0.mk (show ¬ r = s from fun h => k2 (by rw [h]))
    go_enter Try.func65, Try.ntmps65
    go_wp2_with (first | ((with_reducible refine gate_dst (N := 2) rfl ?_); refine box_event rfl (N := 2) rfl (cs := #[.string r.f0, .int .u16 r.f1, .int .u16 r.f2, .int .u32 r.f3, .slice A4 r.f4.length c4, .slice A5 r.f5.length c5, .slice A6 r.f6.length c6]) (t := 44) (by first | (go_simp; done) | (go_simp; rfl)) ?_; intro g hg w1 hbox hb; have HX := Aside0.mk hbox; have HB := Aside0.mk hb; clear hb hg hbox) | ((with_reducible refine gate_dst (N := 3) rfl ?_); refine box_event rfl (N := 3) rfl (cs := #[.string s.f0, .int .u16 s.f1, .int .u16 s.f2, .int .u32 s.f3, .slice B4 s.f4.length d4, .slice B5 s.f5.length d5, .slice B6 s.f6.length d6]) (t := 44) (by first | (go_simp; done) | (go_simp; rfl)) ?_; intro g2 hg2 w2 hbox2 hb2; have HX2 := Aside0.mk (blk_below HX.out hb2); have HY2 := Aside0.mk hbox2; have HB2 := Aside0.mk (below_step HB.out hb2); clear hb2 hg2 hbox2; have z0 : w2.cell? ⟨g, 0, none⟩ = some (.string r.f0) := (blk_cell HX2.out 0).trans rfl; have z1 : w2.cell? ⟨g, 1, none⟩ = some (.int .u16 r.f1) := (blk_cell HX2.out 1).trans rfl; have z2 : w2.cell? ⟨g, 2, none⟩ = some (.int .u16 r.f2) := (blk_cell HX2.out 2).trans rfl; have z3 : w2.cell? ⟨g, 3, none⟩ = some (.int .u32 r.f3) := (blk_cell HX2.out 3).trans rfl; have z4 : w2.cell? ⟨g, 4, none⟩ = some (.slice A4 r.f4.length c4) := (blk_cell HX2.out 4).trans rfl; have z5 : w2.cell? ⟨g, 5, none⟩ = some (.slice A5 r.f5.length c5) := (blk_cell HX2.out 5).trans rfl; have z6 : w2.cell? ⟨g, 6, none⟩ = some (.slice A6 r.f6.length c6) := (blk_cell HX2.out 6).trans rfl; have y0 : w2.cell? ⟨g2, 0, none⟩ = some (.string s.f0) := (blk_cell HY2.out 0).trans rfl; have y1 : w2.cell? ⟨g2, 1, none⟩ = some (.int .u16 s.f1) := (blk_cell HY2.out 1).trans rfl; have y2 : w2.cell? ⟨g2, 2, none⟩ = some (.int .u16 s.f2) := (blk_cell HY2.out 2).trans rfl; have y3 : w2.cell? ⟨g2, 3, none⟩ = some (.int .u32 s.f3) := (blk_cell HY2.out 3).trans rfl; have y4 : w2.cell? ⟨g2, 4, none⟩ = some (.slice B4 s.f4.length d4) := (blk_cell HY2.out 4).trans rfl; have y5 : w2.cell? ⟨g2, 5, none⟩ = some (.slice B5 s.f5.length d5) := (blk_cell HY2.out 5).trans rfl; have y6 : w2.cell? ⟨g2, 6, none⟩ = some (.slice B6 s.f6.length d6) := (blk_cell HY2.out 6).trans rfl))
    go_ret
    exact ⟨false, rfl, ⟨fun h => absurd h (by decide), fun h => absurd h HN.out⟩, HB2.out⟩
  have e2 : (r.f2 != s.f2) = false := by rw [k2]; simp
  have K2 := Aside0.mk k2
  clear k2
  by_cases k3 : r.f3 = s.f3
  case neg =>
    have e3 : (r.f3 != s.f3) = true := by rw [bne_iff_ne]; exact k3
    have HN := Aside0.mk (show ¬ r = s from fun h => k3 (by rw [h]))
    go_enter Try.func65, Try.ntmps65
    go_wp2_with (first | ((with_reducible refine gate_dst (N := 2) rfl ?_); refine box_event rfl (N := 2) rfl (cs := #[.string r.f0, .int .u16 r.f1, .int .u16 r.f2, .int .u32 r.f3, .slice A4 r.f4.length c4, .slice A5 r.f5.length c5, .slice A6 r.f6.length c6]) (t := 44) (by first | (go_simp; done) | (go_simp; rfl)) ?_; intro g hg w1 hbox hb; have HX := Aside0.mk hbox; have HB := Aside0.mk hb; clear hb hg hbox) | ((with_reducible refine gate_dst (N := 3) rfl ?_); refine box_event rfl (N := 3) rfl (cs := #[.string s.f0, .int .u16 s.f1, .int .u16 s.f2, .int .u32 s.f3, .slice B4 s.f4.length d4, .slice B5 s.f5.length d5, .slice B6 s.f6.length d6]) (t := 44) (by first | (go_simp; done) | (go_simp; rfl)) ?_; intro g2 hg2 w2 hbox2 hb2; have HX2 := Aside0.mk (blk_below HX.out hb2); have HY2 := Aside0.mk hbox2; have HB2 := Aside0.mk (below_step HB.out hb2); clear hb2 hg2 hbox2; have z0 : w2.cell? ⟨g, 0, none⟩ = some (.string r.f0) := (blk_cell HX2.out 0).trans rfl; have z1 : w2.cell? ⟨g, 1, none⟩ = some (.int .u16 r.f1) := (blk_cell HX2.out 1).trans rfl; have z2 : w2.cell? ⟨g, 2, none⟩ = some (.int .u16 r.f2) := (blk_cell HX2.out 2).trans rfl; have z3 : w2.cell? ⟨g, 3, none⟩ = some (.int .u32 r.f3) := (blk_cell HX2.out 3).trans rfl; have z4 : w2.cell? ⟨g, 4, none⟩ = some (.slice A4 r.f4.length c4) := (blk_cell HX2.out 4).trans rfl; have z5 : w2.cell? ⟨g, 5, none⟩ = some (.slice A5 r.f5.length c5) := (blk_cell HX2.out 5).trans rfl; have z6 : w2.cell? ⟨g, 6, none⟩ = some (.slice A6 r.f6.length c6) := (blk_cell HX2.out 6).trans rfl; have y0 : w2.cell? ⟨g2, 0, none⟩ = some (.string s.f0) := (blk_cell HY2.out 0).trans rfl; have y1 : w2.cell? ⟨g2, 1, none⟩ = some (.int .u16 s.f1) := (blk_cell HY2.out 1).trans rfl; have y2 : w2.cell? ⟨g2, 2, none⟩ = some (.int .u16 s.f2) := (blk_cell HY2.out 2).trans rfl; have y3 : w2.cell? ⟨g2, 3, none⟩ = some (.int .u32 s.f3) := (blk_cell HY2.out 3).trans rfl; have y4 : w2.cell? ⟨g2, 4, none⟩ = some (.slice B4 s.f4.length d4) := (blk_cell HY2.out 4).trans rfl; have y5 : w2.cell? ⟨g2, 5, none⟩ = some (.slice B5 s.f5.length d5) := (blk_cell HY2.out 5).trans rfl; have y6 : w2.cell? ⟨g2, 6, none⟩ = some (.slice B6 s.f6.length d6) := (blk_cell HY2.out 6).trans rfl))
    go_ret
    exact ⟨false, rfl, ⟨fun h => absurd h (by decide), fun h => absurd h HN.out⟩, HB2.out⟩
  have e3 : (r.f3 != s.f3) = false := by rw [k3]; simp
  have K3 := Aside0.mk k3
  clear k3
  go_enter Try.func65, Try.ntmps65
  go_wp2_with (first | ((with_reducible refine gate_dst (N := 2) rfl ?_); refine box_event rfl (N := 2) rfl (cs := #[.string r.f0, .int .u16 r.f1, .int .u16 r.f2, .int .u32 r.f3, .slice A4 r.f4.length c4, .slice A5 r.f5.length c5, .slice A6 r.f6.length c6]) (t := 44) (by first | (go_simp; done) | (go_simp; rfl)) ?_; intro g hg w1 hbox hb; have HX := Aside0.mk hbox; have HB := Aside0.mk hb; clear hb hg hbox) | ((with_reducible refine gate_dst (N := 3) rfl ?_); refine box_event rfl (N := 3) rfl (cs := #[.string s.f0, .int .u16 s.f1, .int .u16 s.f2, .int .u32 s.f3, .slice B4 s.f4.length d4, .slice B5 s.f5.length d5, .slice B6 s.f6.length d6]) (t := 44) (by first | (go_simp; done) | (go_simp; rfl)) ?_; intro g2 hg2 w2 hbox2 hb2; have HX2 := Aside0.mk (blk_below HX.out hb2); have HY2 := Aside0.mk hbox2; have HB2 := Aside0.mk (below_step HB.out hb2); clear hb2 hg2 hbox2; have z0 : w2.cell? ⟨g, 0, none⟩ = some (.string r.f0) := (blk_cell HX2.out 0).trans rfl; have z1 : w2.cell? ⟨g, 1, none⟩ = some (.int .u16 r.f1) := (blk_cell HX2.out 1).trans rfl; have z2 : w2.cell? ⟨g, 2, none⟩ = some (.int .u16 r.f2) := (blk_cell HX2.out 2).trans rfl; have z3 : w2.cell? ⟨g, 3, none⟩ = some (.int .u32 r.f3) := (blk_cell HX2.out 3).trans rfl; have z4 : w2.cell? ⟨g, 4, none⟩ = some (.slice A4 r.f4.length c4) := (blk_cell HX2.out 4).trans rfl; have z5 : w2.cell? ⟨g, 5, none⟩ = some (.slice A5 r.f5.length c5) := (blk_cell HX2.out 5).trans rfl; have z6 : w2.cell? ⟨g, 6, none⟩ = some (.slice A6 r.f6.length c6) := (blk_cell HX2.out 6).trans rfl; have y0 : w2.cell? ⟨g2, 0, none⟩ = some (.string s.f0) := (blk_cell HY2.out 0).trans rfl; have y1 : w2.cell? ⟨g2, 1, none⟩ = some (.int .u16 s.f1) := (blk_cell HY2.out 1).trans rfl; have y2 : w2.cell? ⟨g2, 2, none⟩ = some (.int .u16 s.f2) := (blk_cell HY2.out 2).trans rfl; have y3 : w2.cell? ⟨g2, 3, none⟩ = some (.int .u32 s.f3) := (blk_cell HY2.out 3).trans rfl; have y4 : w2.cell? ⟨g2, 4, none⟩ = some (.slice B4 s.f4.length d4) := (blk_cell HY2.out 4).trans rfl; have y5 : w2.cell? ⟨g2, 5, none⟩ = some (.slice B5 s.f5.length d5) := (blk_cell HY2.out 5).trans rfl; have y6 : w2.cell? ⟨g2, 6, none⟩ = some (.slice B6 s.f6.length d6) := (blk_cell HY2.out 6).trans rfl))
  refine (texts5_calls (Kd.C_below G4.out HB2.out) (Kd.C_below H4.out HB2.out)).mono ?_
  rintro e w3 ⟨b3, rfl, hi, hb⟩
  have HI3 := Aside0.mk hi
  have HX3 := Aside0.mk (blk_below HX2.out hb)
  have HY3 := Aside0.mk (blk_below HY2.out hb)
  have HB3 := Aside0.mk (below_step HB2.out hb)
  clear hi hb z0 z1 z2 z3 z4 z5 z6 y0 y1 y2 y3 y4 y5 y6
  have z0 : w3.cell? ⟨g, 0, none⟩ = some (.string r.f0) := (blk_cell HX3.out 0).trans rfl; have z1 : w3.cell? ⟨g, 1, none⟩ = some (.int .u16 r.f1) := (blk_cell HX3.out 1).trans rfl; have z2 : w3.cell? ⟨g, 2, none⟩ = some (.int .u16 r.f2) := (blk_cell HX3.out 2).trans rfl; have z3 : w3.cell? ⟨g, 3, none⟩ = some (.int .u32 r.f3) := (blk_cell HX3.out 3).trans rfl; have z4 : w3.cell? ⟨g, 4, none⟩ = some (.slice A4 r.f4.length c4) := (blk_cell HX3.out 4).trans rfl; have z5 : w3.cell? ⟨g, 5, none⟩ = some (.slice A5 r.f5.length c5) := (blk_cell HX3.out 5).trans rfl; have z6 : w3.cell? ⟨g, 6, none⟩ = some (.slice A6 r.f6.length c6) := (blk_cell HX3.out 6).trans rfl
  have y0 : w3.cell? ⟨g2, 0, none⟩ = some (.string s.f0) := (blk_cell HY3.out 0).trans rfl; have y1 : w3.cell? ⟨g2, 1, none⟩ = some (.int .u16 s.f1) := (blk_cell HY3.out 1).trans rfl; have y2 : w3.cell? ⟨g2, 2, none⟩ = some (.int .u16 s.f2) := (blk_cell HY3.out 2).trans rfl; have y3 : w3.cell? ⟨g2, 3, none⟩ = some (.int .u32 s.f3) := (blk_cell HY3.out 3).trans rfl; have y4 : w3.cell? ⟨g2, 4, none⟩ = some (.slice B4 s.f4.length d4) := (blk_cell HY3.out 4).trans rfl; have y5 : w3.cell? ⟨g2, 5, none⟩ = some (.slice B5 s.f5.length d5) := (blk_cell HY3.out 5).trans rfl; have y6 : w3.cell? ⟨g2, 6, none⟩ = some (.slice B6 s.f6.length d6) := (blk_cell HY3.out 6).trans rfl
  cases b3
  case false =>
    have HN := Aside0.mk (show ¬ r = s from fun h => absurd (HI3.out.2 (by rw [h])) (by decide))
    go_wp2_with fail
    go_ret
    exact ⟨false, rfl, ⟨fun h => absurd h (by decide), fun h => absurd h HN.out⟩, HB3.out⟩
  go_wp2_with fail
  refine (texts5_calls (Kd.C_below G6.out HB3.out) (Kd.C_below H6.out HB3.out)).mono ?_
  rintro e w4 ⟨b4, rfl, hi, hb⟩
  have HI4 := Aside0.mk hi
  have HX4 := Aside0.mk (blk_below HX3.out hb)
  have HY4 := Aside0.mk (blk_below HY3.out hb)
  have HB4 := Aside0.mk (below_step HB3.out hb)
  clear hi hb z0 z1 z2 z3 z4 z5 z6 y0 y1 y2 y3 y4 y5 y6
  have z0 : w4.cell? ⟨g, 0, none⟩ = some (.string r.f0) := (blk_cell HX4.out 0).trans rfl; have z1 : w4.cell? ⟨g, 1, none⟩ = some (.int .u16 r.f1) := (blk_cell HX4.out 1).trans rfl; have z2 : w4.cell? ⟨g, 2, none⟩ = some (.int .u16 r.f2) := (blk_cell HX4.out 2).trans rfl; have z3 : w4.cell? ⟨g, 3, none⟩ = some (.int .u32 r.f3) := (blk_cell HX4.out 3).trans rfl; have z4 : w4.cell? ⟨g, 4, none⟩ = some (.slice A4 r.f4.length c4) := (blk_cell HX4.out 4).trans rfl; have z5 : w4.cell? ⟨g, 5, none⟩ = some (.slice A5 r.f5.length c5) := (blk_cell HX4.out 5).trans rfl; have z6 : w4.cell? ⟨g, 6, none⟩ = some (.slice A6 r.f6.length c6) := (blk_cell HX4.out 6).trans rfl
  have y0 : w4.cell? ⟨g2, 0, none⟩ = some (.string s.f0) := (blk_cell HY4.out 0).trans rfl; have y1 : w4.cell? ⟨g2, 1, none⟩ = some (.int .u16 s.f1) := (blk_cell HY4.out 1).trans rfl; have y2 : w4.cell? ⟨g2, 2, none⟩ = some (.int .u16 s.f2) := (blk_cell HY4.out 2).trans rfl; have y3 : w4.cell? ⟨g2, 3, none⟩ = some (.int .u32 s.f3) := (blk_cell HY4.out 3).trans rfl; have y4 : w4.cell? ⟨g2, 4, none⟩ = some (.slice B4 s.f4.length d4) := (blk_cell HY4.out 4).trans rfl; have y5 : w4.cell? ⟨g2, 5, none⟩ = some (.slice B5 s.f5.length d5) := (blk_cell HY4.out 5).trans rfl; have y6 : w4.cell? ⟨g2, 6, none⟩ = some (.slice B6 s.f6.length d6) := (blk_cell HY4.out 6).trans rfl
  cases b4
  case false =>
    have HN := Aside0.mk (show ¬ r = s from fun h => absurd (HI4.out.2 (by rw [h])) (by decide))
    go_wp2_with fail
    go_ret
    exact ⟨false, rfl, ⟨fun h => absurd h (by decide), fun h => absurd h HN.out⟩, HB4.out⟩
  by_cases k5 : s.f5.length = r.f5.length
  case neg =>
    have e4 : ((r.f5.length : Int) != (s.f5.length : Int)) = true := by rw [bne_iff_ne]; omega
    have HN := Aside0.mk (show ¬ r = s from fun h => k5 (by rw [h]))
    clear k5
    go_wp2_with fail
    go_ret
    exact ⟨false, rfl, ⟨fun h => absurd h (by decide), fun h => absurd h HN.out⟩, HB4.out⟩
  have e4 : ((r.f5.length : Int) != (s.f5.length : Int)) = false := by rw [k5]; simp
  have K5 := Aside0.mk k5
  clear k5
  go_wp2_with fail
  clear z0 z1 z2 z3 z4 z5 z6 y0 y1 y2 y3 y4 y5 y6 e0 e1 e2 e3 e4
  go_loopw [5] (fun t wr => ∃ k : Nat, t = .int .i64 k ∧ Aside0 (k ≤ r.f5.length) ∧ Aside0 (r.f5.take k = s.f5.take k) ∧ Aside0 (Below w.heap.size w wr) ∧ Aside0 (Below w4.heap.size w4 wr)) (fun t _ => r.f5.length - (intOf t).toNat)
  case atStart => exact ⟨0, rfl, ⟨Nat.zero_le _⟩, ⟨rfl⟩, HB4, ⟨Below.refl _ _⟩⟩
  case round =>
    obtain ⟨k, rfl, HK, HE, HB5, HB6⟩ := hrel
    have z5 : wr.cell? ⟨g, 5, none⟩ = some (.slice A5 r.f5.length c5) := (blk_cell (blk_below HX4.out HB6.out) 5).trans rfl
    have y5 : wr.cell? ⟨g2, 5, none⟩ = some (.slice B5 s.f5.length d5) := (blk_cell (blk_below HY4.out HB6.out) 5).trans rfl
    by_cases hk : k < r.f5.length
    · obtain ⟨ad, hA, e1⟩ := at_int (Kd.C_below G5.out HB5.out) k hk
      obtain ⟨ad2, hA2, e2⟩ := at_int (Kd.C_below H5.out HB5.out) k (by rw [K5.out]; exact hk)
      subst hA hA2
      have hks := K5.out
      have p1 : (0 : Int) ≤ (k : Int) := by omega
      have p2 : (k : Int) < (r.f5.length : Int) := by omega
      have p3 : (k : Int) < (s.f5.length : Int) := by omega
      obtain ⟨x, hx⟩ : ∃ x, r.f5.getD k 0 = x := ⟨_, rfl⟩
      obtain ⟨x2, hx2⟩ : ∃ x, s.f5.getD k 0 = x := ⟨_, rfl⟩
      rw [hx] at e1
      rw [hx2] at e2
      have HS := Aside0.mk (And.intro hx hx2)
      clear hx hx2 hks
      go_wp2_with fail
      refine start_ (n := 11) (S := fun w' => w'.cell? ⟨g, 5, none⟩ = some (.slice (some ad) r.f5.length c5) ∧ w'.cell? ⟨g2, 5, none⟩ = some (.slice (some ad2) s.f5.length d5) ∧ w'.cell? (ad.add k) = some (.int .u32 x) ∧ w'.cell? (ad2.add k) = some (.int .u32 x2)) (ds := []) (Array.replicate 11 false) (by kernel_rfl) (by kernel_rfl) rfl ⟨z5, y5, e1, e2⟩ (fun hS => ?_)
      refine dpure 0 (some 64) rfl rfl (by kernel_rfl) (fun _ _ _ h => h) (by rfl) (v := ?_) (a' := ?_) ?_ ?_ ?_
      rotate_left 2
      · intro w'; go_simp; with_reducible rfl
      · simp only [Act.put, List.setIfInBounds_toArray, List.set_cons_zero, List.set_cons_succ]; rfl
      refine dtake 1 (some 65) rfl rfl (by kernel_rfl) (fun _ _ _ h => h) (by rfl) hS (v := ?_) (a' := ?_) ?_ ?_ ?_
      rotate_left 2
      · rintro w' ⟨s0,s1,s2,s3⟩; go_simp; with_reducible rfl
      · simp only [Act.put, List.setIfInBounds_toArray, List.set_cons_zero, List.set_cons_succ]; rfl
      refine dpure 2 (some 66) rfl rfl (by kernel_rfl) (fun _ _ _ h => h) (by rfl) (v := ?_) (a' := ?_) ?_ ?_ ?_
      rotate_left 2
      · intro w'; go_simp; with_reducible rfl
      · simp only [Act.put, List.setIfInBounds_toArray, List.set_cons_zero, List.set_cons_succ]; rfl
      refine dpure 3 (some 67) rfl rfl (by kernel_rfl) (fun _ _ _ h => h) (by rfl) (v := ?_) (a' := ?_) ?_ ?_ ?_
      rotate_left 2
      · intro w'; go_simp; with_reducible rfl
      · simp only [Act.put, List.setIfInBounds_toArray, List.set_cons_zero, List.set_cons_succ]; rfl
      refine dtake 4 (some 68) rfl rfl (by kernel_rfl) (fun _ _ _ h => h) (by rfl) hS (v := ?_) (a' := ?_) ?_ ?_ ?_
      rotate_left 2
      · rintro w' ⟨s0,s1,s2,s3⟩; go_simp; with_reducible rfl
      · simp only [Act.put, List.setIfInBounds_toArray, List.set_cons_zero, List.set_cons_succ]; rfl
      refine dpure 5 (some 69) rfl rfl (by kernel_rfl) (fun _ _ _ h => h) (by rfl) (v := ?_) (a' := ?_) ?_ ?_ ?_
      rotate_left 2
      · intro w'; go_simp; with_reducible rfl
      · simp only [Act.put, List.setIfInBounds_toArray, List.set_cons_zero, List.set_cons_succ]; rfl
      refine dtake 6 (some 70) rfl rfl (by kernel_rfl) (fun _ _ _ h => h) (by rfl) hS (v := ?_) (a' := ?_) ?_ ?_ ?_
      rotate_left 2
      · rintro w' ⟨s0,s1,s2,s3⟩; go_simp; with_reducible rfl
      · simp only [Act.put, List.setIfInBounds_toArray, List.set_cons_zero, List.set_cons_succ]; rfl
      refine dpure 7 (some 71) rfl rfl (by kernel_rfl) (fun _ _ _ h => h) (by rfl) (v := ?_) (a' := ?_) ?_ ?_ ?_
      rotate_left 2
      · intro w'; go_simp; with_reducible rfl
      · simp only [Act.put, List.setIfInBounds_toArray, List.set_cons_zero, List.set_cons_succ]; rfl
      refine dpure 8 (some 72) rfl rfl (by kernel_rfl) (fun _ _ _ h => h) (by rfl) (v := ?_) (a' := ?_) ?_ ?_ ?_
      rotate_left 2
      · intro w'; go_simp; with_reducible rfl
      · simp only [Act.put, List.setIfInBounds_toArray, List.set_cons_zero, List.set_cons_succ]; rfl
      refine dtake 9 (some 73) rfl rfl (by kernel_rfl) (fun _ _ _ h => h) (by rfl) hS (v := ?_) (a' := ?_) ?_ ?_ ?_
      rotate_left 2
      · rintro w' ⟨s0,s1,s2,s3⟩; go_simp; with_reducible rfl
      · simp only [Act.put, List.setIfInBounds_toArray, List.set_cons_zero, List.set_cons_succ]; rfl
      refine dpure 10 (some 74) rfl rfl (by kernel_rfl) (fun _ _ _ h => h) (by rfl) (v := ?_) (a' := ?_) ?_ ?_ ?_
      rotate_left 2
      · intro w'; go_simp; with_reducible rfl
      · simp only [Act.put, List.setIfInBounds_toArray, List.set_cons_zero, List.set_cons_succ]; rfl
      refine done_ (by kernel_rfl) ?_
      have HBd := Aside0.mk (below_drew HB5.out)
      have HBe := Aside0.mk (below_drew HB6.out)
      by_cases he : x = x2
      · have d2 : (x != x2) = false := by rw [he]; simp
        rw [d2]
        have HE2 := Aside0.mk (take_step 0 HE.out hk (by rw [K5.out]; exact hk) (HS.out.1.trans (he.trans HS.out.2.symm)))
        clear he
        go_wp2_with fail
        go_roundw
        case rel => exact ⟨k + 1, by go_num, ⟨hk⟩, HE2, HBd, HBe⟩
        case measure => simp [intOf]; omega
      · have d2 : (x != x2) = true := by rw [bne_iff_ne]; exact he
        rw [d2]
        have HN := Aside0.mk (show ¬ r = s from fun h => he (by rw [← HS.out.1, ← HS.out.2, h]))
        clear he
        go_wp2_with fail
        go_ret
        exact ⟨false, rfl, ⟨fun h => absurd h (by decide), fun h => absurd h HN.out⟩, HBd.out⟩
    · have hk' : k = r.f5.length := by have := HK.out; omega
      have HN := Aside0.mk (show r = s from by
        have h5 := take_all HE.out hk' K5.out
        have h4 := HI3.out.1 (by simp)
        have h6 := HI4.out.1 (by simp)
        have h0 := K0.out
        have h1 := K1.out
        have h2 := K2.out
        have h3 := K3.out
        obtain ⟨a0, a1, a2, a3, a4, a5, a6⟩ := r
        obtain ⟨b0, b1, b2, b3, b4, b5, b6⟩ := s
        simp only at h0 h1 h2 h3 h4 h5 h6
        rw [h0, h1, h2, h3, h4, h5, h6])
      clear hk'
      go_wp2_with fail
      go_ret
      exact ⟨true, rfl, ⟨fun _ => HN.out, fun _ => rfl⟩, HB5.out⟩
set_option maxHeartbeats 4000000 in
set_option maxRecDepth 100000 in
theorem records6_calls {A B : Option Addr} {c d : Nat} {l l2 : List Rec} {w : World} (hr : kRec.C w A l.length l) (hr2 : kRec.C w B l2.length l2) :
    Calls Try.prog 42 #[.slice A l.length c, .slice B l2.length d] w fun e w' => Iff1 (l = l2) (fun w' => Below w.heap.size w w') e w' := by
  have HC := Aside0.mk hr
  have HD := Aside0.mk hr2
  have hM := hr.2.1
  have hM2 := hr2.2.1
  clear hr hr2
  by_cases hl : l2.length = l.length
  case neg =>
    have d1 : ((l.length : Int) != (l2.length : Int)) = true := by rw [bne_iff_ne]; omega
    have HL := Aside0.mk (show ¬ l = l2 from fun h => hl (by rw [h]))
    clear hl
    go_enter Try.func42, Try.ntmps42
    go_wp2_with fail
    go_ret
    exact ⟨false, rfl, ⟨fun h => absurd h (by decide), fun h => absurd h HL.out⟩, Below.refl _ _⟩
  have d1 : ((l.length : Int) != (l.length : Int)) = false := by simp
  have HL := Aside0.mk hl
  rw [hl]
  clear hl
  go_enter Try.func42, Try.ntmps42
  go_wp2_with fail
  go_loopw [5] (fun t wr => ∃ k : Nat, t = .int .i64 k ∧ Aside0 (k ≤ l.length) ∧ Aside0 (l.take k = l2.take k) ∧ Aside0 (Below w.heap.size w wr)) (fun t _ => l.length - (intOf t).toNat)
  case atStart => exact ⟨0, rfl, ⟨Nat.zero_le _⟩, ⟨rfl⟩, ⟨Below.refl _ _⟩⟩
  case round =>
    obtain ⟨k, rfl, HK, HE, HB⟩ := hrel
    by_cases hk : k < l.length
    · obtain ⟨ad, A4, c4, A5, c5, A6, c6, r, hA, hrr, e0, e1, e2, e3, e4, e5, e6, hrec⟩ := at_rec (Kd.C_below HC.out HB.out) k hk
      obtain ⟨ad2, B4, d4, B5, d5, B6, d6, s, hA2, hss, f0, f1, f2, f3, f4, f5, f6, hrec2⟩ := at_rec (Kd.C_below HD.out HB.out) k (by rw [HL.out]; exact hk)
      subst hA hA2
      have p1 : (0 : Int) ≤ (k : Int) := by omega
      have p2 : (k : Int) < (l.length : Int) := by omega
      have HS := Aside0.mk (And.intro hrr hss)
      have HR1 := Aside0.mk (hrec.below (below_drew (Below.refl _ _)))
      have HR2 := Aside0.mk (hrec2.below (below_drew (Below.refl _ _)))
      clear hrr hss hrec hrec2
      go_wp2_with fail
      refine start_ (n := 10) (S := fun w' => w'.cell? (ad.add (k * 7)) = some (.string r.f0) ∧ w'.cell? ⟨(ad.add (k * 7)).block, (ad.add (k * 7)).off + 1, none⟩ = some (.int .u16 r.f1) ∧ w'.cell? ⟨(ad.add (k * 7)).block, (ad.add (k * 7)).off + 2, none⟩ = some (.int .u16 r.f2) ∧ w'.cell? ⟨(ad.add (k * 7)).block, (ad.add (k * 7)).off + 3, none⟩ = some (.int .u32 r.f3) ∧ w'.cell? ⟨(ad.add (k * 7)).block, (ad.add (k * 7)).off + 4, none⟩ = some (.slice A4 r.f4.length c4) ∧ w'.cell? ⟨(ad.add (k * 7)).block, (ad.add (k * 7)).off + 5, none⟩ = some (.slice A5 r.f5.length c5) ∧ w'.cell? ⟨(ad.add (k * 7)).block, (ad.add (k * 7)).off + 6, none⟩ = some (.slice A6 r.f6.length c6) ∧
        w'.cell? (ad2.add (k * 7)) = some (.string s.f0) ∧ w'.cell? ⟨(ad2.add (k * 7)).block, (ad2.add (k * 7)).off + 1, none⟩ = some (.int .u16 s.f1) ∧ w'.cell? ⟨(ad2.add (k * 7)).block, (ad2.add (k * 7)).off + 2, none⟩ = some (.int .u16 s.f2) ∧ w'.cell? ⟨(ad2.add (k * 7)).block, (ad2.add (k * 7)).off + 3, none⟩ = some (.int .u32 s.f3) ∧ w'.cell? ⟨(ad2.add (k * 7)).block, (ad2.add (k * 7)).off + 4, none⟩ = some (.slice B4 s.f4.length d4) ∧ w'.cell? ⟨(ad2.add (k * 7)).block, (ad2.add (k * 7)).off + 5, none⟩ = some (.slice B5 s.f5.length d5) ∧ w'.cell? ⟨(ad2.add (k * 7)).block, (ad2.add (k * 7)).off + 6, none⟩ = some (.slice B6 s.f6.length d6)) (ds := []) (Array.replicate 10 false) (by kernel_rfl) (by kernel_rfl) rfl ⟨e0, e1, e2, e3, e4, e5, e6, f0, f1, f2, f3, f4, f5, f6⟩ (fun hS => ?_)
      refine dpure 0 (some 17) rfl rfl (by kernel_rfl) (fun _ _ _ h => h) (by rfl) (v := ?_) (a' := ?_) ?_ ?_ ?_
      rotate_left 2
      · intro w'; go_simp; with_reducible rfl
      · simp only [Act.put, List.setIfInBounds_toArray, List.set_cons_zero, List.set_cons_succ]; rfl
      refine dpure 1 (some 18) rfl rfl (by kernel_rfl) (fun _ _ _ h => h) (by rfl) (v := ?_) (a' := ?_) ?_ ?_ ?_
      rotate_left 2
      · intro w'; go_simp; with_reducible rfl
      · simp only [Act.put, List.setIfInBounds_toArray, List.set_cons_zero, List.set_cons_succ]; rfl
      refine dpure 2 (some 19) rfl rfl (by kernel_rfl) (fun _ _ _ h => h) (by rfl) (v := ?_) (a' := ?_) ?_ ?_ ?_
      rotate_left 2
      · intro w'; go_simp; with_reducible rfl
      · simp only [Act.put, List.setIfInBounds_toArray, List.set_cons_zero, List.set_cons_succ]; rfl
      refine dtake 3 (some 20) rfl rfl (by kernel_rfl) (fun _ _ _ h => h) (by rfl) hS (v := ?_) (a' := ?_) ?_ ?_ ?_
      rotate_left 2
      · rintro w' ⟨s0,s1,s2,s3,s4,s5,s6,u0,u1,u2,u3,u4,u5,u6⟩; go_simp; with_reducible rfl
      · simp only [Act.put, List.setIfInBounds_toArray, List.set_cons_zero, List.set_cons_succ]; rfl
      refine dpure 4 (some 21) rfl rfl (by kernel_rfl) (fun _ _ _ h => h) (by rfl) (v := ?_) (a' := ?_) ?_ ?_ ?_
      rotate_left 2
      · intro w'; go_simp; with_reducible rfl
      · simp only [Act.put, List.setIfInBounds_toArray, List.set_cons_zero, List.set_cons_succ]; rfl
      refine dpure 5 (some 22) rfl rfl (by kernel_rfl) (fun _ _ _ h => h) (by rfl) (v := ?_) (a' := ?_) ?_ ?_ ?_
      rotate_left 2
      · intro w'; go_simp; with_reducible rfl
      · simp only [Act.put, List.setIfInBounds_toArray, List.set_cons_zero, List.set_cons_succ]; rfl
      refine dpure 6 (some 23) rfl rfl (by kernel_rfl) (fun _ _ _ h => h) (by rfl) (v := ?_) (a' := ?_) ?_ ?_ ?_
      rotate_left 2
      · intro w'; go_simp; with_reducible rfl
      · simp only [Act.put, List.setIfInBounds_toArray, List.set_cons_zero, List.set_cons_succ]; rfl
      refine dtake 7 (some 24) rfl rfl (by kernel_rfl) (fun _ _ _ h => h) (by rfl) hS (v := ?_) (a' := ?_) ?_ ?_ ?_
      rotate_left 2
      · rintro w' ⟨s0,s1,s2,s3,s4,s5,s6,u0,u1,u2,u3,u4,u5,u6⟩; go_simp; with_reducible rfl
      · simp only [Act.put, List.setIfInBounds_toArray, List.set_cons_zero, List.set_cons_succ]; rfl
      obtain ⟨s0, s1, s2, s3, s4, s5, s6, u0, u1, u2, u3, u4, u5, u6⟩ := hS
      refine done1 8 (some 25) rfl rfl (by kernel_rfl) (by decide) (fun K hK => ?_)
      refine goes_ Try.func65 (by kernel_rfl) rfl #[.agg #[.string r.f0, .int .u16 r.f1, .int .u16 r.f2, .int .u32 r.f3, .slice A4 r.f4.length c4, .slice A5 r.f5.length c5, .slice A6 r.f6.length c6], .agg #[.string s.f0, .int .u16 s.f1, .int .u16 s.f2, .int .u32 s.f3, .slice B4 s.f4.length d4, .slice B5 s.f5.length d5, .slice B6 s.f6.length d6]] (by rfl) rfl rfl (by kernel_rfl) ?_
      refine (same5_calls HR1.out HR2.out).mono ?_
      rintro e w6 ⟨b, rfl, hi, hb⟩
      refine ⟨_, rfl, ?_⟩
      have keep : ∀ p v, wr.drew.cell? p = some v → w6.cell? p = some v := fun p v h => (hb.cell (World.block_lt_of_cell? _ _ h)).trans h
      refine hK.out _ _ ⟨keep _ _ s0, keep _ _ s1, keep _ _ s2, keep _ _ s3, keep _ _ s4, keep _ _ s5, keep _ _ s6, keep _ _ u0, keep _ _ u1, keep _ _ u2, keep _ _ u3, keep _ _ u4, keep _ _ u5, keep _ _ u6⟩ (fun hS => ?_)
      clear hK K
      refine norm_ (a' := ?_) ?_ ?_
      rotate_left
      · simp only [Act.put, List.setIfInBounds_toArray, List.set_cons_zero, List.set_cons_succ]; rfl
      refine dpure 9 (some 26) rfl rfl (by kernel_rfl) (fun _ _ _ h => h) (by rfl) (v := ?_) (a' := ?_) ?_ ?_ ?_
      rotate_left 2
      · intro w'; go_simp; with_reducible rfl
      · simp only [Act.put, List.setIfInBounds_toArray, List.set_cons_zero, List.set_cons_succ]; rfl
      refine done_ (by kernel_rfl) ?_
      have HB6 := Aside0.mk (below_step (below_drew HB.out) hb)
      have HI := Aside0.mk hi
      clear hi hb keep hS s0 s1 s2 s3 s4 s5 s6 u0 u1 u2 u3 u4 u5 u6 e0 e1 e2 e3 e4 e5 e6 f0 f1 f2 f3 f4 f5 f6 HR1 HR2
      cases b
      case false =>
        have HN := Aside0.mk (show ¬ l = l2 from fun h => absurd (HI.out.2 (by rw [← HS.out.1, ← HS.out.2, h])) (by decide))
        go_wp2_with fail
        go_ret
        exact ⟨false, rfl, ⟨fun h => absurd h (by decide), fun h => absurd h HN.out⟩, HB6.out⟩
      have HE2 := Aside0.mk (take_step zRec HE.out hk (by rw [HL.out]; exact hk) (HS.out.1.trans ((HI.out.1 rfl).trans HS.out.2.symm)))
      go_wp2_with fail
      go_roundw
      case rel => exact ⟨k + 1, by go_num, ⟨hk⟩, HE2, HB6⟩
      case measure => simp [intOf]; omega
    · have hk' : k = l.length := by have := HK.out; omega
      have HN := Aside0.mk (show l = l2 from take_all HE.out hk' HL.out)
      clear hk'
      go_wp2_with fail
      go_ret
      exact ⟨true, rfl, ⟨fun _ => HN.out, fun _ => rfl⟩, HB.out⟩
set_option maxHeartbeats 8000000 in
set_option maxRecDepth 100000 in
theorem same6_calls {r s : Msg} {u v : Value} {w : World} (hu : MsgAt w u r) (hv : MsgAt w v s) :
    Calls Try.prog 20 #[u, v] w fun e w' => Iff1 (r = s) (fun w' => Below w.heap.size w w') e w' := by
  obtain ⟨A2, c2, A3, c3, A4, c4, A5, c5, rfl, l2, g2, l3, g3, l4, g4, l5, g5⟩ := hu
  obtain ⟨B2, d2, B3, d3, B4, d4, B5, d5, rfl, m2, h2, m3, h3, m4, h4, m5, h5⟩ := hv
  have G2 := Aside0.mk g2
  have G3 := Aside0.mk g3
  have G4 := Aside0.mk g4
  have G5 := Aside0.mk g5
  have H2 := Aside0.mk h2
  have H3 := Aside0.mk h3
  have H4 := Aside0.mk h4
  have H5 := Aside0.mk h5
  have hM := g2.2.1
  have hM2 := h2.2.1
  clear g2 g3 g4 g5 h2 h3 h4 h5
  by_cases k1 : r.id = s.id
  case neg =>
    have e1 : (r.id != s.id) = true := by rw [bne_iff_ne]; exact k1
    have HN := Aside0.mk (show ¬ r = s from fun h => k1 (by rw [h]))
    go_enter Try.func20, Try.ntmps20
    go_wp2_with (first | ((with_reducible refine gate_dst (N := 2) rfl ?_); refine box_event rfl (N := 2) rfl (cs := #[.int .u16 r.id, .int .u16 r.flags, .slice A2 r.qs.length c2, .slice A3 r.ans.length c3, .slice A4 r.auth.length c4, .slice A5 r.add.length c5]) (t := 26) (by first | (go_simp; done) | (go_simp; rfl)) ?_; intro g hg w1 hbox hb; have HX := Aside0.mk hbox; have HB := Aside0.mk hb; clear hb hg hbox) | ((with_reducible refine gate_dst (N := 3) rfl ?_); refine box_event rfl (N := 3) rfl (cs := #[.int .u16 s.id, .int .u16 s.flags, .slice B2 s.qs.length d2, .slice B3 s.ans.length d3, .slice B4 s.auth.length d4, .slice B5 s.add.length d5]) (t := 26) (by first | (go_simp; done) | (go_simp; rfl)) ?_; intro g2 hg2 w2 hbox2 hb2; have HX2 := Aside0.mk (blk_below HX.out hb2); have HY2 := Aside0.mk hbox2; have HB2 := Aside0.mk (below_step HB.out hb2); clear hb2 hg2 hbox2; have z0 : w2.cell? ⟨g, 0, none⟩ = some (.int .u16 r.id) := (blk_cell HX2.out 0).trans rfl; have z1 : w2.cell? ⟨g, 1, none⟩ = some (.int .u16 r.flags) := (blk_cell HX2.out 1).trans rfl; have z2 : w2.cell? ⟨g, 2, none⟩ = some (.slice A2 r.qs.length c2) := (blk_cell HX2.out 2).trans rfl; have z3 : w2.cell? ⟨g, 3, none⟩ = some (.slice A3 r.ans.length c3) := (blk_cell HX2.out 3).trans rfl; have z4 : w2.cell? ⟨g, 4, none⟩ = some (.slice A4 r.auth.length c4) := (blk_cell HX2.out 4).trans rfl; have z5 : w2.cell? ⟨g, 5, none⟩ = some (.slice A5 r.add.length c5) := (blk_cell HX2.out 5).trans rfl; have y0 : w2.cell? ⟨g2, 0, none⟩ = some (.int .u16 s.id) := (blk_cell HY2.out 0).trans rfl; have y1 : w2.cell? ⟨g2, 1, none⟩ = some (.int .u16 s.flags) := (blk_cell HY2.out 1).trans rfl; have y2 : w2.cell? ⟨g2, 2, none⟩ = some (.slice B2 s.qs.length d2) := (blk_cell HY2.out 2).trans rfl; have y3 : w2.cell? ⟨g2, 3, none⟩ = some (.slice B3 s.ans.length d3) := (blk_cell HY2.out 3).trans rfl; have y4 : w2.cell? ⟨g2, 4, none⟩ = some (.slice B4 s.auth.length d4) := (blk_cell HY2.out 4).trans rfl; have y5 : w2.cell? ⟨g2, 5, none⟩ = some (.slice B5 s.add.length d5) := (blk_cell HY2.out 5).trans rfl))
    go_ret
    exact ⟨false, rfl, ⟨fun h => absurd h (by decide), fun h => absurd h HN.out⟩, HB2.out⟩
  have e1 : (r.id != s.id) = false := by rw [k1]; simp
  have K1 := Aside0.mk k1
  clear k1
  by_cases k2 : r.flags = s.flags
  case neg =>
    have e2 : (r.flags != s.flags) = true := by rw [bne_iff_ne]; exact k2
    have HN := Aside0.mk (show ¬ r = s from fun h => k2 (by rw [h]))
    go_enter Try.func20, Try.ntmps20
    go_wp2_with (first | ((with_reducible refine gate_dst (N := 2) rfl ?_); refine box_event rfl (N := 2) rfl (cs := #[.int .u16 r.id, .int .u16 r.flags, .slice A2 r.qs.length c2, .slice A3 r.ans.length c3, .slice A4 r.auth.length c4, .slice A5 r.add.length c5]) (t := 26) (by first | (go_simp; done) | (go_simp; rfl)) ?_; intro g hg w1 hbox hb; have HX := Aside0.mk hbox; have HB := Aside0.mk hb; clear hb hg hbox) | ((with_reducible refine gate_dst (N := 3) rfl ?_); refine box_event rfl (N := 3) rfl (cs := #[.int .u16 s.id, .int .u16 s.flags, .slice B2 s.qs.length d2, .slice B3 s.ans.length d3, .slice B4 s.auth.length d4, .slice B5 s.add.length d5]) (t := 26) (by first | (go_simp; done) | (go_simp; rfl)) ?_; intro g2 hg2 w2 hbox2 hb2; have HX2 := Aside0.mk (blk_below HX.out hb2); have HY2 := Aside0.mk hbox2; have HB2 := Aside0.mk (below_step HB.out hb2); clear hb2 hg2 hbox2; have z0 : w2.cell? ⟨g, 0, none⟩ = some (.int .u16 r.id) := (blk_cell HX2.out 0).trans rfl; have z1 : w2.cell? ⟨g, 1, none⟩ = some (.int .u16 r.flags) := (blk_cell HX2.out 1).trans rfl; have z2 : w2.cell? ⟨g, 2, none⟩ = some (.slice A2 r.qs.length c2) := (blk_cell HX2.out 2).trans rfl; have z3 : w2.cell? ⟨g, 3, none⟩ = some (.slice A3 r.ans.length c3) := (blk_cell HX2.out 3).trans rfl; have z4 : w2.cell? ⟨g, 4, none⟩ = some (.slice A4 r.auth.length c4) := (blk_cell HX2.out 4).trans rfl; have z5 : w2.cell? ⟨g, 5, none⟩ = some (.slice A5 r.add.length c5) := (blk_cell HX2.out 5).trans rfl; have y0 : w2.cell? ⟨g2, 0, none⟩ = some (.int .u16 s.id) := (blk_cell HY2.out 0).trans rfl; have y1 : w2.cell? ⟨g2, 1, none⟩ = some (.int .u16 s.flags) := (blk_cell HY2.out 1).trans rfl; have y2 : w2.cell? ⟨g2, 2, none⟩ = some (.slice B2 s.qs.length d2) := (blk_cell HY2.out 2).trans rfl; have y3 : w2.cell? ⟨g2, 3, none⟩ = some (.slice B3 s.ans.length d3) := (blk_cell HY2.out 3).trans rfl; have y4 : w2.cell? ⟨g2, 4, none⟩ = some (.slice B4 s.auth.length d4) := (blk_cell HY2.out 4).trans rfl; have y5 : w2.cell? ⟨g2, 5, none⟩ = some (.slice B5 s.add.length d5) := (blk_cell HY2.out 5).trans rfl))
    go_ret
    exact ⟨false, rfl, ⟨fun h => absurd h (by decide), fun h => absurd h HN.out⟩, HB2.out⟩
  have e2 : (r.flags != s.flags) = false := by rw [k2]; simp
  have K2 := Aside0.mk k2
  clear k2
  by_cases k3 : s.qs.length = r.qs.length
  case neg =>
    have e3 : ((r.qs.length : Int) != (s.qs.length : Int)) = true := by rw [bne_iff_ne]; omega
    have HN := Aside0.mk (show ¬ r = s from fun h => k3 (by rw [h]))
    go_enter Try.func20, Try.ntmps20
    go_wp2_with (first | ((with_reducible refine gate_dst (N := 2) rfl ?_); refine box_event rfl (N := 2) rfl (cs := #[.int .u16 r.id, .int .u16 r.flags, .slice A2 r.qs.length c2, .slice A3 r.ans.length c3, .slice A4 r.auth.length c4, .slice A5 r.add.length c5]) (t := 26) (by first | (go_simp; done) | (go_simp; rfl)) ?_; intro g hg w1 hbox hb; have HX := Aside0.mk hbox; have HB := Aside0.mk hb; clear hb hg hbox) | ((with_reducible refine gate_dst (N := 3) rfl ?_); refine box_event rfl (N := 3) rfl (cs := #[.int .u16 s.id, .int .u16 s.flags, .slice B2 s.qs.length d2, .slice B3 s.ans.length d3, .slice B4 s.auth.length d4, .slice B5 s.add.length d5]) (t := 26) (by first | (go_simp; done) | (go_simp; rfl)) ?_; intro g2 hg2 w2 hbox2 hb2; have HX2 := Aside0.mk (blk_below HX.out hb2); have HY2 := Aside0.mk hbox2; have HB2 := Aside0.mk (below_step HB.out hb2); clear hb2 hg2 hbox2; have z0 : w2.cell? ⟨g, 0, none⟩ = some (.int .u16 r.id) := (blk_cell HX2.out 0).trans rfl; have z1 : w2.cell? ⟨g, 1, none⟩ = some (.int .u16 r.flags) := (blk_cell HX2.out 1).trans rfl; have z2 : w2.cell? ⟨g, 2, none⟩ = some (.slice A2 r.qs.length c2) := (blk_cell HX2.out 2).trans rfl; have z3 : w2.cell? ⟨g, 3, none⟩ = some (.slice A3 r.ans.length c3) := (blk_cell HX2.out 3).trans rfl; have z4 : w2.cell? ⟨g, 4, none⟩ = some (.slice A4 r.auth.length c4) := (blk_cell HX2.out 4).trans rfl; have z5 : w2.cell? ⟨g, 5, none⟩ = some (.slice A5 r.add.length c5) := (blk_cell HX2.out 5).trans rfl; have y0 : w2.cell? ⟨g2, 0, none⟩ = some (.int .u16 s.id) := (blk_cell HY2.out 0).trans rfl; have y1 : w2.cell? ⟨g2, 1, none⟩ = some (.int .u16 s.flags) := (blk_cell HY2.out 1).trans rfl; have y2 : w2.cell? ⟨g2, 2, none⟩ = some (.slice B2 s.qs.length d2) := (blk_cell HY2.out 2).trans rfl; have y3 : w2.cell? ⟨g2, 3, none⟩ = some (.slice B3 s.ans.length d3) := (blk_cell HY2.out 3).trans rfl; have y4 : w2.cell? ⟨g2, 4, none⟩ = some (.slice B4 s.auth.length d4) := (blk_cell HY2.out 4).trans rfl; have y5 : w2.cell? ⟨g2, 5, none⟩ = some (.slice B5 s.add.length d5) := (blk_cell HY2.out 5).trans rfl))
    go_ret
    exact ⟨false, rfl, ⟨fun h => absurd h (by decide), fun h => absurd h HN.out⟩, HB2.out⟩
  have e3 : ((r.qs.length : Int) != (s.qs.length : Int)) = false := by rw [k3]; simp
  have K3 := Aside0.mk k3
  clear k3
  go_enter Try.func20, Try.ntmps20
  go_wp2_with (first | ((with_reducible refine gate_dst (N := 2) rfl ?_); refine box_event rfl (N := 2) rfl (cs := #[.int .u16 r.id, .int .u16 r.flags, .slice A2 r.qs.length c2, .slice A3 r.ans.length c3, .slice A4 r.auth.length c4, .slice A5 r.add.length c5]) (t := 26) (by first | (go_simp; done) | (go_simp; rfl)) ?_; intro g hg w1 hbox hb; have HX := Aside0.mk hbox; have HB := Aside0.mk hb; clear hb hg hbox) | ((with_reducible refine gate_dst (N := 3) rfl ?_); refine box_event rfl (N := 3) rfl (cs := #[.int .u16 s.id, .int .u16 s.flags, .slice B2 s.qs.length d2, .slice B3 s.ans.length d3, .slice B4 s.auth.length d4, .slice B5 s.add.length d5]) (t := 26) (by first | (go_simp; done) | (go_simp; rfl)) ?_; intro g2 hg2 w2 hbox2 hb2; have HX2 := Aside0.mk (blk_below HX.out hb2); have HY2 := Aside0.mk hbox2; have HB2 := Aside0.mk (below_step HB.out hb2); clear hb2 hg2 hbox2; have z0 : w2.cell? ⟨g, 0, none⟩ = some (.int .u16 r.id) := (blk_cell HX2.out 0).trans rfl; have z1 : w2.cell? ⟨g, 1, none⟩ = some (.int .u16 r.flags) := (blk_cell HX2.out 1).trans rfl; have z2 : w2.cell? ⟨g, 2, none⟩ = some (.slice A2 r.qs.length c2) := (blk_cell HX2.out 2).trans rfl; have z3 : w2.cell? ⟨g, 3, none⟩ = some (.slice A3 r.ans.length c3) := (blk_cell HX2.out 3).trans rfl; have z4 : w2.cell? ⟨g, 4, none⟩ = some (.slice A4 r.auth.length c4) := (blk_cell HX2.out 4).trans rfl; have z5 : w2.cell? ⟨g, 5, none⟩ = some (.slice A5 r.add.length c5) := (blk_cell HX2.out 5).trans rfl; have y0 : w2.cell? ⟨g2, 0, none⟩ = some (.int .u16 s.id) := (blk_cell HY2.out 0).trans rfl; have y1 : w2.cell? ⟨g2, 1, none⟩ = some (.int .u16 s.flags) := (blk_cell HY2.out 1).trans rfl; have y2 : w2.cell? ⟨g2, 2, none⟩ = some (.slice B2 s.qs.length d2) := (blk_cell HY2.out 2).trans rfl; have y3 : w2.cell? ⟨g2, 3, none⟩ = some (.slice B3 s.ans.length d3) := (blk_cell HY2.out 3).trans rfl; have y4 : w2.cell? ⟨g2, 4, none⟩ = some (.slice B4 s.auth.length d4) := (blk_cell HY2.out 4).trans rfl; have y5 : w2.cell? ⟨g2, 5, none⟩ = some (.slice B5 s.add.length d5) := (blk_cell HY2.out 5).trans rfl))
  refine (records6_calls (Kd.C_below G3.out HB2.out) (Kd.C_below H3.out HB2.out)).mono ?_
  rintro e w3 ⟨b3, rfl, hi, hb⟩
  have HI3 := Aside0.mk hi
  have HX3 := Aside0.mk (blk_below HX2.out hb)
  have HY3 := Aside0.mk (blk_below HY2.out hb)
  have HB3 := Aside0.mk (below_step HB2.out hb)
  clear hi hb z0 z1 z2 z3 z4 z5 y0 y1 y2 y3 y4 y5
  have z0 : w3.cell? ⟨g, 0, none⟩ = some (.int .u16 r.id) := (blk_cell HX3.out 0).trans rfl; have z1 : w3.cell? ⟨g, 1, none⟩ = some (.int .u16 r.flags) := (blk_cell HX3.out 1).trans rfl; have z2 : w3.cell? ⟨g, 2, none⟩ = some (.slice A2 r.qs.length c2) := (blk_cell HX3.out 2).trans rfl; have z3 : w3.cell? ⟨g, 3, none⟩ = some (.slice A3 r.ans.length c3) := (blk_cell HX3.out 3).trans rfl; have z4 : w3.cell? ⟨g, 4, none⟩ = some (.slice A4 r.auth.length c4) := (blk_cell HX3.out 4).trans rfl; have z5 : w3.cell? ⟨g, 5, none⟩ = some (.slice A5 r.add.length c5) := (blk_cell HX3.out 5).trans rfl
  have y0 : w3.cell? ⟨g2, 0, none⟩ = some (.int .u16 s.id) := (blk_cell HY3.out 0).trans rfl; have y1 : w3.cell? ⟨g2, 1, none⟩ = some (.int .u16 s.flags) := (blk_cell HY3.out 1).trans rfl; have y2 : w3.cell? ⟨g2, 2, none⟩ = some (.slice B2 s.qs.length d2) := (blk_cell HY3.out 2).trans rfl; have y3 : w3.cell? ⟨g2, 3, none⟩ = some (.slice B3 s.ans.length d3) := (blk_cell HY3.out 3).trans rfl; have y4 : w3.cell? ⟨g2, 4, none⟩ = some (.slice B4 s.auth.length d4) := (blk_cell HY3.out 4).trans rfl; have y5 : w3.cell? ⟨g2, 5, none⟩ = some (.slice B5 s.add.length d5) := (blk_cell HY3.out 5).trans rfl
  cases b3
  case false =>
    have HN := Aside0.mk (show ¬ r = s from fun h => absurd (HI3.out.2 (by rw [h])) (by decide))
    go_wp2_with fail
    go_ret
    exact ⟨false, rfl, ⟨fun h => absurd h (by decide), fun h => absurd h HN.out⟩, HB3.out⟩
  go_wp2_with fail
  refine (records6_calls (Kd.C_below G4.out HB3.out) (Kd.C_below H4.out HB3.out)).mono ?_
  rintro e w4 ⟨b4, rfl, hi, hb⟩
  have HI4 := Aside0.mk hi
  have HX4 := Aside0.mk (blk_below HX3.out hb)
  have HY4 := Aside0.mk (blk_below HY3.out hb)
  have HB4 := Aside0.mk (below_step HB3.out hb)
  clear hi hb z0 z1 z2 z3 z4 z5 y0 y1 y2 y3 y4 y5
  have z0 : w4.cell? ⟨g, 0, none⟩ = some (.int .u16 r.id) := (blk_cell HX4.out 0).trans rfl; have z1 : w4.cell? ⟨g, 1, none⟩ = some (.int .u16 r.flags) := (blk_cell HX4.out 1).trans rfl; have z2 : w4.cell? ⟨g, 2, none⟩ = some (.slice A2 r.qs.length c2) := (blk_cell HX4.out 2).trans rfl; have z3 : w4.cell? ⟨g, 3, none⟩ = some (.slice A3 r.ans.length c3) := (blk_cell HX4.out 3).trans rfl; have z4 : w4.cell? ⟨g, 4, none⟩ = some (.slice A4 r.auth.length c4) := (blk_cell HX4.out 4).trans rfl; have z5 : w4.cell? ⟨g, 5, none⟩ = some (.slice A5 r.add.length c5) := (blk_cell HX4.out 5).trans rfl
  have y0 : w4.cell? ⟨g2, 0, none⟩ = some (.int .u16 s.id) := (blk_cell HY4.out 0).trans rfl; have y1 : w4.cell? ⟨g2, 1, none⟩ = some (.int .u16 s.flags) := (blk_cell HY4.out 1).trans rfl; have y2 : w4.cell? ⟨g2, 2, none⟩ = some (.slice B2 s.qs.length d2) := (blk_cell HY4.out 2).trans rfl; have y3 : w4.cell? ⟨g2, 3, none⟩ = some (.slice B3 s.ans.length d3) := (blk_cell HY4.out 3).trans rfl; have y4 : w4.cell? ⟨g2, 4, none⟩ = some (.slice B4 s.auth.length d4) := (blk_cell HY4.out 4).trans rfl; have y5 : w4.cell? ⟨g2, 5, none⟩ = some (.slice B5 s.add.length d5) := (blk_cell HY4.out 5).trans rfl
  cases b4
  case false =>
    have HN := Aside0.mk (show ¬ r = s from fun h => absurd (HI4.out.2 (by rw [h])) (by decide))
    go_wp2_with fail
    go_ret
    exact ⟨false, rfl, ⟨fun h => absurd h (by decide), fun h => absurd h HN.out⟩, HB4.out⟩
  go_wp2_with fail
  refine (records6_calls (Kd.C_below G5.out HB4.out) (Kd.C_below H5.out HB4.out)).mono ?_
  rintro e w5 ⟨b5, rfl, hi, hb⟩
  have HI5 := Aside0.mk hi
  have HX5 := Aside0.mk (blk_below HX4.out hb)
  have HY5 := Aside0.mk (blk_below HY4.out hb)
  have HB5 := Aside0.mk (below_step HB4.out hb)
  clear hi hb z0 z1 z2 z3 z4 z5 y0 y1 y2 y3 y4 y5
  have z0 : w5.cell? ⟨g, 0, none⟩ = some (.int .u16 r.id) := (blk_cell HX5.out 0).trans rfl; have z1 : w5.cell? ⟨g, 1, none⟩ = some (.int .u16 r.flags) := (blk_cell HX5.out 1).trans rfl; have z2 : w5.cell? ⟨g, 2, none⟩ = some (.slice A2 r.qs.length c2) := (blk_cell HX5.out 2).trans rfl; have z3 : w5.cell? ⟨g, 3, none⟩ = some (.slice A3 r.ans.length c3) := (blk_cell HX5.out 3).trans rfl; have z4 : w5.cell? ⟨g, 4, none⟩ = some (.slice A4 r.auth.length c4) := (blk_cell HX5.out 4).trans rfl; have z5 : w5.cell? ⟨g, 5, none⟩ = some (.slice A5 r.add.length c5) := (blk_cell HX5.out 5).trans rfl
  have y0 : w5.cell? ⟨g2, 0, none⟩ = some (.int .u16 s.id) := (blk_cell HY5.out 0).trans rfl; have y1 : w5.cell? ⟨g2, 1, none⟩ = some (.int .u16 s.flags) := (blk_cell HY5.out 1).trans rfl; have y2 : w5.cell? ⟨g2, 2, none⟩ = some (.slice B2 s.qs.length d2) := (blk_cell HY5.out 2).trans rfl; have y3 : w5.cell? ⟨g2, 3, none⟩ = some (.slice B3 s.ans.length d3) := (blk_cell HY5.out 3).trans rfl; have y4 : w5.cell? ⟨g2, 4, none⟩ = some (.slice B4 s.auth.length d4) := (blk_cell HY5.out 4).trans rfl; have y5 : w5.cell? ⟨g2, 5, none⟩ = some (.slice B5 s.add.length d5) := (blk_cell HY5.out 5).trans rfl
  cases b5
  case false =>
    have HN := Aside0.mk (show ¬ r = s from fun h => absurd (HI5.out.2 (by rw [h])) (by decide))
    go_wp2_with fail
    go_ret
    exact ⟨false, rfl, ⟨fun h => absurd h (by decide), fun h => absurd h HN.out⟩, HB5.out⟩
  go_wp2_with fail
  clear z0 z1 z2 z3 z4 z5 y0 y1 y2 y3 y4 y5 e1 e2 e3
  go_loopw [5] (fun t wr => ∃ k : Nat, t = .int .i64 k ∧ Aside0 (k ≤ r.qs.length) ∧ Aside0 (r.qs.take k = s.qs.take k) ∧ Aside0 (Below w.heap.size w wr) ∧ Aside0 (Below w5.heap.size w5 wr)) (fun t _ => r.qs.length - (intOf t).toNat)
  case atStart => exact ⟨0, rfl, ⟨Nat.zero_le _⟩, ⟨rfl⟩, HB5, ⟨Below.refl _ _⟩⟩
  case round =>
    obtain ⟨k, rfl, HK, HE, HB7, HB6⟩ := hrel
    have z5 : wr.cell? ⟨g, 2, none⟩ = some (.slice A2 r.qs.length c2) := (blk_cell (blk_below HX5.out HB6.out) 2).trans rfl
    have y5 : wr.cell? ⟨g2, 2, none⟩ = some (.slice B2 s.qs.length d2) := (blk_cell (blk_below HY5.out HB6.out) 2).trans rfl
    by_cases hk : k < r.qs.length
    · obtain ⟨ad, x, hA, hx, e0, e1, e2⟩ := at_ques (Kd.C_below G2.out HB7.out) k hk
      obtain ⟨ad2, x2, hA2, hx2, f0, f1, f2⟩ := at_ques (Kd.C_below H2.out HB7.out) k (by rw [K3.out]; exact hk)
      subst hA hA2
      have hks := K3.out
      have p1 : (0 : Int) ≤ (k : Int) := by omega
      have p2 : (k : Int) < (r.qs.length : Int) := by omega
      have p3 : (k : Int) < (s.qs.length : Int) := by omega
      have HS := Aside0.mk (And.intro hx hx2)
      clear hx hx2 hks
      go_wp2_with fail
      refine start_ (n := 11) (S := fun w' => w'.cell? ⟨g, 2, none⟩ = some (.slice (some ad) r.qs.length c2) ∧ w'.cell? ⟨g2, 2, none⟩ = some (.slice (some ad2) s.qs.length d2) ∧ w'.cell? (ad.add (k * 3)) = some (.string x.f0) ∧ w'.cell? ⟨(ad.add (k * 3)).block, (ad.add (k * 3)).off + 1, none⟩ = some (.int .u16 x.f1) ∧ w'.cell? ⟨(ad.add (k * 3)).block, (ad.add (k * 3)).off + 2, none⟩ = some (.int .u16 x.f2) ∧ w'.cell? (ad2.add (k * 3)) = some (.string x2.f0) ∧ w'.cell? ⟨(ad2.add (k * 3)).block, (ad2.add (k * 3)).off + 1, none⟩ = some (.int .u16 x2.f1) ∧ w'.cell? ⟨(ad2.add (k * 3)).block, (ad2.add (k * 3)).off + 2, none⟩ = some (.int .u16 x2.f2)) (ds := []) (Array.replicate 11 false) (by kernel_rfl) (by kernel_rfl) rfl ⟨z5, y5, e0, e1, e2, f0, f1, f2⟩ (fun hS => ?_)
      refine dpure 0 (some 58) rfl rfl (by kernel_rfl) (fun _ _ _ h => h) (by rfl) (v := ?_) (a' := ?_) ?_ ?_ ?_
      rotate_left 2
      · intro w'; go_simp; with_reducible rfl
      · simp only [Act.put, List.setIfInBounds_toArray, List.set_cons_zero, List.set_cons_succ]; rfl
      refine dtake 1 (some 59) rfl rfl (by kernel_rfl) (fun _ _ _ h => h) (by rfl) hS (v := ?_) (a' := ?_) ?_ ?_ ?_
      rotate_left 2
      · rintro w' ⟨s0,s1,s2,s3,s4,s5,s6,s7⟩; go_simp; with_reducible rfl
      · simp only [Act.put, List.setIfInBounds_toArray, List.set_cons_zero, List.set_cons_succ]; rfl
      refine dpure 2 (some 60) rfl rfl (by kernel_rfl) (fun _ _ _ h => h) (by rfl) (v := ?_) (a' := ?_) ?_ ?_ ?_
      rotate_left 2
      · intro w'; go_simp; with_reducible rfl
      · simp only [Act.put, List.setIfInBounds_toArray, List.set_cons_zero, List.set_cons_succ]; rfl
      refine dpure 3 (some 61) rfl rfl (by kernel_rfl) (fun _ _ _ h => h) (by rfl) (v := ?_) (a' := ?_) ?_ ?_ ?_
      rotate_left 2
      · intro w'; go_simp; with_reducible rfl
      · simp only [Act.put, List.setIfInBounds_toArray, List.set_cons_zero, List.set_cons_succ]; rfl
      refine dtake 4 (some 62) rfl rfl (by kernel_rfl) (fun _ _ _ h => h) (by rfl) hS (v := ?_) (a' := ?_) ?_ ?_ ?_
      rotate_left 2
      · rintro w' ⟨s0,s1,s2,s3,s4,s5,s6,s7⟩; go_simp; with_reducible rfl
      · simp only [Act.put, List.setIfInBounds_toArray, List.set_cons_zero, List.set_cons_succ]; rfl
      refine dpure 5 (some 63) rfl rfl (by kernel_rfl) (fun _ _ _ h => h) (by rfl) (v := ?_) (a' := ?_) ?_ ?_ ?_
      rotate_left 2
      · intro w'; go_simp; with_reducible rfl
      · simp only [Act.put, List.setIfInBounds_toArray, List.set_cons_zero, List.set_cons_succ]; rfl
      refine dtake 6 (some 64) rfl rfl (by kernel_rfl) (fun _ _ _ h => h) (by rfl) hS (v := ?_) (a' := ?_) ?_ ?_ ?_
      rotate_left 2
      · rintro w' ⟨s0,s1,s2,s3,s4,s5,s6,s7⟩; go_simp; with_reducible rfl
      · simp only [Act.put, List.setIfInBounds_toArray, List.set_cons_zero, List.set_cons_succ]; rfl
      refine dpure 7 (some 65) rfl rfl (by kernel_rfl) (fun _ _ _ h => h) (by rfl) (v := ?_) (a' := ?_) ?_ ?_ ?_
      rotate_left 2
      · intro w'; go_simp; with_reducible rfl
      · simp only [Act.put, List.setIfInBounds_toArray, List.set_cons_zero, List.set_cons_succ]; rfl
      refine dpure 8 (some 66) rfl rfl (by kernel_rfl) (fun _ _ _ h => h) (by rfl) (v := ?_) (a' := ?_) ?_ ?_ ?_
      rotate_left 2
      · intro w'; go_simp; with_reducible rfl
      · simp only [Act.put, List.setIfInBounds_toArray, List.set_cons_zero, List.set_cons_succ]; rfl
      refine dtake 9 (some 67) rfl rfl (by kernel_rfl) (fun _ _ _ h => h) (by rfl) hS (v := ?_) (a' := ?_) ?_ ?_ ?_
      rotate_left 2
      · rintro w' ⟨s0,s1,s2,s3,s4,s5,s6,s7⟩; go_simp; with_reducible rfl
      · simp only [Act.put, List.setIfInBounds_toArray, List.set_cons_zero, List.set_cons_succ]; rfl
      obtain ⟨b0, hb0⟩ : ∃ b0 : Bool, (b0 = false ↔ x = x2) := by
        by_cases h : x = x2
        · exact ⟨false, fun _ => h, fun _ => rfl⟩
        · exact ⟨true, fun e => absurd e (by decide), fun e => absurd e h⟩
      refine dpure 10 (some 68) rfl rfl (by kernel_rfl) (fun _ _ _ h => h) (by rfl) (v := .bool b0) (a' := ?_) ?_ ?_ ?_
      rotate_left 1
      · intro w'
        go_simp
        by_cases h : x = x2
        · obtain rfl := hb0.2 h
          subst h
          simp
        · have hb : b0 = true := by
            cases b0
            · exact absurd (hb0.1 rfl) h
            · rfl
          subst hb
          rw [ques_if_ne h]
      · simp only [Act.put, List.setIfInBounds_toArray, List.set_cons_zero, List.set_cons_succ]; rfl
      refine done_ (by kernel_rfl) ?_
      have HBd := Aside0.mk (below_drew HB7.out)
      have HBe := Aside0.mk (below_drew HB6.out)
      have HB0 := Aside0.mk hb0
      clear hb0 hS e0 e1 e2 f0 f1 f2 z5 y5
      cases b0
      case true =>
        have HN := Aside0.mk (show ¬ r = s from fun h => absurd (HB0.out.2 (by rw [← HS.out.1, ← HS.out.2, h])) (by decide))
        go_wp2_with fail
        go_ret
        exact ⟨false, rfl, ⟨fun h => absurd h (by decide), fun h => absurd h HN.out⟩, HBd.out⟩
      have HE2 := Aside0.mk (take_step zQues HE.out hk (by rw [K3.out]; exact hk) (HS.out.1.trans ((HB0.out.1 rfl).trans HS.out.2.symm)))
      go_wp2_with fail
      go_roundw
      case rel => exact ⟨k + 1, by go_num, ⟨hk⟩, HE2, HBd, HBe⟩
      case measure => simp [intOf]; omega
    · have hk' : k = r.qs.length := by have := HK.out; omega
      have HN := Aside0.mk (show r = s from by
        have h2 := take_all HE.out hk' K3.out
        have h3 := HI3.out.1 (by simp)
        have h4 := HI4.out.1 (by simp)
        have h5 := HI5.out.1 (by simp)
        have h0 := K1.out
        have h1 := K2.out
        obtain ⟨a0, a1, a2, a3, a4, a5⟩ := r
        obtain ⟨b0, b1, b2, b3, b4, b5⟩ := s
        simp only at h0 h1 h2 h3 h4 h5
        rw [h0, h1, h2, h3, h4, h5])
      clear hk'
      go_wp2_with fail
      go_ret
      exact ⟨true, rfl, ⟨fun _ => HN.out, fun _ => rfl⟩, HB7.out⟩
end Go.Proofs.Ytbbeikdbioelgaa.M
