/- Walk of package head: head. -/
import Derived.Test.YtdpoookgmckclaaDoorMHOne
import Derived.Test.YtdpoookgmckclaaDoorMText9
set_option linter.unusedVariables false
set_option linter.unusedSimpArgs false
namespace Go.Proofs.YtdpoookgmckclaaDoor.M
open Go.RowKit Go.Maps Go.Proofs.YtdpoookgmckclaaDoorW.PrintWords Go.Proofs.YtdpoookgmckclaaDoorW.PrintLast Go.Proofs.YtdpoookgmckclaaDoorW.PrintMore
attribute [local go_sem] max2_int min2_int max_two min_two max_three min_three max_four min_four
attribute [local go_sem ↓] Go.wp_at_zero Go.wp_at_succ
theorem heap_3 (h : Array Obj) (a b c : Obj) : (((h.push a).push b).push c)[h.size + 1 + 1]? = some c := by
  rw [Array.getElem?_push, if_pos (by simp)]
theorem told_new (w : World) : TAt w (((w.alloc (Obj.map #[] 0)).alloc (Obj.map #[] 0)).alloc (Obj.cells #[Value.map (some w.heap.size), Value.map (some (w.heap.size + 1)), .int .i64 0, .string ⟨#[]⟩, .int .i64 (-1)] 53)) (w.heap.size + 1 + 1) w.heap.size (w.heap.size + 1) [] (nps [] : Nat) ⟨#[]⟩ (-1) 0 := by
  have m1 := World.ownsMap_made (H := Unit) w Tryd.prog 9 (plainElem Tryd.prog 3)
  have m2 := World.ownsMap_made (H := Unit) (w.alloc (Obj.map #[] 0)) Tryd.prog 9 (plainElem Tryd.prog 9)
  refine ⟨?_, ⟨.map [], (m1.alloc _).alloc _, TRep.nil⟩, ⟨.map [], ?_, VRep.nil⟩, by omega, by omega, by omega, by omega, Nat.le_refl _, by omega, (((Below.refl _ _).alloc (Nat.le_refl _) _).alloc (by simp) _).alloc (by simp; omega) _⟩
  · show (((w.alloc _).alloc _).alloc _).heap[_]? = _
    simp only [World.alloc]
    exact heap_3 _ _ _ _
  · have := m2.alloc (Obj.cells #[Value.map (some w.heap.size), Value.map (some (w.heap.size + 1)), .int .i64 0, .string ⟨#[]⟩, .int .i64 (-1)] 53)
    have hs : (w.alloc (Obj.map #[] 0)).heap.size = w.heap.size + 1 := by simp
    rw [hs] at this
    exact this
theorem nps_add (c : List Fld) (f : Fld) (o : Nat) : addO o f + nps (addC c f) = o + nps c + 1 := by
  unfold addO addC
  by_cases hp : pseudoB f = true
  · have hc : countedB f = true := by unfold countedB; rw [hp]; rfl
    rw [if_pos hp, if_pos hc, nps_app]
    simp [nps, hp]
    omega
  · rw [if_neg hp]
    by_cases hc : countedB f = true
    · rw [if_pos hc, nps_app]
      simp [nps, hp]
      omega
    · rw [if_neg hc]
      omega
theorem valN_size {c : List Fld} {B : Nat} (h : ∀ f ∈ c, f.2.size ≤ B) (n : ByteArray) : (valN c n).size ≤ B := by
  unfold valN
  cases hf : c.find? fun f => decide (f.1 = n) with
  | none => exact Nat.zero_le _
  | some f => exact h f (List.mem_of_find?_eq_some hf)
theorem go_vals {xs : List Fl} (hF : ∀ x ∈ xs, x.v.size ≤ 100000) {c : List Fld} (h : headGo (xs.map Fl.f) 0 [] = some c) (n : ByteArray) : (valN c n).size ≤ 100000 := by
  have hc := headGo_mem _ _ _ _ h
  rw [List.nil_append] at hc
  refine valN_size (fun f hf => ?_) n
  rw [hc] at hf
  obtain ⟨x, hx, rfl⟩ := List.mem_map.1 (List.mem_filter.1 hf).1
  exact hF x hx
/-- How `head` ends. -/
structure HeadEnds (l : List Fld) (w : World) (e : Ending) (w' : World) : Prop where
  bad : headF l = none → e = .returned (.tuple #[.pointer none, .bool false])
  good : ∀ c m n, headF l = some (c, m, n) → ∃ g mt mv N, e = .returned (.tuple #[.pointer (some ⟨g, 0, none⟩), .bool true]) ∧ TAt w w' g mt mv c (nps c : Nat) m n N
  below : Below w.heap.size w w'
/-- Fields that may be gone through. -/
structure FewF (xs : List Fl) : Prop where
  len : xs.length ≤ 10000
  n : ∀ x ∈ xs, x.n.size ≤ 100000
  v : ∀ x ∈ xs, x.v.size ≤ 100000
set_option maxHeartbeats 8000000 in
set_option maxRecDepth 100000 in
theorem head_calls (A : Option Addr) (cp : Nat) (xs : List Fl) (w : World) (hr : kF.C w A xs.length xs) (hcp : xs.length ≤ cp) (hF : FewF xs) :
    Calls Tryd.prog 16 #[.slice A xs.length cp] w fun e w' => HeadEnds (xs.map Fl.f) w e w' := by
  have HRd := Aside0.mk hr
  have HF := Aside0.mk hF
  have m1 : (xs.length : Int) ≤ 10000 := by have := hF.len; omega
  have hmm := @run_makeMap Tryd.prog
  have HGo := Aside0.mk (show headGo ((xs.map Fl.f).drop 0) 0 [] = headGo (xs.map Fl.f) 0 [] from rfl)
  obtain ⟨R, hR⟩ : ∃ R, headGo (xs.map Fl.f) 0 [] = R := ⟨_, rfl⟩
  have HR := Lib.hid hR
  rw [hR] at HGo
  clear hr hF hR
  go_enter Tryd.func16, Tryd.ntmps16
  go_wp2_with fail
  clear hmm
  have HT := Aside0.mk (told_new w)
  generalize ((w.alloc (Obj.map #[] 0)).alloc (Obj.map #[] 0)).alloc _ = w1 at *
  generalize w.heap.size + 1 + 1 = g at *
  generalize w.heap.size + 1 = mv at *
  generalize w.heap.size = mt at *
  go_loopg [15] xs.length (fun kq v15 w' => ∃ (k o : Nat) (c : List Fld), v15 = .int .i64 k ∧ Aside0 (kq + k = xs.length) ∧ Aside0 (headGo ((xs.map Fl.f).drop k) o c = R) ∧ Aside0 (o + nps c = k) ∧ Aside0 (TAt w w' g mt mv c (nps c : Nat) ⟨#[]⟩ (-1) k))
  case atStart => exact ⟨0, 0, [], rfl, ⟨rfl⟩, HGo, ⟨rfl⟩, HT⟩
  case round =>
    clear HT HGo
    obtain ⟨k, o, c, rfl, HK, HGo, HO, HT⟩ := hrel
    cases gk with
    | zero =>
      obtain rfl : k = xs.length := by have := HK.out; omega
      have hgo := HGo.out
      rw [List.drop_of_length_le (by rw [List.length_map]; exact Nat.le_refl _), headGo] at hgo
      have hR : headGo (xs.map Fl.f) 0 [] = some c := HR.out.trans hgo.symm
      have hvs := go_vals HF.out.v hR
      have hH : headF (xs.map Fl.f) = endH c := by unfold headF; rw [hR]
      unfold endH at hH
      obtain ⟨b, hb⟩ : ∃ b, hasN c clN = b := ⟨_, rfl⟩
      obtain ⟨vl, hvl⟩ : ∃ v, valN c clN = v := ⟨_, rfl⟩
      obtain ⟨vt, hvt⟩ : ∃ v, valN c ctN = v := ⟨_, rfl⟩
      have hvls := hvs clN
      have hvts := hvs ctN
      rw [hvl] at hvls hH
      rw [hvt] at hvts hH
      rw [hb] at hH
      have HB := Lib.hid hb
      have HVl := Lib.hid hvl
      have HVt := Lib.hid hvt
      have HVs := Lib.hid hvts
      have HVls := Lib.hid hvls
      have t0 := HT.out.box.is 0 rfl
      have hl : (Instr.lookup 50 (.map (some mt)) (.string ⟨#[99, 111, 110, 116, 101, 110, 116, 45, 108, 101, 110, 103, 116, 104]⟩) false).run Tryd.prog wr = .ok (.int .i64 (b2n b : Nat)) wr := by rw [← HB.out]; exact HT.out.lookT ⟨#[99, 111, 110, 116, 101, 110, 116, 45, 108, 101, 110, 103, 116, 104]⟩ (by decide)
      clear hgo hR hvs hb hvl hvt hvls hvts HGo HO HK
      cases b with
      | false =>
        rw [if_neg (by decide)] at hH
        have HEn := Lib.hid hH
        clear hH
        have hl : (Instr.lookup 50 (.map (some mt)) (.string ⟨#[99, 111, 110, 116, 101, 110, 116, 45, 108, 101, 110, 103, 116, 104]⟩) false).run Tryd.prog wr = .ok (.int .i64 0) wr := hl
        have t1 := HT.out.box.is 1 rfl
        have hlv : (Instr.lookup 51 (.map (some mv)) (.string ⟨#[99, 111, 110, 116, 101, 110, 116, 45, 116, 121, 112, 101]⟩) false).run Tryd.prog wr = .ok (.string vt) wr := by rw [← HVt.out]; exact HT.out.lookV ⟨#[99, 111, 110, 116, 101, 110, 116, 45, 116, 121, 112, 101]⟩ (by decide)
        go_wp2_with fail
        refine (media_calls vt _ (by have := HVs.out; omega)).mono ?_
        rintro e w7 ⟨rfl, hb⟩
        have HT7 := Aside0.mk (HT.out.step hb)
        clear hb t1 hlv
        have t3 := HT7.out.box.is 3 rfl
        have f3 := HT7.out.box.frozen 3
        go_wp2_with fail
        go_ret2
        have hH : headF (xs.map Fl.f) = some (c, mediaF vt, (-1)) := HEn.out
        refine ⟨fun h => (by rw [hH] at h; exact absurd h (by simp)), fun c' m n h => ?_, ?_⟩
        · rw [hH] at h
          obtain ⟨h3, h4⟩ := Prod.mk.inj (Option.some.inj h)
          obtain ⟨h5, h6⟩ := Prod.mk.inj h4
          subst h3 h5 h6
          exact ⟨g, mt, mv, _, rfl, HT7.out.set 3 (.string (mediaF vt)) rfl⟩
        · exact (HT7.out.set 3 (.string (mediaF vt)) (ps' := nps c) (le' := (-1)) (me' := mediaF vt) rfl).below
      | true =>
        rw [if_pos rfl] at hH
        have hl : (Instr.lookup 50 (.map (some mt)) (.string ⟨#[99, 111, 110, 116, 101, 110, 116, 45, 108, 101, 110, 103, 116, 104]⟩) false).run Tryd.prog wr = .ok (.int .i64 1) wr := hl
        have t1 := HT.out.box.is 1 rfl
        have hlv : (Instr.lookup 51 (.map (some mv)) (.string ⟨#[99, 111, 110, 116, 101, 110, 116, 45, 108, 101, 110, 103, 116, 104]⟩) false).run Tryd.prog wr = .ok (.string vl) wr := by rw [← HVl.out]; exact HT.out.lookV ⟨#[99, 111, 110, 116, 101, 110, 116, 45, 108, 101, 110, 103, 116, 104]⟩ (by decide)
        obtain ⟨⟨q, ok⟩, hq⟩ : ∃ x, decF vl 999999999 = x := ⟨_, rfl⟩
        rw [hq] at hH
        have HQ := Lib.hid hq
        clear hq
        cases ok with
        | false =>
          have HEn := Lib.hid (show headF (xs.map Fl.f) = none from hH)
          clear hH
          go_wp2_with fail
          refine (decimal_calls vl 999999999 _ (by have := HVls.out; omega)).mono ?_
          rw [HQ.out]
          rintro e w5 ⟨rfl, hb⟩
          have HT5 := Aside0.mk (HT.out.step hb)
          clear hb t0 t1 hl hlv
          unfold decE
          go_wp2_with fail
          go_ret2
          exact ⟨fun _ => rfl, fun c' m n h => (by rw [HEn.out] at h; exact absurd h (by simp)), HT5.out.below⟩
        | true =>
          have HEn := Lib.hid (show headF (xs.map Fl.f) = some (c, mediaF vt, q) from hH)
          clear hH
          go_wp2_with fail
          refine (decimal_calls vl 999999999 _ (by have := HVls.out; omega)).mono ?_
          rw [HQ.out]
          rintro e w5 ⟨rfl, hb⟩
          have HT5 := Aside0.mk (HT.out.step hb)
          have HT6 := Aside0.mk (HT5.out.set 4 (.int .i64 q) (ps' := nps c) (le' := q) (me' := ⟨#[]⟩) rfl)
          clear hb t0 t1 hl hlv
          have t4 := HT5.out.box.is 4 rfl
          have f4 := HT5.out.box.frozen 4
          unfold decE
          go_upto_region 13 with fail
          generalize w5.setCell ⟨g, 4, none⟩ (.int .i64 q) = w6 at *
          clear t4 f4
          have t1 := HT6.out.box.is 1 rfl
          have hlv : (Instr.lookup 51 (.map (some mv)) (.string ⟨#[99, 111, 110, 116, 101, 110, 116, 45, 116, 121, 112, 101]⟩) false).run Tryd.prog w6 = .ok (.string vt) w6 := by rw [← HVt.out]; exact HT6.out.lookV ⟨#[99, 111, 110, 116, 101, 110, 116, 45, 116, 121, 112, 101]⟩ (by decide)
          go_wp2_with fail
          refine (media_calls vt _ (by have := HVs.out; omega)).mono ?_
          rintro e w7 ⟨rfl, hb⟩
          have HT7 := Aside0.mk (HT6.out.step hb)
          clear hb t1 hlv
          have t3 := HT7.out.box.is 3 rfl
          have f3 := HT7.out.box.frozen 3
          go_wp2_with fail
          go_ret2
          have hH : headF (xs.map Fl.f) = some (c, mediaF vt, q) := HEn.out
          refine ⟨fun h => (by rw [hH] at h; exact absurd h (by simp)), fun c' m n h => ?_, ?_⟩
          · rw [hH] at h
            obtain ⟨h3, h4⟩ := Prod.mk.inj (Option.some.inj h)
            obtain ⟨h5, h6⟩ := Prod.mk.inj h4
            subst h3 h5 h6
            exact ⟨g, mt, mv, _, rfl, HT7.out.set 3 (.string (mediaF vt)) rfl⟩
          · exact (HT7.out.set 3 (.string (mediaF vt)) (ps' := nps c) (le' := q) (me' := mediaF vt) rfl).below
    | succ j =>
      have hk : k < xs.length := by have := HK.out; omega
      obtain ⟨ad, x, rfl, hx, e0, e1, e2⟩ := at_fl (Kd.C_below HRd.out HT.out.below) k hk
      have hmem : x ∈ xs := by
        rw [List.getD_eq_getElem?_getD, List.getElem?_eq_getElem hk] at hx
        rw [← hx]
        exact List.getElem_mem hk
      have hgo := HGo.out
      have hd : (xs.map Fl.f).drop k = x.f :: (xs.map Fl.f).drop (k + 1) := by
        rw [List.drop_eq_getElem_cons (by rw [List.length_map]; exact hk), List.getElem_map]
        rw [List.getD_eq_getElem?_getD, List.getElem?_eq_getElem hk] at hx
        rw [show xs[k] = x from hx]
      rw [hd, headGo] at hgo
      have HG := Aside0.mk hgo
      have q1 : (0 : Int) ≤ (k : Int) := by omega
      have q2 : (k : Int) < (xs.length : Int) := by omega
      have HSn := Lib.hid (HF.out.n x hmem)
      have HSv := Lib.hid (HF.out.v x hmem)
      clear hgo hd hmem HGo hx
      go_wp2_with fail
      have hal := below_alloc (Below.refl wr.heap.size wr) (.cells #[.string x.n, .string x.v, .bool x.nv] 41 (0, 0))
      have HX2 := Aside0.mk (SAt.new wr #[.string x.n, .string x.v, .bool x.nv] 41)
      have HT2 := Aside0.mk (HT.out.step hal)
      generalize wr.alloc (.cells #[.string x.n, .string x.v, .bool x.nv] 41 (0, 0)) = w2 at *
      obtain ⟨gf, hgf⟩ : ∃ gf, wr.heap.size = gf := ⟨_, rfl⟩
      rw [hgf] at HX2 ⊢
      clear hal hgf e0 e1 e2 HT
      have z0 := HX2.out.is 0 rfl
      have z1 := HX2.out.is 1 rfl
      have z2 := HX2.out.is 2 rfl
      have t2 := HT2.out.box.is 2 rfl
      have hko : IntKind.i64.wrap ((k : Int) - (nps c : Int)) = (o : Int) := by rw [IntKind.wrap_i64]; have := HO.out; omega
      refine dr_start (fun w' => w'.cell? ⟨gf, 0, none⟩ = some (.string x.n) ∧ w'.cell? ⟨gf, 1, none⟩ = some (.string x.v) ∧ w'.cell? ⟨gf, 2, none⟩ = some (.bool x.nv) ∧ w'.cell? ⟨g, 2, none⟩ = some (.int .i64 (nps c : Nat))) [8] (by kernel_rfl) ⟨z0, z1, z2, t2⟩ (fun hS => ?_)
      repeat (first | (refine dr_pure (by kernel_rfl) (by rfl) (fun _ _ _ h => h) (v := ?_) (a' := ?_) ?_ ?_ ?_; rotate_left 2; (focus (intro w'; go_simp; with_reducible rfl)); (focus (simp only [Act.put, List.setIfInBounds_toArray, List.set_cons_zero, List.set_cons_succ]; rfl))) | (refine dr_take (by kernel_rfl) (by rfl) (fun _ _ _ h => h) hS (v := ?_) (a' := ?_) ?_ ?_ ?_; rotate_left 2; (focus (intro w' hS'; go_simp; with_reducible rfl)); (focus (simp only [Act.put, List.setIfInBounds_toArray, List.set_cons_zero, List.set_cons_succ]; rfl))) | (refine dr_off (by kernel_rfl) (by rfl) (fun _ _ _ h => h) (a' := ?_) ?_ ?_; rotate_left; (focus (simp only [Act.put, List.setIfInBounds_toArray, List.set_cons_zero, List.set_cons_succ]; rfl))))
      refine dr_callL Tryd.func24 (by kernel_rfl) rfl rfl (by kernel_rfl) (by kernel_rfl) (by rfl) (args := #[.pointer (some ⟨g, 0, none⟩), .agg #[.string x.n, .string x.v, .bool x.nv], .int .i64 o]) (by first | rfl | kernel_rfl | (simp [Act.eval]; done)) ?_
      refine (one_calls HT2.out.drew x o (by have := HSn.out; omega) (by have := HSv.out; omega) (by omega) (by have := HO.out; omega)).mono ?_
      intro e w3 hone
      obtain ⟨b, hb⟩ : ∃ b, oneB x.f o c = b := ⟨_, rfl⟩
      rw [hb] at hone
      have hg := HG.out
      rw [hb] at hg
      refine .inl ⟨_, hone.ret, ?_⟩
      refine dr_norm (a' := ?_) ?_ ?_
      rotate_left
      · simp only [Act.put, List.setIfInBounds_toArray, List.set_cons_zero, List.set_cons_succ]; rfl
      repeat (first | (refine dr_pure (by kernel_rfl) (by rfl) (fun _ _ _ h => h) (v := ?_) (a' := ?_) ?_ ?_ ?_; rotate_left 2; (focus (intro w'; go_simp; with_reducible rfl)); (focus (simp only [Act.put, List.setIfInBounds_toArray, List.set_cons_zero, List.set_cons_succ]; rfl))) | (refine dr_take (by kernel_rfl) (by rfl) (fun _ _ _ h => h) hS (v := ?_) (a' := ?_) ?_ ?_ ?_; rotate_left 2; (focus (intro w' hS'; go_simp; with_reducible rfl)); (focus (simp only [Act.put, List.setIfInBounds_toArray, List.set_cons_zero, List.set_cons_succ]; rfl))) | (refine dr_off (by kernel_rfl) (by rfl) (fun _ _ _ h => h) (a' := ?_) ?_ ?_; rotate_left; (focus (simp only [Act.put, List.setIfInBounds_toArray, List.set_cons_zero, List.set_cons_succ]; rfl))))
      refine dr_done (by kernel_rfl) ?_
      have HOn := Aside0.mk hone
      have HG := Aside0.mk hg
      clear hS hone hg hb z0 z1 z2 t2 HT2 HX2
      cases b with
      | false =>
        go_wp2_with fail
        go_ret2
        exact ⟨fun _ => rfl, fun c' m n h => by
          have h2 := HR.out.trans HG.out.symm
          unfold headF at h
          rw [h2] at h
          exact absurd h (by simp), HOn.out.below⟩
      | true =>
        have HT3 := Aside0.mk (HOn.out.good rfl)
        go_wp2_with fail
        go_roundg j
        case measure => omega
        case rel => exact ⟨k + 1, addO o x.f, addC c x.f, by go_num, ⟨by have := HK.out; omega⟩, HG, ⟨by have := nps_add c x.f o; have := HO.out; omega⟩, HT3⟩
end Go.Proofs.YtdpoookgmckclaaDoor.M
