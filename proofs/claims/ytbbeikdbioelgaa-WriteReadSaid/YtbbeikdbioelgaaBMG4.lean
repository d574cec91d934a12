/- Joined texts: walks and plain laws. -/
import Derived.Test.YtbbeikdbioelgaaBMG3
import Derived.Defers
import Derived.Recover
import Derived.StillTailTactics
import Derived.Test.YtbbeikdbioelgaaBMG1
import Derived.Laws.Concat
import Derived.Test.YtbbeikdbioelgaaBMG2
set_option linter.unusedVariables false
set_option linter.unusedSimpArgs false
namespace Go.Proofs.Ytbbeikdbioelgaa.M
open Go.RowKit Go.Maps Go.Proofs.YtbbeikdbioelgaaW.PrintWords Go.Proofs.YtbbeikdbioelgaaW.PrintLast Go.Proofs.YtbbeikdbioelgaaW.PrintMore
attribute [local go_sem] max2_int min2_int max_two min_two max_three min_three max_four min_four
attribute [local go_sem ↓] Go.wp_at_zero Go.wp_at_succ
def cntR (s : ByteArray) : Nat → List Int → Int → Except Int (List Int × Int)
  | 0, out, a => .ok (out, a)
  | k + 1, out, a => match getF s a 2 with
    | none => .error 2
    | some n => cntR s k (out ++ [n]) (a + 2)
def quessR (s : ByteArray) : Nat → List Ques → Int → Except Int (List Ques × Int)
  | 0, out, a => .ok (out, a)
  | k + 1, out, a => match quesR s a with
    | .error c => .error c
    | .ok (q, a') => quessR s k (out ++ [q]) a'
def msgE (s : ByteArray) (id fl : Int) (qs : List Ques) (ans auth : List Rec) : List Rec × Int → Except Int (Msg × Int)
  | (add, a) => if a < s.size then .error 7 else .ok (⟨id, fl, qs, ans, auth, add⟩, a)
def msgD (s : ByteArray) (id fl : Int) (l : List Int) (qs : List Ques) (ans : List Rec) : List Rec × Int → Except Int (Msg × Int)
  | (auth, a) => match recsR s (l.getD 3 0).toNat [] a with
    | .error c => .error c
    | .ok x => msgE s id fl qs ans auth x
def msgC (s : ByteArray) (id fl : Int) (l : List Int) (qs : List Ques) : List Rec × Int → Except Int (Msg × Int)
  | (ans, a) => match recsR s (l.getD 2 0).toNat [] a with
    | .error c => .error c
    | .ok x => msgD s id fl l qs ans x
def msgB (s : ByteArray) (id fl : Int) (l : List Int) : List Ques × Int → Except Int (Msg × Int)
  | (qs, a) => match recsR s (l.getD 1 0).toNat [] a with
    | .error c => .error c
    | .ok x => msgC s id fl l qs x
def msgA (s : ByteArray) (id fl : Int) : List Int × Int → Except Int (Msg × Int)
  | (l, a) => if 256 < l.sum then .error 6 else
    match quessR s (l.getD 0 0).toNat [] a with
    | .error c => .error c
    | .ok x => msgB s id fl l x
def msgR (s : ByteArray) : Except Int (Msg × Int) :=
  match getF s 0 2 with
  | none => .error 2
  | some id => match getF s 2 2 with
    | none => .error 2
    | some fl => match cntR s 4 [] 4 with
      | .error c => .error c
      | .ok x => msgA s id fl x
def QuessP (B : Nat) (l : List Ques) (v : Value) (w : World) : Prop := Kd.R kQues 39 w B (fun _ => True) v l
def MsgP (B : Nat) (m : Msg) (v : Value) (w : World) : Prop := ∃ v2 v3 v4 v5, v = .agg #[.int .u16 m.id, .int .u16 m.flags, v2, v3, v4, v5] ∧ QuessP B m.qs v2 w ∧ RecsP B m.ans v3 w ∧ RecsP B m.auth v4 w ∧ RecsP B m.add v5 w
def zMsg : Array Value := #[.int .u16 0, .int .u16 0, .slice none 0 0, .slice none 0 0, .slice none 0 0, .slice none 0 0]
structure MAt (w0 w : World) (g r m c : Nat) (s : ByteArray) (a : Int) (mc cc : Array Value) : Prop where
  rd : RAt w g s a
  o : Only g w0 w
  vr : SAt w r zMsg 26
  vm : SAt w m mc 26
  vc : SAt w c cc 116
  rm : r ≠ m
  rc : r ≠ c
  mc' : m ≠ c
  sr : w0.heap.size ≤ r
  sm : w0.heap.size ≤ m
  sc : w0.heap.size ≤ c
section
variable {w0 w w1 : World} {g r m c : Nat} {s : ByteArray} {a a' : Int} {mc cc : Array Value}
theorem MAt.call (h : MAt w0 w g r m c s a mc cc) (ho : Only g w w1) (hr : RAt w1 g s a') : MAt w0 w1 g r m c s a' mc cc :=
  ⟨hr, h.o.trans ho, h.vr.only h.rd (by decide) ho, h.vm.only h.rd (by decide) ho, h.vc.only h.rd (by decide) ho, h.rm, h.rc, h.mc', h.sr, h.sm, h.sc⟩
theorem MAt.drew (h : MAt w0 w g r m c s a mc cc) : MAt w0 w.drew g r m c s a mc cc := h.call (Only.refl g w).drew h.rd
theorem MAt.setm (h : MAt w0 w g r m c s a mc cc) (j : Nat) (u : Value) : MAt w0 (w.setCell ⟨m, j, none⟩ u) g r m c s a (mc.setIfInBounds j u) cc :=
  ⟨h.rd.far (Ne.symm (h.vm.ne h.rd (by decide))) j u, h.o.setNew h.sm j u, h.vr.far h.rm j u, h.vm.set j u, h.vc.far (Ne.symm h.mc') j u, h.rm, h.rc, h.mc', h.sr, h.sm, h.sc⟩
theorem MAt.setc (h : MAt w0 w g r m c s a mc cc) (j : Nat) (u : Value) : MAt w0 (w.setCell ⟨c, j, none⟩ u) g r m c s a mc (cc.setIfInBounds j u) :=
  ⟨h.rd.far (Ne.symm (h.vc.ne h.rd (by decide))) j u, h.o.setNew h.sc j u, h.vr.far h.rc j u, h.vm.far h.mc' j u, h.vc.set j u, h.rm, h.rc, h.mc', h.sr, h.sm, h.sc⟩
theorem MAt.grown {row : Option Nat} (h : MAt w0 w g r m c s a mc cc) (hg : w.grownBy w1 row) (hb : ∀ k, row = some k → w0.heap.size ≤ k) (n1 : some g ≠ row) (n2 : some r ≠ row) (n3 : some m ≠ row) (n4 : some c ≠ row) : MAt w0 w1 g r m c s a mc cc :=
  ⟨blk_grown h.rd hg n1, h.o.of_grown hg hb, blk_grown h.vr hg n2, blk_grown h.vm hg n3, blk_grown h.vc hg n4, h.rm, h.rc, h.mc', h.sr, h.sm, h.sc⟩
end
theorem four_nats {l : List Int} (hl : l.length = 4) (h : ∀ x ∈ l, 0 ≤ x ∧ x ≤ 65535) : ∃ n0 n1 n2 n3 : Nat, l = [(n0 : Int), (n1 : Int), (n2 : Int), (n3 : Int)] := by
  match l, hl with
  | [a, b, c, d], _ =>
    have h0 := h a (by simp)
    have h1 := h b (by simp)
    have h2 := h c (by simp)
    have h3 := h d (by simp)
    exact ⟨a.toNat, b.toNat, c.toNat, d.toNat, by rw [Int.toNat_of_nonneg h0.1, Int.toNat_of_nonneg h1.1, Int.toNat_of_nonneg h2.1, Int.toNat_of_nonneg h3.1]⟩
theorem quesR_at {s : ByteArray} {a : Int} {q : Ques} {a' : Int} (h : quesR s a = .ok (q, a')) : 0 ≤ a' ∧ a' ≤ s.size := by
  unfold quesR at h
  cases hn : nameAt s a with
  | error c => rw [hn] at h; exact absurd h (by simp)
  | ok x =>
    obtain ⟨b, a1⟩ := x
    rw [hn] at h
    simp only [] at h
    cases h1 : getF s a1 2 with
    | none => rw [h1] at h; exact absurd h (by simp)
    | some t =>
      rw [h1] at h
      simp only [] at h
      cases h2 : getF s (a1 + 2) 2 with
      | none => rw [h2] at h; exact absurd h (by simp)
      | some c =>
        rw [h2] at h
        have := (Prod.mk.inj (Except.ok.inj h)).2
        have := get2 h2
        omega
theorem recsR_at {s : ByteArray} (K : Nat) : ∀ {out : List Rec} {a : Int} {out' : List Rec} {a' : Int}, recsR s K out a = .ok (out', a') → 0 ≤ a ∧ a ≤ s.size → 0 ≤ a' ∧ a' ≤ s.size := by
  induction K with
  | zero =>
    intro out a out' a' h ha
    have := (Prod.mk.inj (Except.ok.inj h)).2
    omega
  | succ K ih =>
    intro out a out' a' h ha
    unfold recsR at h
    cases h1 : recR s a with
    | error c => rw [h1] at h; exact absurd h (by simp)
    | ok x =>
      obtain ⟨r, a2⟩ := x
      rw [h1] at h
      exact ih h (recR_at h1)
theorem MsgP.set {B : Nat} {mm : Msg} {v : Value} {w : World} {r : Nat} {cs : Array Value} (h : MsgP B mm v w) (hx : SAt w r cs 26) (j : Nat) (u : Value) : MsgP B mm v (w.setCell ⟨r, j, none⟩ u) := by
  obtain ⟨v2, v3, v4, v5, h1, h2, h3, h4, h5⟩ := h
  exact ⟨v2, v3, v4, v5, h1, Kd.R_set h2 hx (by decide) j u, Kd.R_set h3 hx (by decide) j u, Kd.R_set h4 hx (by decide) j u, Kd.R_set h5 hx (by decide) j u⟩
def cells4 (l : List Int) : Array Value := (l.map (Value.int .i64)).toArray
theorem cells4_set (l : List Int) (i : Nat) (n : Int) : (cells4 l).setIfInBounds i (.int .i64 n) = cells4 (l.set i n) := by
  simp [cells4]
theorem set_next (out : List Int) (k : Nat) (n : Int) : (out ++ List.replicate (k + 1) (0 : Int)).set out.length n = (out ++ [n]) ++ List.replicate k 0 := by
  rw [List.set_append_right _ _ (Nat.le_refl _), Nat.sub_self, List.replicate_succ, List.set_cons_zero, List.append_assoc]
  rfl
set_option maxHeartbeats 8000000 in
set_option maxRecDepth 100000 in
theorem message_reads {w : World} {g : Nat} {s : ByteArray} (h : RAt w g s 0) (hs : s.size ≤ 1000000) :
    Calls Try.prog 47 #[.pointer (some ⟨g, 0, none⟩)] w fun e w' => Ends (MsgP w.heap.size) (msgR s) w g s e w' := by
  obtain ⟨R, hR⟩ : ∃ R, msgR s = R := ⟨_, rfl⟩
  rw [hR]
  unfold msgR at hR
  have HS := Lib.hid hs
  have p0 : (s.size : Int) ≤ 1000000 := by omega
  go_enter Try.func47, Try.ntmps47
  go_wp2_with fail
  have hr1 := h.below (below_alloc (Below.refl _ _) (.cells zMsg 26 (0, 0)))
  have hv1 := SAt.new w zMsg 26
  have ho1 := (Only.refl g w).alloc (.cells zMsg 26 (0, 0))
  cases h1 : getF s 0 2 with
  | none =>
    rw [h1] at hR
    refine (num_no hr1 hs h1).mono ?_
    rintro e w' ⟨rfl, ho⟩
    exact ⟨rfl, Ends.err hR.symm (ho1.trans ho)⟩
  | some id =>
    rw [h1] at hR
    simp only [] at hR
    obtain ⟨i0, i1, _, i3, hwi⟩ := get2 h1
    refine (num_yes hr1 hs h1).mono ?_
    rintro e w2 ⟨rfl, hr2, ho⟩
    have ho2 := ho1.trans ho
    have hv2 := hv1.only hr1 (by decide) ho
    rw [show (0 : Int) + 2 = 2 from rfl] at hr2
    clear h1 hr1 hv1 ho1 ho h
    go_wp2_with fail
    have hm3 := SAt.new w2 #[.int .u16 id, .int .u16 0, .slice none 0 0, .slice none 0 0, .slice none 0 0, .slice none 0 0] 26
    have hr3 := hr2.below (below_alloc (Below.refl _ _) (.cells #[.int .u16 id, .int .u16 0, .slice none 0 0, .slice none 0 0, .slice none 0 0, .slice none 0 0] 26 (0, 0)))
    have ho3 := ho2.alloc (.cells #[.int .u16 id, .int .u16 0, .slice none 0 0, .slice none 0 0, .slice none 0 0, .slice none 0 0] 26 (0, 0))
    have hv3 := hv2.below (below_alloc (Below.refl _ _) (.cells #[.int .u16 id, .int .u16 0, .slice none 0 0, .slice none 0 0, .slice none 0 0, .slice none 0 0] 26 (0, 0)))
    have hsz := ho2.size
    have hlt := hv2.lt
    clear hr2 ho2 hv2
    generalize hW : w2.alloc (.cells #[.int .u16 id, .int .u16 0, .slice none 0 0, .slice none 0 0, .slice none 0 0, .slice none 0 0] 26 (0, 0)) = w3 at *
    obtain ⟨m, hm⟩ : ∃ m, w2.heap.size = m := ⟨_, rfl⟩
    obtain ⟨r, hr⟩ : ∃ r, w.heap.size = r := ⟨_, rfl⟩
    rw [hm] at hm3 hsz hlt
    rw [hr] at hv3 hlt
    have hrm : r ≠ m := by omega
    have hsr : w.heap.size ≤ r := by omega
    rw [hm]
    rw [hr]
    clear hm hr hW hlt
    cases h2 : getF s 2 2 with
    | none =>
      rw [h2] at hR
      refine (num_no hr3 hs h2).mono ?_
      rintro e w' ⟨rfl, ho⟩
      exact ⟨rfl, Ends.err hR.symm (ho3.trans ho)⟩
    | some fl =>
      rw [h2] at hR
      simp only [] at hR
      obtain ⟨f0, f1, _, f3, hwf⟩ := get2 h2
      refine (num_yes hr3 hs h2).mono ?_
      rintro e w4 ⟨rfl, hr4, ho⟩
      rw [show (2 : Int) + 2 = 4 from rfl] at hr4
      have ho4 := ho3.trans ho
      have hv4 := hv3.only hr3 (by decide) ho
      have hm4 := hm3.only hr3 (by decide) ho
      have hgm := hm4.ne hr4 (by decide)
      have y := hm4.is 1 rfl
      have f := hm4.frozen 1
      clear h2 hr3 ho3 hv3 hm3 ho
      go_wp2_with fail
      have ho5 := ho4.setNew hsz 1 (.int .u16 fl)
      have hr5 := hr4.far (Ne.symm hgm) 1 (.int .u16 fl)
      have hv5 := hv4.far hrm 1 (.int .u16 fl)
      have hm5 : SAt (w4.setCell ⟨m, 1, none⟩ (.int .u16 fl)) m #[.int .u16 id, .int .u16 fl, .slice none 0 0, .slice none 0 0, .slice none 0 0, .slice none 0 0] 26 := hm4.set 1 (.int .u16 fl)
      have hc6 := SAt.new (w4.setCell ⟨m, 1, none⟩ (.int .u16 fl)) (cells4 [0, 0, 0, 0]) 116
      rw [show (w4.setCell ⟨m, 1, none⟩ (.int .u16 fl)).heap.size = w4.heap.size by simp [World.setCell]] at hc6
      have hM : MAt w ((w4.setCell ⟨m, 1, none⟩ (.int .u16 fl)).alloc (.cells (cells4 [0, 0, 0, 0]) 116 (0, 0))) g r m w4.heap.size s 4 #[.int .u16 id, .int .u16 fl, .slice none 0 0, .slice none 0 0, .slice none 0 0, .slice none 0 0] (cells4 [0, 0, 0, 0]) :=
        ⟨hr5.below (below_alloc (Below.refl _ _) _), ho5.alloc _, hv5.below (below_alloc (Below.refl _ _) _), hm5.below (below_alloc (Below.refl _ _) _), hc6, hrm, by have := hv4.lt; omega, by have := hm4.lt; omega, hsr, hsz, by have := ho4.size; omega⟩
      have HM := Aside0.mk hM
      have HQ := Aside0.mk hR
      obtain ⟨RC, hRC⟩ : ∃ RC, cntR s 4 [] 4 = RC := ⟨_, rfl⟩
      rw [hRC] at HQ
      have HL := Aside0.mk hRC
      clear hR hRC hM ho5 hr5 hv5 hm5 hc6 ho4 hr4 hv4 hm4 y f
      obtain ⟨c, hc⟩ : ∃ c, w4.heap.size = c := ⟨_, rfl⟩
      rw [hc] at HM ⊢
      clear hc
      go_loopg [5, 15] 4 (fun kq v5 v15 w' => ∃ (i : Nat) (out : List Int) (at' all : Int), v5 = .int .i64 all ∧ v15 = .int .i64 i ∧ Aside0 (cntR s kq out at' = RC) ∧ Aside0 (kq + i = 4) ∧ Aside0 (out.length = i) ∧ Aside0 (out.sum = all) ∧ Aside0 (∀ x ∈ out, 0 ≤ x ∧ x ≤ 65535) ∧ Aside0 (0 ≤ all ∧ all ≤ 65535 * (i : Int)) ∧ Aside0 (0 ≤ at' ∧ at' ≤ s.size) ∧ Aside0 (MAt w w' g r m c s at' #[.int .u16 id, .int .u16 fl, .slice none 0 0, .slice none 0 0, .slice none 0 0, .slice none 0 0] (cells4 (out ++ List.replicate kq 0))))
      case atStart => exact ⟨0, [], 4, 0, rfl, rfl, HL, ⟨rfl⟩, ⟨rfl⟩, ⟨rfl⟩, ⟨fun x hx => absurd hx (by simp)⟩, ⟨by omega⟩, ⟨by omega⟩, HM⟩
      case round =>
        clear HL HM
        obtain ⟨i, out, at', all, rfl, rfl, HL, HK, HLen, HSum, HAll, HB, HA, HM⟩ := hrel
        have hl := HL.out
        clear HL
        cases gk with
        | zero =>
          obtain rfl : i = 4 := by have := HK.out; omega
          have hq := HQ.out
          rw [← hl] at hq
          have hq : msgA s id fl (out, at') = R := hq
          obtain ⟨n0, n1, n2, n3, hout⟩ := four_nats HLen.out HAll.out
          subst hout
          have hsum : ([(n0 : Int), n1, n2, n3] : List Int).sum = (n0 : Int) + (n1 + (n2 + n3)) := by simp
          rw [HSum.out] at hsum
          have HSm := Lib.hid hsum
          clear hsum
          have hM : MAt w wr g r m c s at' #[.int .u16 id, .int .u16 fl, .slice none 0 0, .slice none 0 0, .slice none 0 0, .slice none 0 0] #[.int .i64 n0, .int .i64 n1, .int .i64 n2, .int .i64 n3] := HM.out
          clear hl HQ HM HAll HK
          by_cases c1 : 256 < all
          · have hq := ((if_pos (by rw [HSum.out]; exact c1)).symm.trans hq : Except.error 6 = R)
            have d1 : decide (256 < all) = true := decide_eq_true c1
            have HE := Lib.hid hq
            clear hq c1
            go_wp2_with fail
            exact ⟨rfl, Ends.err HE.out.symm hM.o⟩
          have hq := ((if_neg (by rw [HSum.out]; exact c1)).symm.trans hq : (match quessR s n0 [] at' with | .error c => .error c | .ok x => msgB s id fl [(n0 : Int), n1, n2, n3] x) = R)
          have d1 : decide (256 < all) = false := decide_eq_false c1
          have N0 := Lib.hid (show n0 ≤ 256 ∧ n1 ≤ 256 ∧ n2 ≤ 256 ∧ n3 ≤ 256 by have := HSm.out; omega)
          have k0 : (n0 : Int) ≤ 256 := by have := N0.out; omega
          have y0 := hM.vc.is 0 rfl
          have hmc := hM.mc'
          have hcm := Ne.symm hM.mc'
          have HM := Aside0.mk hM
          obtain ⟨RQ, hRQ⟩ : ∃ RQ, quessR s n0 [] at' = RQ := ⟨_, rfl⟩
          rw [hRQ] at hq
          have HQ := Aside0.mk hq
          have HL := Aside0.mk hRQ
          have HX := Aside0.mk (show QuessP w.heap.size [] (.slice none 0 0) wr from Kd.R_nil _ _ _ _ _)
          clear c1 HSm HB HSum hM hq hRQ HLen
          go_wp2_with fail
          clear y0
          go_loopg [34] n0 (fun kq v34 w' => ∃ (i : Nat) (qs : List Ques) (at' : Int) (v2 : Value), v34 = .int .i64 i ∧ Aside0 (quessR s kq qs at' = RQ) ∧ Aside0 (kq + i = n0) ∧ Aside0 (qs.length = i) ∧ Aside0 (0 ≤ at' ∧ at' ≤ s.size) ∧ Aside0 (MAt w w' g r m c s at' #[.int .u16 id, .int .u16 fl, v2, .slice none 0 0, .slice none 0 0, .slice none 0 0] #[.int .i64 n0, .int .i64 n1, .int .i64 n2, .int .i64 n3]) ∧ Aside0 (QuessP w.heap.size qs v2 w'))
          case atStart => exact ⟨0, [], at', .slice none 0 0, rfl, HL, ⟨rfl⟩, ⟨rfl⟩, HA, HM, HX⟩
          case round =>
            clear HL HM HA HX
            obtain ⟨i, qs, at', v2, rfl, HL, HK, HLen, HA, HM, HX⟩ := hrel
            have hl := HL.out
            obtain ⟨A2, l2, c2, rfl⟩ := R_anyslice HX.out
            clear HL
            cases gk with
            | zero =>
              obtain rfl : i = n0 := by have := HK.out; omega
              have hq := HQ.out
              rw [← hl] at hq
              have hq : msgB s id fl [(i : Int), n1, n2, n3] (qs, at') = R := hq
              clear hl HQ HK
              have hmc := HM.out.mc'
              have hcm := Ne.symm HM.out.mc'
              have y1 := HM.out.vc.is 1 rfl
              have k1 : (n1 : Int) ≤ 256 := by have := N0.out; omega
              have hq : (match recsR s n1 [] at' with | .error c => .error c | .ok x => msgC s id fl [(i : Int), n1, n2, n3] qs x) = R := hq
              go_wp2_with fail
              refine (records_reads (count := n1) HM.out.rd HS.out HA.out.1 HA.out.2 N0.out.2.1).mono ?_
              intro e w' ht
              cases hn : recsR s n1 [] at' with
              | error d =>
                rw [hn] at hq
                obtain rfl := ht.bad d hn
                exact ⟨rfl, Ends.err hq.symm (HM.out.o.trans ht.only)⟩
              | ok x =>
                obtain ⟨ans, a3⟩ := x
                rw [hn] at hq
                obtain ⟨v, rfl, hp, hr⟩ := ht.good ans a3 hn
                obtain ⟨A3, l3, c3, rfl⟩ := R_anyslice hp
                obtain ⟨w5, hw5⟩ : ∃ x, x = w' := ⟨_, rfl⟩
                subst hw5
                have hM := HM.out.call ht.only hr
                have ym := hM.vm.is 3 rfl
                have fm := hM.vm.frozen 3
                have hX2 : QuessP w.heap.size qs (.slice A2 l2 c2) w5 := R_only HX.out HM.out.rd (by decide) ht.only
                have HX2 := Aside0.mk (show QuessP w.heap.size qs (.slice A2 l2 c2) (w5.setCell ⟨m, 3, none⟩ (.slice A3 l3 c3)) from Kd.R_set hX2 hM.vm (by decide) 3 (.slice A3 l3 c3))
                have HX3 := Aside0.mk (show RecsP w.heap.size ans (.slice A3 l3 c3) (w5.setCell ⟨m, 3, none⟩ (.slice A3 l3 c3)) from Kd.R_set (Kd.R_lower hp HM.out.o.size) hM.vm (by decide) 3 (.slice A3 l3 c3))
                have HM3 := Aside0.mk (hM.setm 3 (.slice A3 l3 c3))
                have HA3 := Aside0.mk (recsR_at _ hn HA.out)
                have hq : (match recsR s n2 [] a3 with | .error c => .error c | .ok x => msgD s id fl [(i : Int), n1, n2, n3] qs ans x) = R := hq
                have y2 := hM.vc.is 2 rfl
                have k2 : (n2 : Int) ≤ 256 := by have := N0.out; omega
                clear ht hn hp hr hX2 hM y1 HX HM HA
                go_wp2_with fail
                refine (records_reads (count := n2) HM3.out.rd HS.out HA3.out.1 HA3.out.2 N0.out.2.2.1).mono ?_
                intro e w' ht
                cases hn : recsR s n2 [] a3 with
                | error d =>
                  rw [hn] at hq
                  obtain rfl := ht.bad d hn
                  exact ⟨rfl, Ends.err hq.symm (HM3.out.o.trans ht.only)⟩
                | ok x =>
                  obtain ⟨auth, a4⟩ := x
                  rw [hn] at hq
                  obtain ⟨v, rfl, hp, hr⟩ := ht.good auth a4 hn
                  obtain ⟨A4, l4, c4, rfl⟩ := R_anyslice hp
                  obtain ⟨w6, hw5⟩ : ∃ x, x = w' := ⟨_, rfl⟩
                  subst hw5
                  have hM := HM3.out.call ht.only hr
                  have ym := hM.vm.is 4 rfl
                  have fm := hM.vm.frozen 4
                  have hX2 : QuessP w.heap.size qs (.slice A2 l2 c2) w6 := R_only HX2.out HM3.out.rd (by decide) ht.only
                  have hX3 : RecsP w.heap.size ans (.slice A3 l3 c3) w6 := R_only HX3.out HM3.out.rd (by decide) ht.only
                  have HY2 := Aside0.mk (show QuessP w.heap.size qs (.slice A2 l2 c2) (w6.setCell ⟨m, 4, none⟩ (.slice A4 l4 c4)) from Kd.R_set hX2 hM.vm (by decide) 4 (.slice A4 l4 c4))
                  have HY3 := Aside0.mk (show RecsP w.heap.size ans (.slice A3 l3 c3) (w6.setCell ⟨m, 4, none⟩ (.slice A4 l4 c4)) from Kd.R_set hX3 hM.vm (by decide) 4 (.slice A4 l4 c4))
                  have HY4 := Aside0.mk (show RecsP w.heap.size auth (.slice A4 l4 c4) (w6.setCell ⟨m, 4, none⟩ (.slice A4 l4 c4)) from Kd.R_set (Kd.R_lower hp HM3.out.o.size) hM.vm (by decide) 4 (.slice A4 l4 c4))
                  have HM4 := Aside0.mk (hM.setm 4 (.slice A4 l4 c4))
                  have HA4 := Aside0.mk (recsR_at _ hn HA3.out)
                  have hq : (match recsR s n3 [] a4 with | .error c => .error c | .ok x => msgE s id fl qs ans auth x) = R := hq
                  have y3 := hM.vc.is 3 rfl
                  have k3 : (n3 : Int) ≤ 256 := by have := N0.out; omega
                  clear ht hn hp hr hX2 hX3 hM y2 HX2 HX3 HM3 HA3
                  go_wp2_with fail
                  refine (records_reads (count := n3) HM4.out.rd HS.out HA4.out.1 HA4.out.2 N0.out.2.2.2).mono ?_
                  intro e w' ht
                  cases hn : recsR s n3 [] a4 with
                  | error d =>
                    rw [hn] at hq
                    obtain rfl := ht.bad d hn
                    exact ⟨rfl, Ends.err hq.symm (HM4.out.o.trans ht.only)⟩
                  | ok x =>
                    obtain ⟨add, a5⟩ := x
                    rw [hn] at hq
                    obtain ⟨v, rfl, hp, hr⟩ := ht.good add a5 hn
                    obtain ⟨A5, l5, c5, rfl⟩ := R_anyslice hp
                    obtain ⟨w7, hw5⟩ : ∃ x, x = w' := ⟨_, rfl⟩
                    subst hw5
                    have hM := HM4.out.call ht.only hr
                    have ym := hM.vm.is 5 rfl
                    have fm := hM.vm.frozen 5
                    have hX2 : QuessP w.heap.size qs (.slice A2 l2 c2) w7 := R_only HY2.out HM4.out.rd (by decide) ht.only
                    have hX3 : RecsP w.heap.size ans (.slice A3 l3 c3) w7 := R_only HY3.out HM4.out.rd (by decide) ht.only
                    have hX4 : RecsP w.heap.size auth (.slice A4 l4 c4) w7 := R_only HY4.out HM4.out.rd (by decide) ht.only
                    have HZ2 := Aside0.mk (show QuessP w.heap.size qs (.slice A2 l2 c2) (w7.setCell ⟨m, 5, none⟩ (.slice A5 l5 c5)) from Kd.R_set hX2 hM.vm (by decide) 5 (.slice A5 l5 c5))
                    have HZ3 := Aside0.mk (show RecsP w.heap.size ans (.slice A3 l3 c3) (w7.setCell ⟨m, 5, none⟩ (.slice A5 l5 c5)) from Kd.R_set hX3 hM.vm (by decide) 5 (.slice A5 l5 c5))
                    have HZ4 := Aside0.mk (show RecsP w.heap.size auth (.slice A4 l4 c4) (w7.setCell ⟨m, 5, none⟩ (.slice A5 l5 c5)) from Kd.R_set hX4 hM.vm (by decide) 5 (.slice A5 l5 c5))
                    have HZ5 := Aside0.mk (show RecsP w.heap.size add (.slice A5 l5 c5) (w7.setCell ⟨m, 5, none⟩ (.slice A5 l5 c5)) from Kd.R_set (Kd.R_lower hp HM4.out.o.size) hM.vm (by decide) 5 (.slice A5 l5 c5))
                    have HM5 := Aside0.mk (hM.setm 5 (.slice A5 l5 c5))
                    have hq : (if a5 < s.size then .error 7 else .ok (⟨id, fl, qs, ans, auth, add⟩, a5)) = R := hq
                    clear ht hn hp hr hX2 hX3 hX4 hM y3 HY2 HY3 HY4 HM4 HA4
                    go_wp2_with fail
                    clear ym fm
                    generalize hW : w7.setCell ⟨m, 5, none⟩ (.slice A5 l5 c5) = w8 at *
                    clear hW
                    have z0 := HM5.out.rd.c0
                    have z1 := HM5.out.rd.c1
                    refine start_ (n := 10) (S := fun w' => w'.cell? ⟨g, 0, none⟩ = some (.string s) ∧ w'.cell? ⟨g, 1, none⟩ = some (.int .i64 a5)) (ds := []) (Array.replicate 10 false) (by kernel_rfl) (by kernel_rfl) rfl ⟨z0, z1⟩ (fun hS => ?_)
                    refine dpure 0 (some 59) rfl rfl (by kernel_rfl) (fun _ _ _ h => h) (by rfl) (v := ?_) (a' := ?_) ?_ ?_ ?_
                    rotate_left 2
                    · intro w'; go_simp; with_reducible rfl
                    · simp only [Act.put, List.setIfInBounds_toArray, List.set_cons_zero, List.set_cons_succ]; rfl
                    refine dpure 1 (some 60) rfl rfl (by kernel_rfl) (fun _ _ _ h => h) (by rfl) (v := ?_) (a' := ?_) ?_ ?_ ?_
                    rotate_left 2
                    · intro w'; go_simp; with_reducible rfl
                    · simp only [Act.put, List.setIfInBounds_toArray, List.set_cons_zero, List.set_cons_succ]; rfl
                    refine dpure 2 (some 61) rfl rfl (by kernel_rfl) (fun _ _ _ h => h) (by rfl) (v := ?_) (a' := ?_) ?_ ?_ ?_
                    rotate_left 2
                    · intro w'; go_simp; with_reducible rfl
                    · simp only [Act.put, List.setIfInBounds_toArray, List.set_cons_zero, List.set_cons_succ]; rfl
                    refine dtake 3 (some 62) rfl rfl (by kernel_rfl) (fun _ _ _ h => h) (by rfl) hS (v := ?_) (a' := ?_) ?_ ?_ ?_
                    rotate_left 2
                    · rintro w' ⟨s0,s1⟩; go_simp; with_reducible rfl
                    · simp only [Act.put, List.setIfInBounds_toArray, List.set_cons_zero, List.set_cons_succ]; rfl
                    refine dpure 4 (some 63) rfl rfl (by kernel_rfl) (fun _ _ _ h => h) (by rfl) (v := ?_) (a' := ?_) ?_ ?_ ?_
                    rotate_left 2
                    · intro w'; go_simp; with_reducible rfl
                    · simp only [Act.put, List.setIfInBounds_toArray, List.set_cons_zero, List.set_cons_succ]; rfl
                    refine dpure 5 (some 64) rfl rfl (by kernel_rfl) (fun _ _ _ h => h) (by rfl) (v := ?_) (a' := ?_) ?_ ?_ ?_
                    rotate_left 2
                    · intro w'; go_simp; with_reducible rfl
                    · simp only [Act.put, List.setIfInBounds_toArray, List.set_cons_zero, List.set_cons_succ]; rfl
                    refine dpure 6 (some 65) rfl rfl (by kernel_rfl) (fun _ _ _ h => h) (by rfl) (v := ?_) (a' := ?_) ?_ ?_ ?_
                    rotate_left 2
                    · intro w'; go_simp; with_reducible rfl
                    · simp only [Act.put, List.setIfInBounds_toArray, List.set_cons_zero, List.set_cons_succ]; rfl
                    refine dtake 7 (some 66) rfl rfl (by kernel_rfl) (fun _ _ _ h => h) (by rfl) hS (v := ?_) (a' := ?_) ?_ ?_ ?_
                    rotate_left 2
                    · rintro w' ⟨s0,s1⟩; go_simp; with_reducible rfl
                    · simp only [Act.put, List.setIfInBounds_toArray, List.set_cons_zero, List.set_cons_succ]; rfl
                    refine dpure 8 (some 67) rfl rfl (by kernel_rfl) (fun _ _ _ h => h) (by rfl) (v := ?_) (a' := ?_) ?_ ?_ ?_
                    rotate_left 2
                    · intro w'; go_simp; with_reducible rfl
                    · simp only [Act.put, List.setIfInBounds_toArray, List.set_cons_zero, List.set_cons_succ]; rfl
                    clear hS
                    by_cases c9 : a5 < (s.size : Int)
                    · rw [if_pos c9] at hq
                      refine dpure 9 (some 68) rfl rfl (by kernel_rfl) (fun _ _ _ h => h) (by rfl) (v := .bool true) (a' := ?_) ?_ ?_ ?_
                      rotate_left 1
                      · intro w'; go_simp; first | done | omega | simp [c9]
                      · simp only [Act.put, List.setIfInBounds_toArray, List.set_cons_zero, List.set_cons_succ]; rfl
                      refine done_ (by kernel_rfl) ?_
                      clear c9
                      go_wp2_with fail
                      exact ⟨rfl, Ends.err hq.symm HM5.out.o.drew⟩
                    · rw [if_neg c9] at hq
                      refine dpure 9 (some 68) rfl rfl (by kernel_rfl) (fun _ _ _ h => h) (by rfl) (v := .bool false) (a' := ?_) ?_ ?_ ?_
                      rotate_left 1
                      · intro w'; go_simp; first | done | omega | simp [c9]
                      · simp only [Act.put, List.setIfInBounds_toArray, List.set_cons_zero, List.set_cons_succ]; rfl
                      refine done_ (by kernel_rfl) ?_
                      clear c9 z0 z1
                      have HM6 := HM5.out.drew
                      have HP6 : MsgP w.heap.size ⟨id, fl, qs, ans, auth, add⟩ (.agg #[.int .u16 id, .int .u16 fl, .slice A2 l2 c2, .slice A3 l3 c3, .slice A4 l4 c4, .slice A5 l5 c5]) w8.drew := ⟨_, _, _, _, rfl, Kd.R_drew HZ2.out, Kd.R_drew HZ3.out, Kd.R_drew HZ4.out, Kd.R_drew HZ5.out⟩
                      clear HZ2 HZ3 HZ4 HZ5 HM5
                      generalize hW : w8.drew = w9 at *
                      clear hW
                      have x0 := HM6.vm.is 0 rfl
                      have x1 := HM6.vm.is 1 rfl
                      have x2 := HM6.vm.is 2 rfl
                      have x3 := HM6.vm.is 3 rfl
                      have x4 := HM6.vm.is 4 rfl
                      have x5 := HM6.vm.is 5 rfl
                      have z0 := HM6.vr.is 0 rfl
                      have z1 := HM6.vr.is 1 rfl
                      have z2 := HM6.vr.is 2 rfl
                      have z3 := HM6.vr.is 3 rfl
                      have z4 := HM6.vr.is 4 rfl
                      have z5 := HM6.vr.is 5 rfl
                      have g0 := HM6.vr.frozen 0
                      have g1 := HM6.vr.frozen 1
                      have g2 := HM6.vr.frozen 2
                      have g3 := HM6.vr.frozen 3
                      have g4 := HM6.vr.frozen 4
                      have g5 := HM6.vr.frozen 5
                      have hmr := Ne.symm hrm
                      go_wp2_with fail
                      have L0 : Laying w w9 g r s a5 _ _ := ⟨HM6.vr, HM6.rd, HM6.o, HM6.vr.ne HM6.rd (by decide), hsr⟩
                      have L1 := L0.step 0 (.int .u16 id)
                      have L2 := L1.step 1 (.int .u16 fl)
                      have L3 := L2.step 2 (.slice A2 l2 c2)
                      have L4 := L3.step 3 (.slice A3 l3 c3)
                      have L5 := L4.step 4 (.slice A4 l4 c4)
                      have L6 := L5.step 5 (.slice A5 l5 c5)
                      have P6 := (((((HP6.set L0.v 0 (.int .u16 id)).set L1.v 1 (.int .u16 fl)).set L2.v 2 (.slice A2 l2 c2)).set L3.v 3 (.slice A3 l3 c3)).set L4.v 4 (.slice A4 l4 c4)).set L5.v 5 (.slice A5 l5 c5)
                      clear L0 L1 L2 L3 L4 L5 z0 z1 z2 z3 z4 z5 g0 g1 g2 g3 g4 g5 x0 x1 x2 x3 x4 x5
                      generalize hW : (((((w9.setCell ⟨r, 0, none⟩ (.int .u16 id)).setCell ⟨r, 1, none⟩ (.int .u16 fl)).setCell ⟨r, 2, none⟩ (.slice A2 l2 c2)).setCell ⟨r, 3, none⟩ (.slice A3 l3 c3)).setCell ⟨r, 4, none⟩ (.slice A4 l4 c4)).setCell ⟨r, 5, none⟩ (.slice A5 l5 c5) = w10 at *
                      have HV9 : SAt w10 r #[.int .u16 id, .int .u16 fl, .slice A2 l2 c2, .slice A3 l3 c3, .slice A4 l4 c4, .slice A5 l5 c5] 26 := L6.v
                      have z0 := HV9.is 0 rfl
                      have z1 := HV9.is 1 rfl
                      have z2 := HV9.is 2 rfl
                      have z3 := HV9.is 3 rfl
                      have z4 := HV9.is 4 rfl
                      have z5 := HV9.is 5 rfl
                      refine bodyPost_ret (v := .agg #[.int .u16 id, .int .u16 fl, .slice A2 l2 c2, .slice A3 l3 c3, .slice A4 l4 c4, .slice A5 l5 c5]) (by simp [results, Try.results47, go_sem, z0, z1, z2, z3, z4, z5]) rfl ?_
                      exact Ends.ok hq.symm P6 L6.rd L6.o
            | succ k =>
              unfold quessR at hl
              have q1 : (i : Int) < (n0 : Int) := by have := HK.out; omega
              have y2 := HM.out.vm.is 2 rfl
              go_wp2_with fail
              refine start_ (n := 8) (S := fun w' => w'.cell? ⟨m, 2, none⟩ = some (.slice A2 l2 c2)) (ds := [7]) (Array.replicate 8 false) (by kernel_rfl) (by kernel_rfl) rfl (by exact y2) (fun hS => ?_)
              refine dpure 0 (some 36) rfl rfl (by kernel_rfl) (fun _ _ _ h => h) (by rfl) (v := ?_) (a' := ?_) ?_ ?_ ?_
              rotate_left 2
              · intro w'; go_simp; with_reducible rfl
              · simp only [Act.put, List.setIfInBounds_toArray, List.set_cons_zero, List.set_cons_succ]; rfl
              refine dtake 1 (some 37) rfl rfl (by kernel_rfl) (fun _ _ _ h => h) (by rfl) hS (v := ?_) (a' := ?_) ?_ ?_ ?_
              rotate_left 2
              · rintro w' s0; go_simp; with_reducible rfl
              · simp only [Act.put, List.setIfInBounds_toArray, List.set_cons_zero, List.set_cons_succ]; rfl
              refine dpure 2 (some 38) rfl rfl (by kernel_rfl) (fun _ _ _ h => h) (by rfl) (v := ?_) (a' := ?_) ?_ ?_ ?_
              rotate_left 2
              · intro w'; go_simp; with_reducible rfl
              · simp only [Act.put, List.setIfInBounds_toArray, List.set_cons_zero, List.set_cons_succ]; rfl
              refine done1 3 (some 39) rfl rfl (by kernel_rfl) (by decide) (fun K hK => ?_)
              refine goesp_ Try.func68 (by kernel_rfl) rfl #[.pointer (some ⟨g, 0, none⟩)] (by rfl) rfl rfl (by kernel_rfl) ?_
              refine (question_calls HM.out.drew.rd HS.out HA.out.1 HA.out.2).mono ?_
              intro e w5 ht
              cases hw : quesR s at' with
              | error d =>
                rw [hw] at hl
                obtain rfl := ht.bad d hw
                have hq := HQ.out
                rw [← hl] at hq
                exact .inr ⟨_, rfl, rfl, Ends.err hq.symm (HM.out.drew.o.trans ht.only)⟩
              | ok x =>
                obtain ⟨q, a2⟩ := x
                rw [hw] at hl
                simp only [] at hl
                have HL := Aside0.mk hl
                have HA2 := Aside0.mk (quesR_at hw)
                obtain ⟨v, rfl, rfl, hr⟩ := ht.good q a2 hw
                have hM := HM.out.drew.call ht.only hr
                have hX : QuessP w.heap.size qs (.slice A2 l2 c2) w5 := R_only (w := wr.drew) (Kd.R_drew HX.out) HM.out.drew.rd (by decide) ht.only
                refine .inl ⟨_, rfl, ?_⟩
                clear ht hw hl hr
                refine hK.out _ _ (hM.vm.is 2 rfl) (fun hS => ?_)
                clear hK K
                refine norm_ (a' := ?_) ?_ ?_
                rotate_left
                · simp only [Act.put, List.setIfInBounds_toArray, List.set_cons_zero, List.set_cons_succ]; rfl
                refine done1 4 (some 40) rfl rfl (by kernel_rfl) (by decide) (fun K hK => ?_)
                refine event_step (by kernel_rfl) (v := .slice (some ⟨w5.heap.size, 0, none⟩) 1 1) (w1 := w5.alloc (.cells #[.string q.f0, .int .u16 q.f1, .int .u16 q.f2] 39)) (by go_simp; done) ?_
                refine hK.out _ _ ((blk_cell (blk_below hM.vm (below_alloc (Below.refl _ _) _)) 2).trans rfl) (fun hS => ?_)
                clear hK K
                refine norm_ (a' := ?_) ?_ ?_
                rotate_left
                · simp only [Act.put, List.setIfInBounds_toArray, List.set_cons_zero, List.set_cons_succ]; rfl
                refine done1 5 (some 41) rfl rfl (by kernel_rfl) (by decide) (fun K hK => ?_)
                refine Kd.R_append_step kQues (w0 := w5) w.heap.size (by kernel_rfl) (.tmp 37) (.tmp 40) 23 39 (.agg #[(.string ⟨#[]⟩), (.int .u16 0), (.int .u16 0)]) 24 (by rfl) Try.underlying23 infoQues rfl (by decide) (by decide) (.slice A2 l2 c2) qs q [.string q.f0, .int .u16 q.f1, .int .u16 q.f2] (fun _ => True) (fun _ => False) (by rfl) (by rfl) (kQues_mkM w5 w.heap.size _ q) (fun _ hk => hk.elim) (fun _ _ => trivial) hX (Below.refl _ _) hM.o.size (by have := HLen.out; have := HK.out; have := N0.out; omega) ?_
                intro v3 w6 ho3 hb3 hg3 _
                obtain ⟨A3, l3, c3, rfl⟩ := R_anyslice ho3
                have hM6 := hM.grown hg3 (Kd.R_base hX) (Kd.R_ne hX hM.rd (by decide)) (Kd.R_ne hX hM.vr (by decide)) (Kd.R_ne hX hM.vm (by decide)) (Kd.R_ne hX hM.vc (by decide))
                have y2' := hM6.vm.is 2 rfl
                have f2 := hM6.vm.frozen 2
                refine hK.out _ _ y2' (fun hS => ?_)
                clear hK K
                refine norm_ (a' := ?_) ?_ ?_
                rotate_left
                · simp only [Act.put, List.setIfInBounds_toArray, List.set_cons_zero, List.set_cons_succ]; rfl
                refine dpure 6 (some 42) rfl rfl (by kernel_rfl) (fun _ _ _ h => h) (by rfl) (v := ?_) (a' := ?_) ?_ ?_ ?_
                rotate_left 2
                · intro w'; go_simp; with_reducible rfl
                · simp only [Act.put, List.setIfInBounds_toArray, List.set_cons_zero, List.set_cons_succ]; rfl
                refine dlast 7 (Array.getElem?_eq_getElem (by decide)) (by kernel_rfl) (List.mem_singleton.2 rfl) ?_
                intro K hK
                refine dskip (w1 := w6.setCell ⟨m, 2, none⟩ (.slice A3 l3 c3)) (by kernel_rfl) (by kernel_rfl) ?_ ?_
                · go_simp
                refine hK.out _ _ (done_ (by kernel_rfl) ?_)
                clear hK K
                have HM7 := Aside0.mk (hM6.setm 2 (.slice A3 l3 c3))
                have HX7 := Aside0.mk (show QuessP w.heap.size (qs ++ [q]) (.slice A3 l3 c3) (w6.setCell ⟨m, 2, none⟩ (.slice A3 l3 c3)) from Kd.R_set ho3 hM6.vm (by decide) 2 (.slice A3 l3 c3))
                clear hM hM6 hX ho3 hb3 hg3 y2 y2' f2
                go_wp2_with fail
                go_roundg k
                case measure => omega
                case rel => exact ⟨i + 1, _, a2, _, by go_num, HL, ⟨by have := HK.out; omega⟩, ⟨by have := HLen.out; rw [List.length_append, List.length_singleton]; omega⟩, HA2, HM7, HX7⟩
        | succ k =>
          unfold cntR at hl
          have q1 : (i : Int) < 4 := by have := HK.out; omega
          cases h3 : getF s at' 2 with
          | none =>
            rw [h3] at hl
            have hq := HQ.out
            rw [← hl] at hq
            go_wp2_with fail
            refine (num_no HM.out.rd HS.out h3).mono ?_
            rintro e w' ⟨rfl, ho⟩
            exact ⟨rfl, Ends.err hq.symm (HM.out.o.trans ho)⟩
          | some n =>
            rw [h3] at hl
            simp only [] at hl
            have HL := Aside0.mk hl
            obtain ⟨n0, n1, _, n3, _⟩ := get2 h3
            have hwn : IntKind.i64.wrap n = n := by rw [IntKind.wrap_i64]; omega
            have H3 := Lib.hid h3
            have HA2 := Aside0.mk (show 0 ≤ at' + 2 ∧ at' + 2 ≤ s.size by omega)
            have a1 : all ≤ 1000000 := by have := HB.out; have := HK.out; omega
            have a0 : 0 ≤ all := HB.out.1
            clear hl h3 n3
            go_wp2_with fail
            refine (num_yes HM.out.rd HS.out H3.out).mono ?_
            rintro e w5 ⟨rfl, hr, ho⟩
            have hM := HM.out.call ho hr
            have hcell : (cells4 (out ++ List.replicate (k + 1) 0))[i]? = some (.int .i64 0) := by
              have := HLen.out
              simp [cells4, ← this, List.replicate_succ]
            have y := hM.vc.is i hcell
            have f := hM.vc.frozen i
            have hi0 : (0 : Int) ≤ (i : Int) := by omega
            have HM5 := Aside0.mk (hM.setc i (.int .i64 n))
            have y2 := (hM.vc.set i (.int .i64 n)).is i (v := .int .i64 n) (by rw [cells4_set, ← HLen.out, set_next]; simp [cells4])
            clear hr ho hM hcell
            go_wp2_with fail
            go_roundg k
            case measure => omega
            case rel => exact ⟨i + 1, out ++ [n], at' + 2, all + n, rfl, by go_num, HL, ⟨by have := HK.out; omega⟩, ⟨by have := HLen.out; simp; omega⟩, ⟨by have := HSum.out; simp; omega⟩, ⟨fun x hx => by rcases List.mem_append.1 hx with hx | hx; exact HAll.out x hx; rw [List.mem_singleton.1 hx]; omega⟩, ⟨by have := HB.out; omega⟩, HA2, ⟨by have := HM5.out; rw [cells4_set, ← HLen.out, set_next] at this; rw [HLen.out] at this; exact this⟩⟩
end Go.Proofs.Ytbbeikdbioelgaa.M
set_option linter.unusedVariables false
set_option linter.unusedSimpArgs false
namespace Go.Proofs.Ytbbeikdbioelgaa.M
open Go.RowKit Go.Maps Go.Proofs.YtbbeikdbioelgaaW.PrintWords Go.Proofs.YtbbeikdbioelgaaW.PrintLast Go.Proofs.YtbbeikdbioelgaaW.PrintMore
attribute [local go_sem] max2_int min2_int max_two min_two max_three min_three max_four min_four
attribute [local go_sem ↓] Go.wp_at_zero Go.wp_at_succ
theorem assert_yes (c : Int) (w : World) : (Instr.typeAssert (.iface 30 (.int .i64 c)) 20 30 true).run Try.prog w = .ok (.tuple #[.int .i64 c, .bool true]) w := by kernel_rfl
theorem assert_no (w : World) : (Instr.typeAssert .nilIface 20 30 true).run Try.prog w = .ok (.tuple #[.int .i64 0, .bool false]) w := by kernel_rfl
set_option maxRecDepth 100000 in
theorem caught_panic (p : Addr) (x : Value) (c : Int) (w : World) (hc : w.cell? p = some x) (hz : w.frozen? p = false) :
    CallsD Try.prog 43 #[.pointer (some p)] (.panicking [{ v := .iface 30 (.int .i64 c), recovered := false }]) w fun e u' w' =>
      e = .returned (.tuple #[]) ∧ u' = .panicking [{ v := .iface 30 (.int .i64 c), recovered := true }] ∧ w' = w.setCell p (.int .i64 c) := by
  have hta := assert_yes c
  refine callsD_of_wpS Try.func43 rfl fun c₀ cs hu => ?_
  apply wpS_seq
  apply wpS_region
  simp [wpOpsS, go_sem, recoverD, hu, Try.ntmps43, Exit.thenS, hta]
  apply wpS_seq
  apply wpS_region
  simp [wpOpsS, go_sem, Exit.thenS]
  refine wpS_cond (t := true) (by simp [Act.eval, Array.replicate]) ?_
  simp only [if_true]
  apply wpS_region
  simp [wpOpsS, go_sem, hc, hz, bodyPostS, results, Try.results43, Array.replicate]
theorem caught_idle (p : Addr) (w : World) :
    CallsD Try.prog 43 #[.pointer (some p)] .returning w fun e u' w' => e = .returned (.tuple #[]) ∧ u' = .returning ∧ w' = w := by
  have hta := assert_no
  refine callsD_of_wpS Try.func43 rfl fun c₀ cs hu => ?_
  apply wpS_seq
  apply wpS_region
  simp [wpOpsS, go_sem, recoverD, hu, Try.ntmps43, Exit.thenS, hta]
  apply wpS_seq
  apply wpS_region
  simp [wpOpsS, go_sem, Exit.thenS]
  refine wpS_cond (t := false) (by simp [Act.eval, Array.replicate]) ?_
  simp only [Bool.false_eq_true, if_false]
  refine wpS_of_wp (wp_skip ?_)
  cases c₀
  simp_all [bodyPostS, results, Try.results43]
theorem heap_two' (h : Array Obj) (a b : Obj) : ((h.push a).push b)[h.size + 1]? = some b := by
  rw [Array.getElem?_push, if_pos (by simp)]
def zM : Msg := ⟨0, 0, [], [], [], []⟩
def readF (s : ByteArray) : Msg × Int := if 65535 < s.size then (zM, 3) else match msgR s with
  | .error c => (zM, c)
  | .ok (m, _) => (m, 0)
theorem heap_three (h : Array Obj) (a b c : Obj) : (((h.push a).push b).push c)[h.size + 2]? = some c := by
  rw [Array.getElem?_push, if_pos (by simp)]
theorem msgAt_of {B : Nat} {m : Msg} {v : Value} {w : World} (h : MsgP B m v w) : MsgAt w v m := by
  obtain ⟨v2, v3, v4, v5, rfl, h2, h3, h4, h5⟩ := h
  obtain ⟨A2, c2, rfl, l2, g2⟩ := Kd.R_reads h2
  obtain ⟨A3, c3, rfl, l3, g3⟩ := Kd.R_reads h3
  obtain ⟨A4, c4, rfl, l4, g4⟩ := Kd.R_reads h4
  obtain ⟨A5, c5, rfl, l5, g5⟩ := Kd.R_reads h5
  exact ⟨A2, c2, A3, c3, A4, c4, A5, c5, rfl, l2, g2, l3, g3, l4, g4, l5, g5⟩
theorem three_new (w : World) (c : Int) (cs : Array Value) :
    SAt ((w.alloc (.cells zMsg 26 (0, 0))).alloc (.cells #[.int .i64 c] 30 (0, 0))) w.heap.size zMsg 26 ∧ SAt ((w.alloc (.cells zMsg 26 (0, 0))).alloc (.cells #[.int .i64 c] 30 (0, 0))) (w.heap.size + 1) #[.int .i64 c] 30 ∧
    SAt (((w.alloc (.cells zMsg 26 (0, 0))).alloc (.cells #[.int .i64 c] 30 (0, 0))).alloc (.cells cs 87 (0, 0))) w.heap.size zMsg 26 ∧ Below w.heap.size w ((w.alloc (.cells zMsg 26 (0, 0))).alloc (.cells #[.int .i64 c] 30 (0, 0))) ∧
    SAt (((w.alloc (.cells zMsg 26 (0, 0))).alloc (.cells #[.int .i64 c] 30 (0, 0))).alloc (.cells cs 87 (0, 0))) (w.heap.size + 1) #[.int .i64 c] 30 ∧ SAt (((w.alloc (.cells zMsg 26 (0, 0))).alloc (.cells #[.int .i64 c] 30 (0, 0))).alloc (.cells cs 87 (0, 0))) (w.heap.size + 1 + 1) cs 87 ∧
    Below w.heap.size w (((w.alloc (.cells zMsg 26 (0, 0))).alloc (.cells #[.int .i64 c] 30 (0, 0))).alloc (.cells cs 87 (0, 0))) := by
  have b1 : Below w.heap.size w (w.alloc (.cells zMsg 26 (0, 0))) := below_alloc (Below.refl _ _) _
  have s1 : w.heap.size ≤ (w.alloc (.cells zMsg 26 (0, 0))).heap.size := b1.size
  have b2 := b1.trans ((below_alloc (Below.refl _ (w.alloc (.cells zMsg 26 (0, 0)))) (.cells #[.int .i64 c] 30 (0, 0))).mono s1)
  have b3 := b2.trans ((below_alloc (Below.refl _ ((w.alloc (.cells zMsg 26 (0, 0))).alloc (.cells #[.int .i64 c] 30 (0, 0)))) (.cells cs 87 (0, 0))).mono b2.size)
  have v1 := SAt.new w zMsg 26
  have v2 := v1.below (below_alloc (Below.refl _ _) (.cells #[.int .i64 c] 30 (0, 0)))
  have e2 : SAt ((w.alloc (.cells zMsg 26 (0, 0))).alloc (.cells #[.int .i64 c] 30 (0, 0))) (w.heap.size + 1) #[.int .i64 c] 30 := by
    show ((w.heap.push _).push _)[w.heap.size + 1]? = _
    exact heap_two' _ _ _
  refine ⟨v2, e2, v2.below (below_alloc (Below.refl _ _) _), b2, e2.below (below_alloc (Below.refl _ _) _), ?_, b3⟩
  show (((w.heap.push _).push _).push _)[w.heap.size + 2]? = _
  exact heap_three _ _ _ _
theorem MsgP.setE {B : Nat} {mm : Msg} {v : Value} {w : World} {r : Nat} {cs : Array Value} (h : MsgP B mm v w) (hx : SAt w r cs 30) (j : Nat) (u : Value) : MsgP B mm v (w.setCell ⟨r, j, none⟩ u) := by
  obtain ⟨v2, v3, v4, v5, h1, h2, h3, h4, h5⟩ := h
  exact ⟨v2, v3, v4, v5, h1, Kd.R_set h2 hx (by decide) j u, Kd.R_set h3 hx (by decide) j u, Kd.R_set h4 hx (by decide) j u, Kd.R_set h5 hx (by decide) j u⟩
structure Laid (w0 w : World) (m p B : Nat) (mm : Msg) (v : Value) (cs : Array Value) : Prop where
  vm : SAt w m cs 26
  vp : SAt w p #[.int .i64 0] 30
  b : Below w0.heap.size w0 w
  P : MsgP B mm v w
  ne : m ≠ p
  sz : w0.heap.size ≤ m
theorem Laid.step {w0 w : World} {m p B : Nat} {mm : Msg} {v : Value} {cs : Array Value} (h : Laid w0 w m p B mm v cs) (j : Nat) (u : Value) : Laid w0 (w.setCell ⟨m, j, none⟩ u) m p B mm v (cs.setIfInBounds j u) :=
  ⟨h.vm.set j u, h.vp.far (Ne.symm h.ne) j u, h.b.setCell h.sz u, h.P.set h.vm j u, h.ne, h.sz⟩
def ReadPost (x : Msg × Int) (w : World) (e : Ending) (w' : World) : Prop := (∃ v, e = .returned (.tuple #[v, .int .i64 x.2]) ∧ MsgAt w' v x.1) ∧ Below w.heap.size w w'
def ReadOwn (x : Msg × Int) (w : World) (e : Ending) (w' : World) : Prop := (∃ v, e = .returned (.tuple #[v, .int .i64 x.2]) ∧ MsgP w.heap.size x.1 v w') ∧ Below w.heap.size w w'
theorem ReadOwn.post {x : Msg × Int} {w : World} {e : Ending} {w' : World} (h : ReadOwn x w e w') : ReadPost x w e w' := by
  obtain ⟨⟨v, he, hp⟩, hb⟩ := h
  exact ⟨⟨v, he, msgAt_of hp⟩, hb⟩
theorem MsgP.lower {B B' : Nat} {m : Msg} {v : Value} {w : World} (h : MsgP B m v w) (hb : B' ≤ B) : MsgP B' m v w := by
  obtain ⟨v2, v3, v4, v5, h1, h2, h3, h4, h5⟩ := h
  exact ⟨v2, v3, v4, v5, h1, Kd.R_lower h2 hb, Kd.R_lower h3 hb, Kd.R_lower h4 hb, Kd.R_lower h5 hb⟩
theorem zM_own (B : Nat) (w : World) : MsgP B zM (.agg zMsg) w := ⟨_, _, _, _, rfl, Kd.R_nil _ _ _ _ _, Kd.R_nil _ _ _ _ _, Kd.R_nil _ _ _ _ _, Kd.R_nil _ _ _ _ _⟩
set_option maxHeartbeats 4000000 in
set_option maxRecDepth 100000 in
theorem Read_reads (s : ByteArray) (w : World) (hs : s.size ≤ 1000000) :
    Calls Try.prog 24 #[.string s] w fun e w' => ReadOwn (readF s) w e w' := by
  obtain ⟨R, hR⟩ : ∃ R, readF s = R := ⟨_, rfl⟩
  rw [hR]
  unfold readF at hR
  by_cases hl : 65535 < s.size
  · rw [if_pos hl] at hR
    subst hR
    have d1 : decide ((65535 : Int) < (s.size : Int)) = true := decide_eq_true (by omega)
    have d2 : decide (65535 < s.size) = true := decide_eq_true hl
    clear hl
    have HW := Aside0.mk (three_new w 3 #[])
    go_enter_defers Try.func24, Try.ntmps24
    go_wp2_with fail
    obtain ⟨hv, hp, -, hb, -⟩ := HW.out
    clear HW
    generalize hW : (w.alloc (.cells zMsg 26 (0, 0))).alloc (.cells #[.int .i64 3] 30 (0, 0)) = W2 at *
    rw [show ((w.alloc (.cells #[.int .u16 0, .int .u16 0, .slice none 0 0, .slice none 0 0, .slice none 0 0, .slice none 0 0] 26 (0, 0))).alloc (.cells #[.int .i64 3] 30 (0, 0))) = W2 from hW]
    clear hW
    have z0 := hv.is 0 rfl
    have z1 := hv.is 1 rfl
    have z2 := hv.is 2 rfl
    have z3 := hv.is 3 rfl
    have z4 := hv.is 4 rfl
    have z5 := hv.is 5 rfl
    have e0 := hp.is 0 rfl
    refine ⟨.tuple #[.agg zMsg, .int .i64 3], by simp [results, Try.results24, go_sem, z0, z1, z2, z3, z4, z5, e0, zMsg], ⟨_, rfl, zM_own _ _⟩, hb⟩
  · rw [if_neg hl] at hR
    have d1 : decide ((65535 : Int) < (s.size : Int)) = false := decide_eq_false (by omega)
    have d2 : decide (65535 < s.size) = false := decide_eq_false hl
    clear hl
    have HW := Aside0.mk (three_new w 0 #[.string s, .int .i64 0])
    go_enter_defers Try.func24, Try.ntmps24
    go_wp2_with fail
    obtain ⟨-, -, hv, -, hp, hr, hb⟩ := HW.out
    clear HW
    have hr : RAt _ (w.heap.size + 1 + 1) s 0 := hr
    have HSZ := Aside0.mk hb.size
    generalize hW : ((w.alloc (.cells zMsg 26 (0, 0))).alloc (.cells #[.int .i64 0] 30 (0, 0))).alloc (.cells #[.string s, .int .i64 0] 87 (0, 0)) = W2 at *
    rw [show (((w.alloc (.cells #[.int .u16 0, .int .u16 0, .slice none 0 0, .slice none 0 0, .slice none 0 0, .slice none 0 0] 26 (0, 0))).alloc (.cells #[.int .i64 0] 30 (0, 0))).alloc (.cells #[.string s, .int .i64 0] 87 (0, 0))) = W2 from hW]
    clear hW
    obtain ⟨m, hm⟩ : ∃ m, w.heap.size = m := ⟨_, rfl⟩
    obtain ⟨p, hpp⟩ : ∃ p, m + 1 = p := ⟨_, rfl⟩
    obtain ⟨g, hg⟩ : ∃ g, p + 1 = g := ⟨_, rfl⟩
    have hzm : w.heap.size ≤ m := by omega
    have hzp : w.heap.size ≤ p := by omega
    have hzg : w.heap.size ≤ g := by omega
    have hmp : m ≠ p := by omega
    have hpm := Ne.symm hmp
    rw [hm] at hv
    rw [hm, hpp] at hp
    rw [hm, hpp, hg] at hr
    rw [hm, hpp, hg]
    clear hm hpp hg
    refine (message_reads hr hs).mono ?_
    intro e w2 ht
    have hb2 : Below w.heap.size w w2 := ht.only.below hb hb.size hzg
    have hv2 := hv.only hr (by decide) ht.only
    have hp2 := hp.only hr (by decide) ht.only
    have e0 : w2.cell? ⟨p, 0, none⟩ = some (.int .i64 0) := hp2.is 0 rfl
    have f0 := hp2.frozen 0
    cases hn : msgR s with
    | error c =>
      rw [hn] at hR
      subst hR
      obtain rfl := ht.bad c hn
      refine leaves_cons (f := 43) (args := #[.pointer (some ⟨p, 0, none⟩)]) (by simp) (by simp [go_sem]) ?_
      refine (caught_panic ⟨p, 0, none⟩ _ c _ e0 f0).mono ?_
      rintro e u' w'' ⟨rfl, rfl, rfl⟩
      have hv3 := hv2.far hmp 0 (.int .i64 c)
      have hp3 : SAt _ p #[.int .i64 c] 30 := hp2.set 0 (.int .i64 c)
      have hb3 : Below w.heap.size w (w2.setCell ⟨p, 0, none⟩ (.int .i64 c)) := hb2.setCell hzp _
      clear e0 f0
      generalize w2.setCell ⟨p, 0, none⟩ (.int .i64 c) = w3 at *
      have z0 := hv3.is 0 rfl
      have z1 := hv3.is 1 rfl
      have z2 := hv3.is 2 rfl
      have z3 := hv3.is 3 rfl
      have z4 := hv3.is 4 rfl
      have z5 := hv3.is 5 rfl
      have e0 := hp3.is 0 rfl
      show Leaves _ _ _ _ _ (settle _) _
      simp only [settle, List.dropWhile_nil]
      refine ⟨.tuple #[.agg zMsg, .int .i64 c], by simp [results, Try.results24, go_sem, z0, z1, z2, z3, z4, z5, e0, zMsg], ⟨_, rfl, zM_own _ _⟩, hb3⟩
    | ok x =>
      obtain ⟨mm, nx⟩ := x
      rw [hn] at hR
      subst hR
      obtain ⟨v, rfl, hP, hr2⟩ := ht.good mm nx hn
      obtain ⟨v2, v3, v4, v5, rfl, q2, q3, q4, q5⟩ := hP
      obtain ⟨A2, l2, c2, rfl⟩ := R_anyslice q2
      obtain ⟨A3, l3, c3, rfl⟩ := R_anyslice q3
      obtain ⟨A4, l4, c4, rfl⟩ := R_anyslice q4
      obtain ⟨A5, l5, c5, rfl⟩ := R_anyslice q5
      have P0 : MsgP W2.heap.size mm (.agg #[.int .u16 mm.id, .int .u16 mm.flags, .slice A2 l2 c2, .slice A3 l3 c3, .slice A4 l4 c4, .slice A5 l5 c5]) w2 := ⟨_, _, _, _, rfl, q2, q3, q4, q5⟩
      clear ht hn q2 q3 q4 q5
      have z0 := hv2.is 0 rfl
      have z1 := hv2.is 1 rfl
      have z2 := hv2.is 2 rfl
      have z3 := hv2.is 3 rfl
      have z4 := hv2.is 4 rfl
      have z5 := hv2.is 5 rfl
      have y0 := hv2.frozen 0
      have y1 := hv2.frozen 1
      have y2 := hv2.frozen 2
      have y3 := hv2.frozen 3
      have y4 := hv2.frozen 4
      have y5 := hv2.frozen 5
      go_wp2_with fail
      clear z0 z1 z2 z3 z4 z5 y0 y1 y2 y3 y4 y5 e0 f0
      have L0 : Laid w w2 m p W2.heap.size mm (.agg #[.int .u16 mm.id, .int .u16 mm.flags, .slice A2 l2 c2, .slice A3 l3 c3, .slice A4 l4 c4, .slice A5 l5 c5]) zMsg := ⟨hv2, hp2, hb2, P0, hmp, hzm⟩
      have L6 := (((((L0.step 0 (.int .u16 mm.id)).step 1 (.int .u16 mm.flags)).step 2 (.slice A2 l2 c2)).step 3 (.slice A3 l3 c3)).step 4 (.slice A4 l4 c4)).step 5 (.slice A5 l5 c5)
      clear L0 P0 hv2 hp2 hb2 hr2
      generalize hW : (((((w2.setCell ⟨m, 0, none⟩ (.int .u16 mm.id)).setCell ⟨m, 1, none⟩ (.int .u16 mm.flags)).setCell ⟨m, 2, none⟩ (.slice A2 l2 c2)).setCell ⟨m, 3, none⟩ (.slice A3 l3 c3)).setCell ⟨m, 4, none⟩ (.slice A4 l4 c4)).setCell ⟨m, 5, none⟩ (.slice A5 l5 c5) = w3 at *
      have hv9 : SAt (w3.setCell ⟨p, 0, none⟩ (.int .i64 0)) m #[.int .u16 mm.id, .int .u16 mm.flags, .slice A2 l2 c2, .slice A3 l3 c3, .slice A4 l4 c4, .slice A5 l5 c5] 26 := SAt.far (show SAt w3 m #[.int .u16 mm.id, .int .u16 mm.flags, .slice A2 l2 c2, .slice A3 l3 c3, .slice A4 l4 c4, .slice A5 l5 c5] 26 from L6.vm) hmp 0 _
      have hp9 : SAt (w3.setCell ⟨p, 0, none⟩ (.int .i64 0)) p #[.int .i64 0] 30 := L6.vp.set 0 (.int .i64 0)
      have hb9 : Below w.heap.size w (w3.setCell ⟨p, 0, none⟩ (.int .i64 0)) := L6.b.setCell hzp _
      have P9 := L6.P.setE L6.vp 0 (.int .i64 0)
      clear L6
      generalize w3.setCell ⟨p, 0, none⟩ (.int .i64 0) = w4 at *
      refine leaves_cons (f := 43) (args := #[.pointer (some ⟨p, 0, none⟩)]) (by simp) (by simp [go_sem]) ?_
      refine (caught_idle ⟨p, 0, none⟩ _).mono ?_
      rintro e u' w'' ⟨rfl, rfl, rfl⟩
      have z0 := hv9.is 0 rfl
      have z1 := hv9.is 1 rfl
      have z2 := hv9.is 2 rfl
      have z3 := hv9.is 3 rfl
      have z4 := hv9.is 4 rfl
      have z5 := hv9.is 5 rfl
      have e0 := hp9.is 0 rfl
      show Leaves _ _ _ _ _ (settle _) _
      simp only [settle]
      refine ⟨.tuple #[.agg #[.int .u16 mm.id, .int .u16 mm.flags, .slice A2 l2 c2, .slice A3 l3 c3, .slice A4 l4 c4, .slice A5 l5 c5], .int .i64 0], by simp [results, Try.results24, go_sem, z0, z1, z2, z3, z4, z5, e0], ⟨_, rfl, P9.lower HSZ.out⟩, hb9⟩
theorem Read_calls (s : ByteArray) (w : World) (hs : s.size ≤ 1000000) :
    Calls Try.prog 24 #[.string s] w fun e w' => ReadPost (readF s) w e w' := (Read_reads s w hs).mono (fun _ _ h => h.post)
end Go.Proofs.Ytbbeikdbioelgaa.M
set_option linter.unusedVariables false
set_option linter.unusedSimpArgs false
namespace Go.Proofs.Ytbbeikdbioelgaa.M
open Go.RowKit Go.Proofs.YtbbeikdbioelgaaW.PrintWords Go.Proofs.YtbbeikdbioelgaaW.PrintLast Go.Proofs.YtbbeikdbioelgaaW.PrintMore
attribute [local go_sem] max2_int min2_int max_two min_two max_three min_three max_four min_four
theorem nb_rest (s : ByteArray) (a i : Nat) : nb (s.extract a s.size) i = nb s (a + i) := by
  unfold nb
  by_cases h : a + i < s.size
  · have h1 : i < (s.extract a s.size).size := by rw [ByteArray.size_extract]; omega
    rw [dif_pos h1, dif_pos h]
    congr 1
    exact ByteArray.getElem_extract h1
  · have h1 : ¬ i < (s.extract a s.size).size := by rw [ByteArray.size_extract]; omega
    rw [dif_neg h1, dif_neg h]
theorem rest_rest (s : ByteArray) (a i : Nat) (h : a ≤ s.size) : (s.extract a s.size).extract i (s.extract a s.size).size = s.extract (a + i) s.size := by
  rw [ByteArray.extract_extract, ByteArray.size_extract]
  congr 1
  omega
theorem rest_mid (s : ByteArray) (a i j : Nat) (h : a + j ≤ s.size) : (s.extract a s.size).extract i j = s.extract (a + i) (a + j) := by
  rw [ByteArray.extract_extract]
  congr 1
  omega
set_option maxHeartbeats 4000000 in
set_option maxRecDepth 100000 in
theorem labels_calls (s : ByteArray) (w : World) (hsz : s.size ≤ 140737488351232) :
    Calls Try.prog 51 #[.string s] w fun e w' => ∃ v, e = .returned (.tuple #[v, .bool (split s).2]) ∧ Kd.R Kd.string 9 w' w.heap.size (fun _ => True) v (split s).1 ∧ Below w.heap.size w w' := by
  have HB := Aside0.mk (Below.refl w.heap.size w)
  obtain ⟨r, hr⟩ : ∃ r, split s = r := ⟨_, rfl⟩
  rw [hr]
  by_cases hl : 255 < s.size
  · obtain rfl : r = ([], false) := by rw [← hr]; unfold split; rw [if_pos hl]
    have h1 : decide ((0 : Int) < (s.size : Int)) = true := decide_eq_true (by omega)
    have h2 : decide (0 < s.size) = true := decide_eq_true (by omega)
    have h3 : decide ((s.size : Int) ≤ 255) = false := decide_eq_false (by omega)
    have h4 : decide (s.size ≤ 255) = false := decide_eq_false (by omega)
    clear hl hr
    go_enter Try.func51, Try.ntmps51
    go_wp2
    go_loopg [4, 5] 1 (fun kq v4 v5 w' => v5 = .int .i64 0 ∧ Aside0 (Below w.heap.size w w'))
    case atStart => exact ⟨rfl, HB⟩
    case round =>
      obtain ⟨rfl, HB2⟩ := hrel
      go_wp2
      go_ret2
      exact ⟨_, rfl, Kd.R_nil _ _ _ _ _, HB2.out⟩
  · have h3 : decide ((s.size : Int) ≤ 255) = true := decide_eq_true (by omega)
    have h4 : decide (s.size ≤ 255) = true := decide_eq_true (by omega)
    have HR := Aside0.mk (show splitF (s.size + 1) (s.extract 0 s.size) [] = r by rw [← hr]; unfold split; rw [if_neg hl]; congr 1; apply ByteArray.ext; simp)
    have q0 : (s.size : Int) ≤ 255 := by omega
    have HS := Lib.hid (show s.size ≤ 255 by omega)
    clear hl hr hsz
    go_enter Try.func51, Try.ntmps51
    go_wp2
    go_loopg [4, 5] (s.size + 1) (fun kq v4 v5 w' => ∃ (a : Nat) (out : List ByteArray), v5 = .int .i64 a ∧ Aside0 (splitF kq (s.extract a s.size) out = r) ∧ Aside0 (s.size < kq + a) ∧ Aside0 (a ≤ s.size) ∧ Aside0 (out.length ≤ a) ∧ Aside0 (Kd.R Kd.string 9 w' w.heap.size (fun _ => True) v4 out) ∧ Aside0 (Below w.heap.size w w'))
    case atStart => exact ⟨0, [], rfl, HR, ⟨by omega⟩, ⟨Nat.zero_le _⟩, ⟨Nat.le_refl _⟩, ⟨Kd.R_nil _ _ _ _ _⟩, HB⟩
    case round =>
      clear HR HB
      obtain ⟨a, out, rfl, HR, HK, HA, HL, HO, HB⟩ := hrel
      obtain ⟨k, rfl⟩ : ∃ k, gk = k + 1 := ⟨gk - 1, by have := HK.out; have := HA.out; omega⟩
      have hr := HR.out
      simp only [splitF] at hr
      clear HR
      have hx : (s.extract a s.size).size = s.size - a := by rw [ByteArray.size_extract]; omega
      rw [hx, nb_rest, Nat.add_zero] at hr
      by_cases c1 : s.size - a = 0
      · rw [if_pos c1] at hr
        subst hr
        have d1 : decide ((a : Int) < (s.size : Int)) = false := decide_eq_false (by omega)
        have d2 : decide (a < s.size) = false := decide_eq_false (by omega)
        clear c1 hx
        go_wp2
        go_ret2
        exact ⟨_, rfl, Kd.R_nil _ _ _ _ _, HB.out⟩
      · rw [if_neg c1] at hr
        have q1 : a < s.size := by omega
        have q2 : (a : Int) < (s.size : Int) := by omega
        have q3 : (0 : Int) ≤ (a : Int) := by omega
        have d1 : decide ((a : Int) < (s.size : Int)) = true := decide_eq_true q2
        have d2 : decide (a < s.size) = true := decide_eq_true q1
        have hx' := nb_at s a
        have hn := nb_lt s a
        obtain ⟨n, hnb⟩ : ∃ n, nb s a = n := ⟨_, rfl⟩
        rw [hnb] at hx' hn hr
        have HX := Lib.hid hx
        clear hnb c1 hx
        by_cases c2 : n = 0
        · subst c2
          rw [if_pos rfl] at hr
          subst hr
          have HF := Lib.hid (show ((a : Int) == (s.size : Int) - 1) = (s.size - a == 1) by
            rw [Bool.eq_iff_iff]
            simp only [beq_iff_eq]
            omega)
          go_wp2
          go_ret2
          exact ⟨_, by rw [← HF.out]; rfl, HO.out, HB.out⟩
        · rw [if_neg c2] at hr
          have q4 : (0 : Int) < (n : Int) := by omega
          have q5 : (n : Int) ≤ 255 := by omega
          have e2 : ((n : Int) == 0) = false := beq_eq_false_iff_ne.mpr (by omega)
          clear c2
          by_cases c3 : 63 < n ∨ s.size - a ≤ n
          · rw [if_pos c3] at hr
            subst hr
            by_cases c4 : 63 < n
            · have e3 : decide ((63 : Int) < (n : Int)) = true := decide_eq_true (by omega)
              clear c3 c4
              go_wp2
              go_ret2
              exact ⟨_, rfl, Kd.R_nil _ _ _ _ _, HB.out⟩
            · have e3 : decide ((63 : Int) < (n : Int)) = false := decide_eq_false (by omega)
              have e4 : decide ((s.size : Int) - 1 - (a : Int) < (n : Int)) = true := decide_eq_true (by omega)
              clear c3 c4
              go_wp2
              go_ret2
              exact ⟨_, rfl, Kd.R_nil _ _ _ _ _, HB.out⟩
          · rw [if_neg c3, ← HX.out, rest_rest _ _ _ (by omega), rest_mid _ _ _ _ (by omega)] at hr
            have e3 : decide ((63 : Int) < (n : Int)) = false := decide_eq_false (by omega)
            have e4 : decide ((s.size : Int) - 1 - (a : Int) < (n : Int)) = false := decide_eq_false (by omega)
            have q6 : (a : Int) + 1 + (n : Int) ≤ (s.size : Int) := by omega
            have q7 : (a : Int) + 1 ≤ (a : Int) + 1 + (n : Int) := by omega
            have q8 : (0 : Int) ≤ (a : Int) + 1 := by omega
            have HN := Lib.hid (show a + 1 + n ≤ s.size by omega)
            have HS2 := Aside0.mk (show (out.length + 1) * 16 ≤ 140737488355328 by have := HL.out; have := HA.out; have := HS.out; omega)
            clear c3
            go_wp2_with ((with_reducible refine gate_builtin (b := .append) (xs := #[.tmp 39, .tmp 48]) rfl ?_); at_builtin; refine appS rfl (.tmp 39) (.tmp 48) rfl rfl rfl HO.out HB.out (fun _ _ _ => trivial) (below_size HB.out) HS2.out ?_; intro v1 w1 ho1 hb1 hg1 hat1; have HO1 := Aside0.mk ho1; have HB1 := Aside0.mk hb1; clear ho1 hb1 hg1 hat1)
            go_roundg k
            case measure => omega
            case rel => exact ⟨a + 1 + n, _, by go_num, ⟨by rw [show a + 1 + n = a + (n + 1) by omega]; exact hr⟩, ⟨by have := HK.out; omega⟩, ⟨HN.out⟩, ⟨by have := HL.out; rw [List.length_append, List.length_singleton]; omega⟩, HO1, HB1⟩
theorem refIs_calls (s : ByteArray) (w : World) (hsz : s.size ≤ 140737488351232) : Calls Try.prog 26 #[.string s] w fun e w' => e = .returned (.bool (isName s)) ∧ Below w.heap.size w w' := by
  obtain ⟨b, hb⟩ : ∃ b, (split s).2 = b := ⟨_, rfl⟩
  have H := Lib.hid hb
  show Calls Try.prog _ _ _ fun e w' => e = .returned (.bool (split s).2) ∧ Below w.heap.size w w'
  rw [hb]
  clear hb
  go_enter Try.func26, Try.ntmps26
  go_wp2_with (go_at_call 51; refine (labels_calls s _ hsz).mono ?_; rintro e w' ⟨v, rfl, _, hb⟩; rw [H.out]; have HB := Aside0.mk hb; clear hb)
  go_ret
  exact ⟨rfl, HB.out⟩
end Go.Proofs.Ytbbeikdbioelgaa.M
set_option linter.unusedVariables false
set_option linter.unusedSimpArgs false
namespace Go.Proofs.Ytbbeikdbioelgaa.M
open Go.RowKit Go.Proofs.YtbbeikdbioelgaaW.PrintWords Go.Proofs.YtbbeikdbioelgaaW.PrintLast Go.Proofs.YtbbeikdbioelgaaW.PrintMore
attribute [local go_sem] max2_int min2_int max_two min_two max_three min_three max_four min_four
set_option maxHeartbeats 2000000 in
set_option maxRecDepth 100000 in
theorem Shape5_calls (k : Int) (w : World) : Calls Try.prog 71 #[.int .u16 k] w fun e w' => e = .returned (.tuple #[.int .i64 (shapeOf k).1, .int .i64 (shapeOf k).2.1, .int .i64 (shapeOf k).2.2]) ∧ w = w' := by
  obtain ⟨x, hx⟩ : ∃ x, shapeOf k = x := ⟨_, rfl⟩
  rw [hx]
  unfold shapeOf at hx
  by_cases h2 : k = 2
  · subst h2
    subst hx
    go_enter Try.func71, Try.ntmps71
    go_wp2
    first | go_ret3 | (refine bodyPost_ret (results_tmp3 rfl _ _ _) rfl ?_) | (refine bodyPost_ret (by simp [results, Try.results71, go_sem]; rfl) rfl ?_)
    exact ⟨rfl, rfl⟩
  have e2 : (k == 2) = false := beq_eq_false_iff_ne.mpr h2
  by_cases h5 : k = 5
  · subst h5
    subst hx
    go_enter Try.func71, Try.ntmps71
    go_wp2
    first | go_ret3 | (refine bodyPost_ret (results_tmp3 rfl _ _ _) rfl ?_) | (refine bodyPost_ret (by simp [results, Try.results71, go_sem]; rfl) rfl ?_)
    exact ⟨rfl, rfl⟩
  have e5 : (k == 5) = false := beq_eq_false_iff_ne.mpr h5
  by_cases h12 : k = 12
  · subst h12
    subst hx
    go_enter Try.func71, Try.ntmps71
    go_wp2
    first | go_ret3 | (refine bodyPost_ret (results_tmp3 rfl _ _ _) rfl ?_) | (refine bodyPost_ret (by simp [results, Try.results71, go_sem]; rfl) rfl ?_)
    exact ⟨rfl, rfl⟩
  have e12 : (k == 12) = false := beq_eq_false_iff_ne.mpr h12
  by_cases h6 : k = 6
  · subst h6
    subst hx
    go_enter Try.func71, Try.ntmps71
    go_wp2
    first | go_ret3 | (refine bodyPost_ret (results_tmp3 rfl _ _ _) rfl ?_) | (refine bodyPost_ret (by simp [results, Try.results71, go_sem]; rfl) rfl ?_)
    exact ⟨rfl, rfl⟩
  have e6 : (k == 6) = false := beq_eq_false_iff_ne.mpr h6
  by_cases h15 : k = 15
  · subst h15
    subst hx
    go_enter Try.func71, Try.ntmps71
    go_wp2
    first | go_ret3 | (refine bodyPost_ret (results_tmp3 rfl _ _ _) rfl ?_) | (refine bodyPost_ret (by simp [results, Try.results71, go_sem]; rfl) rfl ?_)
    exact ⟨rfl, rfl⟩
  have e15 : (k == 15) = false := beq_eq_false_iff_ne.mpr h15
  by_cases h33 : k = 33
  · subst h33
    subst hx
    go_enter Try.func71, Try.ntmps71
    go_wp2
    first | go_ret3 | (refine bodyPost_ret (results_tmp3 rfl _ _ _) rfl ?_) | (refine bodyPost_ret (by simp [results, Try.results71, go_sem]; rfl) rfl ?_)
    exact ⟨rfl, rfl⟩
  have e33 : (k == 33) = false := beq_eq_false_iff_ne.mpr h33
  rw [if_neg h2, if_neg h5, if_neg h12, if_neg h6, if_neg h15, if_neg h33] at hx
  subst hx
  clear h2 h5 h12 h6 h15 h33
  go_enter Try.func71, Try.ntmps71
  go_wp2
  first | go_ret3 | (refine bodyPost_ret (results_tmp3 rfl _ _ _) rfl ?_) | (refine bodyPost_ret (by simp [results, Try.results71, go_sem]; rfl) rfl ?_)
  exact ⟨rfl, rfl⟩
def badNum (r : Rec) (n : Int) : Bool := decide (¬ r.f1 = 6 ∧ 65535 < n)
def badText (r : Rec) (s : ByteArray) : Bool := decide (r.f1 = 16 ∧ 255 < s.size ∨ r.f1 = 1 ∧ s.size ≠ 4 ∨ r.f1 = 28 ∧ s.size ≠ 16)
theorem shapedB_eq (r : Rec) : shapedB r = if ¬ (r.f4.length = (shapeOf r.f1).1 ∧ r.f5.length = (shapeOf r.f1).2.1 ∧ (r.f6.length = (shapeOf r.f1).2.2 ∨ r.f1 = 16 ∧ r.f6.length ≠ 0)) then false else if r.f5.any (badNum r) then false else !(r.f6.any (badText r)) := by
  unfold shapedB
  by_cases h1 : r.f4.length = (shapeOf r.f1).1 ∧ r.f5.length = (shapeOf r.f1).2.1 ∧ (r.f6.length = (shapeOf r.f1).2.2 ∨ r.f1 = 16 ∧ r.f6.length ≠ 0)
  · rw [if_neg (fun h => h h1)]
    have hn : decide (r.f4.length = (shapeOf r.f1).1 ∧ r.f5.length = (shapeOf r.f1).2.1 ∧ (r.f6.length = (shapeOf r.f1).2.2 ∨ r.f1 = 16 ∧ r.f6.length ≠ 0) ∧ (r.f1 = 6 ∨ (r.f5.all fun n => decide (n ≤ 65535)) = true)) = !(r.f5.any (badNum r)) := by
      rw [Bool.eq_iff_iff, decide_eq_true_iff, Bool.not_eq_true', List.any_eq_false]
      constructor
      · rintro ⟨_, _, _, h⟩ n hn hb
        unfold badNum at hb
        have hb := of_decide_eq_true hb
        rcases h with h | h
        · exact hb.1 h
        · rw [List.all_eq_true] at h
          have := of_decide_eq_true (h n hn)
          omega
      · intro h
        refine ⟨h1.1, h1.2.1, h1.2.2, ?_⟩
        by_cases h6 : r.f1 = 6
        · exact .inl h6
        · right
          rw [List.all_eq_true]
          intro n hn
          have := h n hn
          unfold badNum at this
          rw [decide_eq_true_iff] at this
          exact decide_eq_true (by omega)
    have ht : shapedE r = !(r.f6.any (badText r)) := by
      unfold shapedE
      have hlen : ∀ k, r.f1 = k → k ≠ 16 → (shapeOf k).2.2 = 1 → ∃ t, r.f6 = [t] := by
        intro k hk h16 hs
        have := h1.2.2
        rw [hk, hs] at this
        rcases this with h | h
        · match hl : r.f6, h with
          | [t], _ => exact ⟨t, rfl⟩
        · exact absurd h.1 h16
      by_cases k1 : r.f1 = 1
      · obtain ⟨t, ht⟩ := hlen 1 k1 (by decide) rfl
        rw [if_pos k1, ht]
        simp only [List.getD_cons_zero, List.any_cons, List.any_nil, Bool.or_false]
        unfold badText
        rw [Bool.eq_iff_iff, Bool.not_eq_true', decide_eq_true_iff, decide_eq_false_iff_not]
        omega
      · rw [if_neg k1]
        by_cases k28 : r.f1 = 28
        · obtain ⟨t, ht⟩ := hlen 28 k28 (by decide) rfl
          rw [if_pos k28, ht]
          simp only [List.getD_cons_zero, List.any_cons, List.any_nil, Bool.or_false]
          unfold badText
          rw [Bool.eq_iff_iff, Bool.not_eq_true', decide_eq_true_iff, decide_eq_false_iff_not]
          omega
        · rw [if_neg k28]
          by_cases k16 : r.f1 = 16
          · rw [if_pos k16]
            congr 2
            funext s
            unfold tooLong badText
            congr 1
            apply propext
            omega
          · rw [if_neg k16]
            have : r.f6.any (badText r) = false := by
              rw [List.any_eq_false]
              intro s _ hb
              unfold badText at hb
              have := of_decide_eq_true hb
              omega
            rw [this]
            rfl
    rw [hn, ht]
    cases r.f5.any (badNum r) <;> rfl
  · rw [if_pos h1, decide_eq_false (fun h => h1 ⟨h.1, h.2.1, h.2.2.1⟩)]
    rfl
set_option maxHeartbeats 8000000 in
set_option maxRecDepth 100000 in
theorem shaped5_calls (r : Rec) (v : Value) (w : World) (hv : RecAt w v r) (hm : r.f6.length ≤ 1000000000) (h4 : r.f4.length ≤ 1000000000) (h5 : r.f5.length ≤ 1000000000) :
    Calls Try.prog 52 #[v] w fun e w' => e = .returned (.bool (shapedB r)) ∧ Below w.heap.size w w' := by
  obtain ⟨A4, c4, A5, c5, A6, c6, rfl, l4, g4, l5, g5, l6, g6⟩ := hv
  have G5 := Aside0.mk g5
  have G6 := Aside0.mk g6
  clear g4 g5 g6
  obtain ⟨s1, s2, s3⟩ := shapeOf_le r.f1
  obtain ⟨R, hR⟩ : ∃ R, shapedB r = R := ⟨_, rfl⟩
  rw [hR]
  rw [shapedB_eq] at hR
  obtain ⟨⟨a, b, c⟩, hs⟩ : ∃ x, shapeOf r.f1 = x := ⟨_, rfl⟩
  rw [hs] at s1 s2 s3 hR
  simp only [] at hR s1 s2 s3
  have HS := Lib.hid hs
  clear hs
  by_cases k1 : r.f4.length = a
  case neg =>
    rw [if_pos (fun h => k1 h.1)] at hR
    subst hR
    have e1 : ((r.f4.length : Int) != (a : Int)) = true := by rw [bne_iff_ne]; omega
    clear k1
    go_enter Try.func52, Try.ntmps52
    go_wp2_with (((with_reducible refine gate_dst (N := 1) rfl ?_); refine box_event rfl (N := 1) rfl (cs := #[.string r.f0, .int .u16 r.f1, .int .u16 r.f2, .int .u32 r.f3, .slice A4 r.f4.length c4, .slice A5 r.f5.length c5, .slice A6 r.f6.length c6]) (t := 44) (by first | (go_simp; done) | (go_simp; rfl)) ?_; intro g hg w1 hbox hb); have HX := Aside0.mk hbox; have HB := Aside0.mk hb; have HGe := Aside0.mk hg; clear hb hg; have z0 : w1.cell? ⟨g, 0, none⟩ = some (.string r.f0) := (blk_cell HX.out 0).trans rfl; clear hbox; have z1 : w1.cell? ⟨g, 1, none⟩ = some (.int .u16 r.f1) := (blk_cell HX.out 1).trans rfl; have z2 : w1.cell? ⟨g, 2, none⟩ = some (.int .u16 r.f2) := (blk_cell HX.out 2).trans rfl; have z3 : w1.cell? ⟨g, 3, none⟩ = some (.int .u32 r.f3) := (blk_cell HX.out 3).trans rfl; have z4 : w1.cell? ⟨g, 4, none⟩ = some (.slice A4 r.f4.length c4) := (blk_cell HX.out 4).trans rfl; have z5 : w1.cell? ⟨g, 5, none⟩ = some (.slice A5 r.f5.length c5) := (blk_cell HX.out 5).trans rfl; have z6 : w1.cell? ⟨g, 6, none⟩ = some (.slice A6 r.f6.length c6) := (blk_cell HX.out 6).trans rfl)
    refine (Shape5_calls r.f1 _).mono ?_
    rw [HS.out]
    rintro e w' ⟨rfl, rfl⟩
    go_wp2_with fail
    go_ret
    exact ⟨rfl, HB.out⟩
  have e1 : ((r.f4.length : Int) != (a : Int)) = false := by rw [bne_eq_false_iff_eq]; omega
  by_cases k2 : r.f5.length = b
  case neg =>
    rw [if_pos (fun h => k2 h.2.1)] at hR
    subst hR
    have e2 : ((r.f5.length : Int) != (b : Int)) = true := by rw [bne_iff_ne]; omega
    clear k1 k2
    go_enter Try.func52, Try.ntmps52
    go_wp2_with (((with_reducible refine gate_dst (N := 1) rfl ?_); refine box_event rfl (N := 1) rfl (cs := #[.string r.f0, .int .u16 r.f1, .int .u16 r.f2, .int .u32 r.f3, .slice A4 r.f4.length c4, .slice A5 r.f5.length c5, .slice A6 r.f6.length c6]) (t := 44) (by first | (go_simp; done) | (go_simp; rfl)) ?_; intro g hg w1 hbox hb); have HX := Aside0.mk hbox; have HB := Aside0.mk hb; have HGe := Aside0.mk hg; clear hb hg; have z0 : w1.cell? ⟨g, 0, none⟩ = some (.string r.f0) := (blk_cell HX.out 0).trans rfl; clear hbox; have z1 : w1.cell? ⟨g, 1, none⟩ = some (.int .u16 r.f1) := (blk_cell HX.out 1).trans rfl; have z2 : w1.cell? ⟨g, 2, none⟩ = some (.int .u16 r.f2) := (blk_cell HX.out 2).trans rfl; have z3 : w1.cell? ⟨g, 3, none⟩ = some (.int .u32 r.f3) := (blk_cell HX.out 3).trans rfl; have z4 : w1.cell? ⟨g, 4, none⟩ = some (.slice A4 r.f4.length c4) := (blk_cell HX.out 4).trans rfl; have z5 : w1.cell? ⟨g, 5, none⟩ = some (.slice A5 r.f5.length c5) := (blk_cell HX.out 5).trans rfl; have z6 : w1.cell? ⟨g, 6, none⟩ = some (.slice A6 r.f6.length c6) := (blk_cell HX.out 6).trans rfl)
    refine (Shape5_calls r.f1 _).mono ?_
    rw [HS.out]
    rintro e w' ⟨rfl, rfl⟩
    go_wp2_with fail
    go_ret
    exact ⟨rfl, HB.out⟩
  have e2 : ((r.f5.length : Int) != (b : Int)) = false := by rw [bne_eq_false_iff_eq]; omega
  by_cases k3 : r.f6.length = c ∨ r.f1 = 16 ∧ r.f6.length ≠ 0
  case neg =>
    rw [if_pos (fun h => k3 h.2.2)] at hR
    subst hR
    by_cases k4 : r.f1 = 16
    · have e5 : ((r.f6.length : Int) == 0) = true := beq_iff_eq.mpr (by omega)
      have e4 : (r.f1 == 16) = true := beq_iff_eq.mpr k4
      clear k1 k2 k3 k4
      go_enter Try.func52, Try.ntmps52
      go_wp2_with (((with_reducible refine gate_dst (N := 1) rfl ?_); refine box_event rfl (N := 1) rfl (cs := #[.string r.f0, .int .u16 r.f1, .int .u16 r.f2, .int .u32 r.f3, .slice A4 r.f4.length c4, .slice A5 r.f5.length c5, .slice A6 r.f6.length c6]) (t := 44) (by first | (go_simp; done) | (go_simp; rfl)) ?_; intro g hg w1 hbox hb); have HX := Aside0.mk hbox; have HB := Aside0.mk hb; have HGe := Aside0.mk hg; clear hb hg; have z0 : w1.cell? ⟨g, 0, none⟩ = some (.string r.f0) := (blk_cell HX.out 0).trans rfl; clear hbox; have z1 : w1.cell? ⟨g, 1, none⟩ = some (.int .u16 r.f1) := (blk_cell HX.out 1).trans rfl; have z2 : w1.cell? ⟨g, 2, none⟩ = some (.int .u16 r.f2) := (blk_cell HX.out 2).trans rfl; have z3 : w1.cell? ⟨g, 3, none⟩ = some (.int .u32 r.f3) := (blk_cell HX.out 3).trans rfl; have z4 : w1.cell? ⟨g, 4, none⟩ = some (.slice A4 r.f4.length c4) := (blk_cell HX.out 4).trans rfl; have z5 : w1.cell? ⟨g, 5, none⟩ = some (.slice A5 r.f5.length c5) := (blk_cell HX.out 5).trans rfl; have z6 : w1.cell? ⟨g, 6, none⟩ = some (.slice A6 r.f6.length c6) := (blk_cell HX.out 6).trans rfl)
      refine (Shape5_calls r.f1 _).mono ?_
      rw [HS.out]
      rintro e w' ⟨rfl, rfl⟩
      go_wp2_with fail
      go_ret
      exact ⟨rfl, HB.out⟩
    · have e3 : ((r.f6.length : Int) != (c : Int)) = true := by rw [bne_iff_ne]; omega
      have e4 : (r.f1 == 16) = false := beq_eq_false_iff_ne.mpr k4
      have e5 : (r.f1 != 16) = true := by rw [bne_iff_ne]; exact k4
      clear k1 k2 k3 k4
      go_enter Try.func52, Try.ntmps52
      go_wp2_with (((with_reducible refine gate_dst (N := 1) rfl ?_); refine box_event rfl (N := 1) rfl (cs := #[.string r.f0, .int .u16 r.f1, .int .u16 r.f2, .int .u32 r.f3, .slice A4 r.f4.length c4, .slice A5 r.f5.length c5, .slice A6 r.f6.length c6]) (t := 44) (by first | (go_simp; done) | (go_simp; rfl)) ?_; intro g hg w1 hbox hb); have HX := Aside0.mk hbox; have HB := Aside0.mk hb; have HGe := Aside0.mk hg; clear hb hg; have z0 : w1.cell? ⟨g, 0, none⟩ = some (.string r.f0) := (blk_cell HX.out 0).trans rfl; clear hbox; have z1 : w1.cell? ⟨g, 1, none⟩ = some (.int .u16 r.f1) := (blk_cell HX.out 1).trans rfl; have z2 : w1.cell? ⟨g, 2, none⟩ = some (.int .u16 r.f2) := (blk_cell HX.out 2).trans rfl; have z3 : w1.cell? ⟨g, 3, none⟩ = some (.int .u32 r.f3) := (blk_cell HX.out 3).trans rfl; have z4 : w1.cell? ⟨g, 4, none⟩ = some (.slice A4 r.f4.length c4) := (blk_cell HX.out 4).trans rfl; have z5 : w1.cell? ⟨g, 5, none⟩ = some (.slice A5 r.f5.length c5) := (blk_cell HX.out 5).trans rfl; have z6 : w1.cell? ⟨g, 6, none⟩ = some (.slice A6 r.f6.length c6) := (blk_cell HX.out 6).trans rfl)
      refine (Shape5_calls r.f1 _).mono ?_
      rw [HS.out]
      rintro e w' ⟨rfl, rfl⟩
      go_wp2_with fail
      go_ret
      exact ⟨rfl, HB.out⟩
  rw [if_neg (fun h => h ⟨k1, k2, k3⟩)] at hR
  have hways : ((r.f1 == 16) = true ∧ (r.f1 != 16) = false ∧ ((r.f6.length : Int) == 0) = false) ∨ ((r.f1 == 16) = false ∧ (r.f1 != 16) = true ∧ ((r.f6.length : Int) != (c : Int)) = false) := by
    by_cases k4 : r.f1 = 16
    · refine .inl ⟨beq_iff_eq.mpr k4, by rw [bne_eq_false_iff_eq]; exact k4, beq_eq_false_iff_ne.mpr ?_⟩
      rcases k3 with k3 | k3
      · have hc : c = 1 := by have := HS.out; rw [k4] at this; exact (congrArg (fun x => x.2.2) this).symm
        omega
      · omega
    · refine .inr ⟨beq_eq_false_iff_ne.mpr k4, by rw [bne_iff_ne]; exact k4, ?_⟩
      rw [bne_eq_false_iff_eq]
      rcases k3 with k3 | k3
      · omega
      · exact absurd k3.1 k4
  have HR := Aside0.mk hR
  have k5 : r.f5.length ≤ 5 := by omega
  clear k1 k2 k3 hR
  rcases hways with ⟨e3, e4, e5⟩ | ⟨e3, e4, e5⟩
  · go_enter Try.func52, Try.ntmps52
    go_wp2_with (((with_reducible refine gate_dst (N := 1) rfl ?_); refine box_event rfl (N := 1) rfl (cs := #[.string r.f0, .int .u16 r.f1, .int .u16 r.f2, .int .u32 r.f3, .slice A4 r.f4.length c4, .slice A5 r.f5.length c5, .slice A6 r.f6.length c6]) (t := 44) (by first | (go_simp; done) | (go_simp; rfl)) ?_; intro g hg w1 hbox hb); have HX := Aside0.mk hbox; have HB := Aside0.mk hb; have HGe := Aside0.mk hg; clear hb hg; have z0 : w1.cell? ⟨g, 0, none⟩ = some (.string r.f0) := (blk_cell HX.out 0).trans rfl; clear hbox; have z1 : w1.cell? ⟨g, 1, none⟩ = some (.int .u16 r.f1) := (blk_cell HX.out 1).trans rfl; have z2 : w1.cell? ⟨g, 2, none⟩ = some (.int .u16 r.f2) := (blk_cell HX.out 2).trans rfl; have z3 : w1.cell? ⟨g, 3, none⟩ = some (.int .u32 r.f3) := (blk_cell HX.out 3).trans rfl; have z4 : w1.cell? ⟨g, 4, none⟩ = some (.slice A4 r.f4.length c4) := (blk_cell HX.out 4).trans rfl; have z5 : w1.cell? ⟨g, 5, none⟩ = some (.slice A5 r.f5.length c5) := (blk_cell HX.out 5).trans rfl; have z6 : w1.cell? ⟨g, 6, none⟩ = some (.slice A6 r.f6.length c6) := (blk_cell HX.out 6).trans rfl)
    refine (Shape5_calls r.f1 _).mono ?_
    rw [HS.out]
    rintro e w' ⟨rfl, rfl⟩
    go_wp2_with fail
    go_loop [6] (fun t => ∃ k : Nat, t = .int .i64 k ∧ Aside0 (k ≤ r.f5.length) ∧ Aside0 ((if (r.f5.drop k).any (badNum r) then false else !(r.f6.any (badText r))) = R)) (fun t => r.f5.length - (intOf t).toNat)
    case atStart => exact ⟨0, rfl, ⟨Nat.zero_le _⟩, HR⟩
    case round =>
      clear HR
      obtain ⟨k, rfl, HK, HE⟩ := hrel
      have he := HE.out
      clear HE
      by_cases hk : k < r.f5.length
      · obtain ⟨ad, rfl, hcell⟩ := at_int (Kd.C_below G5.out HB.out) k hk
        have q1 : (0 : Int) ≤ (k : Int) := by omega
        have q2 : (k : Int) < (r.f5.length : Int) := by omega
        rw [drop_get 0 r.f5 k hk, List.any_cons] at he
        obtain ⟨n, hn⟩ : ∃ n, r.f5.getD k 0 = n := ⟨_, rfl⟩
        rw [hn] at hcell he
        clear hn
        by_cases hb : ¬ r.f1 = 6 ∧ 65535 < n
        · rw [show badNum r n = true from decide_eq_true hb, Bool.true_or, if_pos rfl] at he
          subst he
          have e6 : (r.f1 != 6) = true := by rw [bne_iff_ne]; exact hb.1
          have d6 : decide (65535 < n) = true := decide_eq_true hb.2
          clear hb
          go_wp2
          go_ret
          exact ⟨rfl, HB.out⟩
        · rw [show badNum r n = false from decide_eq_false hb, Bool.false_or] at he
          have HE := Aside0.mk he
          clear he
          by_cases t6 : r.f1 = 6
          · have e6 : (r.f1 != 6) = false := by rw [bne_eq_false_iff_eq]; exact t6
            clear hb t6
            go_wp2
            go_round
            case rel => exact ⟨k + 1, by go_num, ⟨hk⟩, HE⟩
            case measure => simp [intOf]; omega
          · have e6 : (r.f1 != 6) = true := by rw [bne_iff_ne]; exact t6
            have d6 : decide (65535 < n) = false := decide_eq_false (by omega)
            clear hb t6
            go_wp2
            go_round
            case rel => exact ⟨k + 1, by go_num, ⟨hk⟩, HE⟩
            case measure => simp [intOf]; omega
      · obtain rfl : k = r.f5.length := by have := HK.out; omega
        rw [List.drop_length, List.any_nil, if_neg (by decide)] at he
        obtain ⟨Q, hQ⟩ : ∃ Q, r.f6.any (badText r) = Q := ⟨_, rfl⟩
        rw [hQ] at he
        subst he
        have HR := Aside0.mk (show (r.f6.drop 0).any (badText r) = Q from hQ)
        clear hQ HK
        go_wp2
        go_loop [7] (fun t => ∃ k : Nat, t = .int .i64 k ∧ Aside0 (k ≤ r.f6.length) ∧ Aside0 ((r.f6.drop k).any (badText r) = Q)) (fun t => r.f6.length - (intOf t).toNat)
        case atStart => exact ⟨0, rfl, ⟨Nat.zero_le _⟩, HR⟩
        case round =>
          clear HR
          obtain ⟨k, rfl, HK, HE⟩ := hrel
          have he := HE.out
          clear HE
          by_cases hk : k < r.f6.length
          · obtain ⟨ad, rfl, hcell⟩ := at_str (Kd.C_below G6.out HB.out) k hk
            have q1 : (0 : Int) ≤ (k : Int) := by omega
            have q2 : (k : Int) < (r.f6.length : Int) := by omega
            rw [drop_get ⟨#[]⟩ r.f6 k hk, List.any_cons] at he
            obtain ⟨s, hs⟩ : ∃ s, r.f6.getD k ⟨#[]⟩ = s := ⟨_, rfl⟩
            rw [hs] at hcell he
            clear hs
            have g1 : decide ((255 : Int) < (s.size : Int)) = decide (255 < s.size) := decide_eq_decide.mpr (by omega)
            have g2 : ((s.size : Int) != 4) = decide (s.size ≠ 4) := by rw [Bool.eq_iff_iff, bne_iff_ne, decide_eq_true_iff]; omega
            have g3 : ((s.size : Int) != 16) = decide (s.size ≠ 16) := by rw [Bool.eq_iff_iff, bne_iff_ne, decide_eq_true_iff]; omega
            have hw : badText r s = decide (255 < s.size) := decide_eq_decide.mpr (by have := eq_of_beq e3; omega)
            rw [← hw] at g1
            obtain ⟨b, hb⟩ : ∃ b, badText r s = b := ⟨_, rfl⟩
            rw [hb] at he g1
            have w3 : (r.f1 == 1) = false := beq_eq_false_iff_ne.mpr (by have := eq_of_beq e3; omega)
            have w4 : (r.f1 == 28) = false := beq_eq_false_iff_ne.mpr (by have := eq_of_beq e3; omega)
            clear hb hw g2 g3
            cases b with
            | true =>
              rw [Bool.true_or] at he
              subst he
              go_wp2
              go_ret
              exact ⟨rfl, HB.out⟩
            | false =>
              rw [Bool.false_or] at he
              have HE := Aside0.mk he
              clear he
              go_wp2
              go_round
              case rel => exact ⟨k + 1, by go_num, ⟨hk⟩, HE⟩
              case measure => simp [intOf]; omega
          · obtain rfl : k = r.f6.length := by have := HK.out; omega
            rw [List.drop_length, List.any_nil] at he
            subst he
            go_wp2
            go_ret
            exact ⟨rfl, HB.out⟩
  · go_enter Try.func52, Try.ntmps52
    go_wp2_with (((with_reducible refine gate_dst (N := 1) rfl ?_); refine box_event rfl (N := 1) rfl (cs := #[.string r.f0, .int .u16 r.f1, .int .u16 r.f2, .int .u32 r.f3, .slice A4 r.f4.length c4, .slice A5 r.f5.length c5, .slice A6 r.f6.length c6]) (t := 44) (by first | (go_simp; done) | (go_simp; rfl)) ?_; intro g hg w1 hbox hb); have HX := Aside0.mk hbox; have HB := Aside0.mk hb; have HGe := Aside0.mk hg; clear hb hg; have z0 : w1.cell? ⟨g, 0, none⟩ = some (.string r.f0) := (blk_cell HX.out 0).trans rfl; clear hbox; have z1 : w1.cell? ⟨g, 1, none⟩ = some (.int .u16 r.f1) := (blk_cell HX.out 1).trans rfl; have z2 : w1.cell? ⟨g, 2, none⟩ = some (.int .u16 r.f2) := (blk_cell HX.out 2).trans rfl; have z3 : w1.cell? ⟨g, 3, none⟩ = some (.int .u32 r.f3) := (blk_cell HX.out 3).trans rfl; have z4 : w1.cell? ⟨g, 4, none⟩ = some (.slice A4 r.f4.length c4) := (blk_cell HX.out 4).trans rfl; have z5 : w1.cell? ⟨g, 5, none⟩ = some (.slice A5 r.f5.length c5) := (blk_cell HX.out 5).trans rfl; have z6 : w1.cell? ⟨g, 6, none⟩ = some (.slice A6 r.f6.length c6) := (blk_cell HX.out 6).trans rfl)
    refine (Shape5_calls r.f1 _).mono ?_
    rw [HS.out]
    rintro e w' ⟨rfl, rfl⟩
    go_wp2_with fail
    go_loop [6] (fun t => ∃ k : Nat, t = .int .i64 k ∧ Aside0 (k ≤ r.f5.length) ∧ Aside0 ((if (r.f5.drop k).any (badNum r) then false else !(r.f6.any (badText r))) = R)) (fun t => r.f5.length - (intOf t).toNat)
    case atStart => exact ⟨0, rfl, ⟨Nat.zero_le _⟩, HR⟩
    case round =>
      clear HR
      obtain ⟨k, rfl, HK, HE⟩ := hrel
      have he := HE.out
      clear HE
      by_cases hk : k < r.f5.length
      · obtain ⟨ad, rfl, hcell⟩ := at_int (Kd.C_below G5.out HB.out) k hk
        have q1 : (0 : Int) ≤ (k : Int) := by omega
        have q2 : (k : Int) < (r.f5.length : Int) := by omega
        rw [drop_get 0 r.f5 k hk, List.any_cons] at he
        obtain ⟨n, hn⟩ : ∃ n, r.f5.getD k 0 = n := ⟨_, rfl⟩
        rw [hn] at hcell he
        clear hn
        by_cases hb : ¬ r.f1 = 6 ∧ 65535 < n
        · rw [show badNum r n = true from decide_eq_true hb, Bool.true_or, if_pos rfl] at he
          subst he
          have e6 : (r.f1 != 6) = true := by rw [bne_iff_ne]; exact hb.1
          have d6 : decide (65535 < n) = true := decide_eq_true hb.2
          clear hb
          go_wp2
          go_ret
          exact ⟨rfl, HB.out⟩
        · rw [show badNum r n = false from decide_eq_false hb, Bool.false_or] at he
          have HE := Aside0.mk he
          clear he
          by_cases t6 : r.f1 = 6
          · have e6 : (r.f1 != 6) = false := by rw [bne_eq_false_iff_eq]; exact t6
            clear hb t6
            go_wp2
            go_round
            case rel => exact ⟨k + 1, by go_num, ⟨hk⟩, HE⟩
            case measure => simp [intOf]; omega
          · have e6 : (r.f1 != 6) = true := by rw [bne_iff_ne]; exact t6
            have d6 : decide (65535 < n) = false := decide_eq_false (by omega)
            clear hb t6
            go_wp2
            go_round
            case rel => exact ⟨k + 1, by go_num, ⟨hk⟩, HE⟩
            case measure => simp [intOf]; omega
      · obtain rfl : k = r.f5.length := by have := HK.out; omega
        rw [List.drop_length, List.any_nil, if_neg (by decide)] at he
        obtain ⟨Q, hQ⟩ : ∃ Q, r.f6.any (badText r) = Q := ⟨_, rfl⟩
        rw [hQ] at he
        subst he
        have HR := Aside0.mk (show (r.f6.drop 0).any (badText r) = Q from hQ)
        clear hQ HK
        go_wp2
        go_loop [7] (fun t => ∃ k : Nat, t = .int .i64 k ∧ Aside0 (k ≤ r.f6.length) ∧ Aside0 ((r.f6.drop k).any (badText r) = Q)) (fun t => r.f6.length - (intOf t).toNat)
        case atStart => exact ⟨0, rfl, ⟨Nat.zero_le _⟩, HR⟩
        case round =>
          clear HR
          obtain ⟨k, rfl, HK, HE⟩ := hrel
          have he := HE.out
          clear HE
          by_cases hk : k < r.f6.length
          · obtain ⟨ad, rfl, hcell⟩ := at_str (Kd.C_below G6.out HB.out) k hk
            have q1 : (0 : Int) ≤ (k : Int) := by omega
            have q2 : (k : Int) < (r.f6.length : Int) := by omega
            rw [drop_get ⟨#[]⟩ r.f6 k hk, List.any_cons] at he
            obtain ⟨s, hs⟩ : ∃ s, r.f6.getD k ⟨#[]⟩ = s := ⟨_, rfl⟩
            rw [hs] at hcell he
            clear hs
            have g1 : decide ((255 : Int) < (s.size : Int)) = decide (255 < s.size) := decide_eq_decide.mpr (by omega)
            have g2 : ((s.size : Int) != 4) = decide (s.size ≠ 4) := by rw [Bool.eq_iff_iff, bne_iff_ne, decide_eq_true_iff]; omega
            have g3 : ((s.size : Int) != 16) = decide (s.size ≠ 16) := by rw [Bool.eq_iff_iff, bne_iff_ne, decide_eq_true_iff]; omega
            obtain ⟨b, hb⟩ : ∃ b, badText r s = b := ⟨_, rfl⟩
            rw [hb] at he
            have HBt := Lib.hid hb
            have k16 : ¬ r.f1 = 16 := by intro h; rw [h] at e3; exact absurd e3 (by decide)
            clear hb
            by_cases k1 : r.f1 = 1
            · have w1 : (r.f1 == 1) = true := beq_iff_eq.mpr k1
              have hw : b = decide (s.size ≠ 4) := by rw [← HBt.out]; exact decide_eq_decide.mpr (by omega)
              rw [← hw] at g2
              have w4 : (r.f1 == 28) = false := beq_eq_false_iff_ne.mpr (by omega)
              clear hw g1 g3 k1 k16
              cases b with
              | true =>
                rw [Bool.true_or] at he
                subst he
                go_wp2
                go_ret
                exact ⟨rfl, HB.out⟩
              | false =>
                rw [Bool.false_or] at he
                have HE := Aside0.mk he
                clear he
                go_wp2
                go_round
                case rel => exact ⟨k + 1, by go_num, ⟨hk⟩, HE⟩
                case measure => simp [intOf]; omega
            have w1 : (r.f1 == 1) = false := beq_eq_false_iff_ne.mpr k1
            by_cases k28 : r.f1 = 28
            · have w3 : (r.f1 == 28) = true := beq_iff_eq.mpr k28
              have hw : b = decide (s.size ≠ 16) := by rw [← HBt.out]; exact decide_eq_decide.mpr (by omega)
              rw [← hw] at g3
              clear hw g1 g2 k1 k28 k16
              cases b with
              | true =>
                rw [Bool.true_or] at he
                subst he
                go_wp2
                go_ret
                exact ⟨rfl, HB.out⟩
              | false =>
                rw [Bool.false_or] at he
                have HE := Aside0.mk he
                clear he
                go_wp2
                go_round
                case rel => exact ⟨k + 1, by go_num, ⟨hk⟩, HE⟩
                case measure => simp [intOf]; omega
            have w3 : (r.f1 == 28) = false := beq_eq_false_iff_ne.mpr k28
            have hw : b = false := by rw [← HBt.out]; exact decide_eq_false (by omega)
            subst hw
            rw [Bool.false_or] at he
            have HE := Aside0.mk he
            clear he g1 g2 g3 k1 k28 k16
            go_wp2
            go_round
            case rel => exact ⟨k + 1, by go_num, ⟨hk⟩, HE⟩
            case measure => simp [intOf]; omega
          · obtain rfl : k = r.f6.length := by have := HK.out; omega
            rw [List.drop_length, List.any_nil] at he
            subst he
            go_wp2
            go_ret
            exact ⟨rfl, HB.out⟩
end Go.Proofs.Ytbbeikdbioelgaa.M
set_option linter.unusedVariables false
set_option linter.unusedSimpArgs false
namespace Go.Proofs.Ytbbeikdbioelgaa.M
open Go.RowKit Go.Proofs.YtbbeikdbioelgaaW.PrintWords Go.Proofs.YtbbeikdbioelgaaW.PrintLast Go.Proofs.YtbbeikdbioelgaaW.PrintMore
attribute [local go_sem] max2_int min2_int max_two min_two max_three min_three max_four min_four
theorem one_byte (W : World) (x : Int) : (convert 57 9 (.slice (some ⟨W.heap.size, 0, none⟩) 1 1)).run Try.prog (W.alloc (.cells #[.int .u8 x] 5 (0, 0))) = .ok (.string (strOfNums [x])) (W.alloc (.cells #[.int .u8 x] 5 (0, 0))) := by
  refine run_convert_bytes_arg (P := Try.prog) _ 57 5 Try.underlying57 Try.underlying5 W.heap.size 0 1 1 [x] rfl ?_ 9 Try.underlying9
  intro i hi
  have hb := blk_new W (.cells #[.int .u8 x] 5 (0, 0))
  match i, hi with
  | 0, _ => exact (blk_cell hb 0).trans rfl
theorem str_app (a b : List Int) : strOfNums a ++ strOfNums b = strOfNums (a ++ b) := by
  apply ByteArray.ext
  simp [strOfNums]
theorem str_of (s : ByteArray) : strOfNums (bytesOf s) = s := by
  apply ByteArray.ext
  apply Array.toList_inj.1
  rw [strOfNums_data]
  unfold bytesOf
  rw [List.map_map]
  conv => rhs; rw [← List.map_id s.data.toList]
  apply List.map_congr_left
  intro b _
  simp
set_option maxHeartbeats 4000000 in
set_option maxRecDepth 100000 in
theorem Put5_calls (s : ByteArray) (n : Int) (k : Nat) (w : World) (hs : s.size ≤ 1000000000000) (n0 : 0 ≤ n) (n1 : n ≤ 4294967295) (hk : k ≤ 8) :
    Calls Try.prog 38 #[.string s, .int .u64 n, .int .i64 k] w fun e w' => e = .returned (.string (s ++ strOfNums (putL n k))) ∧ Below w.heap.size w w' := by
  have HB := Aside0.mk (Below.refl w.heap.size w)
  have hcv := fun W x => one_byte W x
  have p1 : (k : Int) ≤ 8 := by omega
  have HS := Lib.hid (show s.size ≤ 1000000000000 ∧ k ≤ 8 ∧ 0 ≤ n ∧ n ≤ 4294967295 from ⟨hs, hk, n0, n1⟩)
  clear hs hk n0 n1
  go_enter Try.func38, Try.ntmps38
  go_wp2
  go_loopg [1, 7, 8] k (fun kq v1 v7 v8 w' => ∃ i : Nat, v8 = .int .i64 i ∧ v7 = .string (strOfNums (putL n i)) ∧ v1 = .int .u64 (n / 2 ^ (8 * i)) ∧ Aside0 (kq + i = k) ∧ Aside0 (Below w.heap.size w w'))
  case atStart => exact ⟨0, rfl, rfl, by simp, ⟨rfl⟩, HB⟩
  case round =>
    clear HB
    obtain ⟨i, rfl, rfl, rfl, HK, HB⟩ := hrel
    cases gk with
    | zero =>
      obtain rfl : i = k := by have := HK.out; omega
      have hadd := fun W => run_string_add_sum (P := Try.prog) W s (strOfNums (putL n i)) (by rw [strOfNums_size, putL_length]; have := HS.out; omega)
      go_wp2
      go_ret
      exact ⟨rfl, HB.out⟩
    | succ j =>
      have q1 : (i : Int) < (k : Int) := by have := HK.out; omega
      have q2 : (i : Int) < 8 := by omega
      obtain ⟨m, hm⟩ : ∃ m, n / 2 ^ (8 * i) = m := ⟨_, rfl⟩
      have m0 : 0 ≤ m := by rw [← hm]; exact Int.ediv_nonneg HS.out.2.2.1 (Int.le_of_lt (Int.pow_pos (by decide)))
      have hnext : n / 2 ^ (8 * (i + 1)) = m / 256 := by
        rw [← hm, Int.ediv_ediv_of_nonneg (Int.le_of_lt (Int.pow_pos (by decide)))]
        congr 1
        rw [show 8 * (i + 1) = 8 * i + 8 by omega, Int.pow_add]
        rfl
      have hputs : strOfNums [m % 256] ++ strOfNums (putL n i) = strOfNums (putL n (i + 1)) := by
        rw [str_app]
        show _ = strOfNums (n / 2 ^ (8 * i) % 256 :: putL n i)
        rw [hm]
        rfl
      have m1 : m ≤ 4294967295 := by
        rw [← hm]
        exact Int.le_trans (Int.ediv_le_self _ HS.out.2.2.1) HS.out.2.2.2
      have HDv := Lib.hid (show IntKind.u64.wrap (m.tdiv 256) = m / 256 by
        rw [Int.tdiv_eq_ediv_of_nonneg m0]
        simp [IntKind.wrap, IntKind.bits, IntKind.signed]
        omega)
      have HN := Lib.hid hnext
      have HP := Lib.hid hputs
      rw [hm]
      have hw1 : IntKind.u8.wrap (m % 256) = m % 256 := by rw [IntKind.wrap_u8]; omega
      have hadd := fun W => run_string_add_sum (P := Try.prog) W (strOfNums [m % 256]) (strOfNums (putL n i)) (by rw [strOfNums_size, strOfNums_size, putL_length]; have := HS.out; simp; omega)
      clear hnext hputs hm
      go_wp2
      go_roundg j
      case measure => omega
      case rel => exact ⟨i + 1, by go_num, by rw [← HP.out], by rw [HN.out], ⟨by have := HK.out; omega⟩, ⟨below_alloc HB.out _⟩⟩
def total (r : Rec) : Nat := (r.f6.flatMap (textL r)).length
def plain5E (r : Rec) : Ending := if 65535 < total r then .returned (.tuple #[.string ⟨#[]⟩, .bool false]) else .returned (.tuple #[.string (strOfNums (plainL r)), .bool true])
theorem textL_len (r : Rec) (s : ByteArray) : (textL r s).length = s.size + (if r.f1 = 16 then 1 else 0) := by
  unfold textL
  rw [List.length_append, bytesOf_length]
  split <;> simp <;> omega
def sAcc {α : Type} (acc : List Int) (l : List α) (f : α → List Int) (k : Nat) : ByteArray := strOfNums (acc ++ (l.take k).flatMap f)
theorem sAcc_zero {α : Type} (acc : List Int) (l : List α) (f : α → List Int) : sAcc acc l f 0 = strOfNums acc := by simp [sAcc]
theorem sAcc_end {α : Type} (acc : List Int) (l : List α) (f : α → List Int) : sAcc acc l f l.length = strOfNums (acc ++ l.flatMap f) := by simp [sAcc]
theorem sAcc_next {α : Type} (acc : List Int) (l : List α) (f : α → List Int) (z : α) (k : Nat) (h : k < l.length) : sAcc acc l f k ++ strOfNums (f (l.getD k z)) = sAcc acc l f (k + 1) := by
  unfold sAcc
  rw [str_app, flat_snoc z f l k h, List.append_assoc]
def txN (r : Rec) (k : Nat) : Nat := ((r.f6.take k).flatMap (textL r)).length
theorem txN_zero (r : Rec) : txN r 0 = 0 := by simp [txN]
theorem txN_end (r : Rec) : txN r r.f6.length = total r := by unfold txN total; rw [List.take_length]
theorem txN_next (r : Rec) (k : Nat) (h : k < r.f6.length) : txN r (k + 1) = txN r k + ((r.f6.getD k ⟨#[]⟩).size + (if r.f1 = 16 then 1 else 0)) := by
  unfold txN
  rw [flat_snoc ⟨#[]⟩ (textL r) r.f6 k h, List.length_append, textL_len]
theorem txN_le (r : Rec) (k : Nat) : txN r k ≤ total r := by
  unfold total txN
  have h2 : (r.f6.flatMap (textL r)).length = ((r.f6.take k).flatMap (textL r)).length + ((r.f6.drop k).flatMap (textL r)).length := by
    rw [← List.length_append, ← List.flatMap_append, List.take_append_drop]
  omega
set_option maxHeartbeats 8000000 in
set_option maxRecDepth 100000 in
theorem plain5_calls (r : Rec) (v : Value) (w : World) (hv : RecAt w v r) (hF : Fine r) :
    Calls Try.prog 53 #[v] w fun e w' => e = plain5E r ∧ Below w.heap.size w w' := by
  obtain ⟨A4, c4, A5, c5, A6, c6, rfl, l4, g4, l5, g5, l6, g6⟩ := hv
  have G4 := Aside0.mk g4
  have G5 := Aside0.mk g5
  have G6 := Aside0.mk g6
  have HF := Aside0.mk hF
  obtain ⟨R, hR⟩ : ∃ R, plain5E r = R := ⟨_, rfl⟩
  rw [hR]
  have HRes := Lib.hid hR
  have m6 : (r.f6.length : Int) ≤ 1000000000 := by have := hF.texts2; omega
  have m5 : (r.f5.length : Int) ≤ 1000000000 := by have := hF.names; omega
  have m4 : (r.f4.length : Int) ≤ 1000000000 := by have := hF.len4; omega
  clear g4 g5 g6 hF hR
  go_enter Try.func53, Try.ntmps53
  go_wp2_with (((with_reducible refine gate_dst (N := 1) rfl ?_); refine box_event rfl (N := 1) rfl (cs := #[.string r.f0, .int .u16 r.f1, .int .u16 r.f2, .int .u32 r.f3, .slice A4 r.f4.length c4, .slice A5 r.f5.length c5, .slice A6 r.f6.length c6]) (t := 44) (by first | (go_simp; done) | (go_simp; rfl)) ?_; intro g hg w1 hbox hb); have HX := Aside0.mk hbox; have HB := Aside0.mk hb; have HGe := Aside0.mk hg; clear hb hg; have z0 : w1.cell? ⟨g, 0, none⟩ = some (.string r.f0) := (blk_cell HX.out 0).trans rfl; clear hbox; have z1 : w1.cell? ⟨g, 1, none⟩ = some (.int .u16 r.f1) := (blk_cell HX.out 1).trans rfl; have z2 : w1.cell? ⟨g, 2, none⟩ = some (.int .u16 r.f2) := (blk_cell HX.out 2).trans rfl; have z3 : w1.cell? ⟨g, 3, none⟩ = some (.int .u32 r.f3) := (blk_cell HX.out 3).trans rfl; have z4 : w1.cell? ⟨g, 4, none⟩ = some (.slice A4 r.f4.length c4) := (blk_cell HX.out 4).trans rfl; have z5 : w1.cell? ⟨g, 5, none⟩ = some (.slice A5 r.f5.length c5) := (blk_cell HX.out 5).trans rfl; have z6 : w1.cell? ⟨g, 6, none⟩ = some (.slice A6 r.f6.length c6) := (blk_cell HX.out 6).trans rfl)
  go_loopg [4, 5] r.f6.length (fun kq v4 v5 w' => ∃ k : Nat, v5 = .int .i64 k ∧ v4 = .int .i64 (txN r k : Nat) ∧ Aside0 (kq + k = r.f6.length) ∧ Aside0 (txN r k ≤ 65535) ∧ w1 = w')
  case atStart => exact ⟨0, rfl, by rw [txN_zero]; rfl, ⟨rfl⟩, ⟨by rw [txN_zero]; omega⟩, rfl⟩
  case round =>
    obtain ⟨k, rfl, rfl, HK, HT, rfl⟩ := hrel
    cases gk with
    | zero =>
      obtain rfl : k = r.f6.length := by have := HK.out; omega
      have HTot := Lib.hid (show ¬ 65535 < total r by have := HT.out; rw [txN_end] at this; omega)
      have HBr := Aside0.mk (Below.refl w1.heap.size w1)
      have HXr := HX
      have HBt := HB
      clear HT HK
      by_cases k6 : r.f1 = 6
      · have K6 := Lib.hid k6
        have e6 : (r.f1 != 6) = false := by rw [bne_eq_false_iff_eq]; exact k6
        have e7 : (r.f1 == 6) = true := beq_iff_eq.mpr k6
        obtain ⟨ac, hac⟩ : ∃ ac : List Int, ac = [] := ⟨_, rfl⟩
        have HAcc := Lib.hid (show ac.length ≤ 10 by rw [hac]; simp)
        have hs0 : (⟨#[]⟩ : ByteArray) = strOfNums ac := by rw [hac]; rfl
        have HS0 := Lib.hid hs0
        have HAq := Lib.hid hac
        clear hac hs0
        clear k6
        go_wp2
        rw [HS0.out]
        go_loopg [6, 7] 1 (fun kq v6 v w' => v6 = .string (strOfNums ac) ∧ v = .int .i64 0 ∧ Aside0 (Below w1.heap.size w1 w'))
        case atStart => exact ⟨rfl, rfl, HBr⟩
        case round =>
          clear HBr HXr HBt z0 z1 z2 z3 z4 z5 z6
          obtain ⟨rfl, rfl, HBr⟩ := hrel
          have HXr := Aside0.mk (blk_below HX.out HBr.out)
          have HBt := Aside0.mk (HB.out.trans (HBr.out.mono (below_size HB.out)))
          have z0 : wr.cell? ⟨g, 0, none⟩ = some (.string r.f0) := (blk_cell HXr.out 0).trans rfl
          have z1 : wr.cell? ⟨g, 1, none⟩ = some (.int .u16 r.f1) := (blk_cell HXr.out 1).trans rfl
          have z2 : wr.cell? ⟨g, 2, none⟩ = some (.int .u16 r.f2) := (blk_cell HXr.out 2).trans rfl
          have z3 : wr.cell? ⟨g, 3, none⟩ = some (.int .u32 r.f3) := (blk_cell HXr.out 3).trans rfl
          have z4 : wr.cell? ⟨g, 4, none⟩ = some (.slice A4 r.f4.length c4) := (blk_cell HXr.out 4).trans rfl
          have z5 : wr.cell? ⟨g, 5, none⟩ = some (.slice A5 r.f5.length c5) := (blk_cell HXr.out 5).trans rfl
          have z6 : wr.cell? ⟨g, 6, none⟩ = some (.slice A6 r.f6.length c6) := (blk_cell HXr.out 6).trans rfl
          by_cases c0 : 0 < r.f5.length
          · have c1 : decide ((0 : Int) < (r.f5.length : Int)) = true := decide_eq_true (by omega)
            have c2 : decide (0 < r.f5.length) = true := decide_eq_true c0
            clear c0
            go_wp2
            go_loopg [6, 8] r.f4.length (fun kq v6 v w' => ∃ k : Nat, v = .int .i64 k ∧ v6 = .string (sAcc ac r.f4 (bytesOf) k) ∧ Aside0 (kq + k = r.f4.length) ∧ Aside0 (Below w1.heap.size w1 w'))
            case atStart => exact ⟨0, rfl, by rw [sAcc_zero], ⟨rfl⟩, HBr⟩
            case round =>
              clear HBr HXr HBt z0 z1 z2 z3 z4 z5 z6
              obtain ⟨k, rfl, rfl, HK, HBr⟩ := hrel
              have HXr := Aside0.mk (blk_below HX.out HBr.out)
              have HBt := Aside0.mk (HB.out.trans (HBr.out.mono (below_size HB.out)))
              have z0 : wr.cell? ⟨g, 0, none⟩ = some (.string r.f0) := (blk_cell HXr.out 0).trans rfl
              have z1 : wr.cell? ⟨g, 1, none⟩ = some (.int .u16 r.f1) := (blk_cell HXr.out 1).trans rfl
              have z2 : wr.cell? ⟨g, 2, none⟩ = some (.int .u16 r.f2) := (blk_cell HXr.out 2).trans rfl
              have z3 : wr.cell? ⟨g, 3, none⟩ = some (.int .u32 r.f3) := (blk_cell HXr.out 3).trans rfl
              have z4 : wr.cell? ⟨g, 4, none⟩ = some (.slice A4 r.f4.length c4) := (blk_cell HXr.out 4).trans rfl
              have z5 : wr.cell? ⟨g, 5, none⟩ = some (.slice A5 r.f5.length c5) := (blk_cell HXr.out 5).trans rfl
              have z6 : wr.cell? ⟨g, 6, none⟩ = some (.slice A6 r.f6.length c6) := (blk_cell HXr.out 6).trans rfl
              cases gk with
              | zero =>
                obtain rfl : k = r.f4.length := by have := HK.out; omega
                have HS2 := Lib.hid (sAcc_end ac r.f4 bytesOf)
                go_wp2
                rw [HS2.out]
                obtain ⟨ac, hac2⟩ : ∃ ac2, ac ++ r.f4.flatMap (bytesOf) = ac2 := ⟨_, rfl⟩
                rw [hac2]
                have HAcc := Lib.hid (show ac.length ≤ 5000000000 by
                  rw [← hac2, List.length_append]
                  have h1 := nums_le r.f5 r.f5.length 4
                  have h1' := nums_le r.f5 r.f5.length 2
                  have h4 := names_le r.f4 r.f4.length
                  rw [List.take_length] at h1 h1' h4
                  have h2 := HF.out.names
                  have h3 := HAcc.out
                  omega)
                have HAq := Lib.hid (hac2.symm.trans (congrArg (fun x => x ++ r.f4.flatMap (bytesOf)) HAq.out))
                clear hac2 HS2
                go_loopg [6, 9] r.f5.length (fun kq v6 v w' => ∃ k : Nat, v = .int .i64 k ∧ v6 = .string (sAcc ac r.f5 (fun n => putL n 4) k) ∧ Aside0 (kq + k = r.f5.length) ∧ Aside0 (Below w1.heap.size w1 w'))
                case atStart => exact ⟨0, rfl, by rw [sAcc_zero], ⟨rfl⟩, HBr⟩
                case round =>
                  clear HBr HXr HBt z0 z1 z2 z3 z4 z5 z6
                  obtain ⟨k, rfl, rfl, HK, HBr⟩ := hrel
                  have HXr := Aside0.mk (blk_below HX.out HBr.out)
                  have HBt := Aside0.mk (HB.out.trans (HBr.out.mono (below_size HB.out)))
                  have z0 : wr.cell? ⟨g, 0, none⟩ = some (.string r.f0) := (blk_cell HXr.out 0).trans rfl
                  have z1 : wr.cell? ⟨g, 1, none⟩ = some (.int .u16 r.f1) := (blk_cell HXr.out 1).trans rfl
                  have z2 : wr.cell? ⟨g, 2, none⟩ = some (.int .u16 r.f2) := (blk_cell HXr.out 2).trans rfl
                  have z3 : wr.cell? ⟨g, 3, none⟩ = some (.int .u32 r.f3) := (blk_cell HXr.out 3).trans rfl
                  have z4 : wr.cell? ⟨g, 4, none⟩ = some (.slice A4 r.f4.length c4) := (blk_cell HXr.out 4).trans rfl
                  have z5 : wr.cell? ⟨g, 5, none⟩ = some (.slice A5 r.f5.length c5) := (blk_cell HXr.out 5).trans rfl
                  have z6 : wr.cell? ⟨g, 6, none⟩ = some (.slice A6 r.f6.length c6) := (blk_cell HXr.out 6).trans rfl
                  cases gk with
                  | zero =>
                    obtain rfl : k = r.f5.length := by have := HK.out; omega
                    have HS2 := Lib.hid (sAcc_end ac r.f5 (fun n => putL n 4))
                    go_wp2
                    rw [HS2.out]
                    obtain ⟨ac, hac2⟩ : ∃ ac2, ac ++ r.f5.flatMap (fun n => putL n 4) = ac2 := ⟨_, rfl⟩
                    rw [hac2]
                    have HAcc := Lib.hid (show ac.length ≤ 9900000000 by
                      rw [← hac2, List.length_append]
                      have h1 := nums_le r.f5 r.f5.length 4
                      have h1' := nums_le r.f5 r.f5.length 2
                      have h4 := names_le r.f4 r.f4.length
                      rw [List.take_length] at h1 h1' h4
                      have h2 := HF.out.names
                      have h3 := HAcc.out
                      omega)
                    have HAq := Lib.hid (hac2.symm.trans (congrArg (fun x => x ++ r.f5.flatMap (fun n => putL n 4)) HAq.out))
                    clear hac2 HS2
                    go_loopg [6, 10] r.f6.length (fun kq v6 v w' => ∃ k : Nat, v = .int .i64 k ∧ v6 = .string (sAcc ac r.f6 (textL r) k) ∧ Aside0 (kq + k = r.f6.length) ∧ Aside0 (Below w1.heap.size w1 w'))
                    case atStart => exact ⟨0, rfl, by rw [sAcc_zero], ⟨rfl⟩, HBr⟩
                    case round =>
                      clear HBr HXr HBt z0 z1 z2 z3 z4 z5 z6
                      obtain ⟨k, rfl, rfl, HK, HBr⟩ := hrel
                      have HXr := Aside0.mk (blk_below HX.out HBr.out)
                      have HBt := Aside0.mk (HB.out.trans (HBr.out.mono (below_size HB.out)))
                      have z0 : wr.cell? ⟨g, 0, none⟩ = some (.string r.f0) := (blk_cell HXr.out 0).trans rfl
                      have z1 : wr.cell? ⟨g, 1, none⟩ = some (.int .u16 r.f1) := (blk_cell HXr.out 1).trans rfl
                      have z2 : wr.cell? ⟨g, 2, none⟩ = some (.int .u16 r.f2) := (blk_cell HXr.out 2).trans rfl
                      have z3 : wr.cell? ⟨g, 3, none⟩ = some (.int .u32 r.f3) := (blk_cell HXr.out 3).trans rfl
                      have z4 : wr.cell? ⟨g, 4, none⟩ = some (.slice A4 r.f4.length c4) := (blk_cell HXr.out 4).trans rfl
                      have z5 : wr.cell? ⟨g, 5, none⟩ = some (.slice A5 r.f5.length c5) := (blk_cell HXr.out 5).trans rfl
                      have z6 : wr.cell? ⟨g, 6, none⟩ = some (.slice A6 r.f6.length c6) := (blk_cell HXr.out 6).trans rfl
                      cases gk with
                      | zero =>
                        obtain rfl : k = r.f6.length := by have := HK.out; omega
                        have HS2 := Lib.hid (sAcc_end ac r.f6 (textL r))
                        go_wp2
                        go_ret2
                        exact ⟨by rw [← HRes.out]; unfold plain5E; rw [if_neg HTot.out, plainL_six K6.out, HS2.out, HAq.out]; simp, HBt.out⟩
                      | succ j =>
                        have hk : k < r.f6.length := by have := HK.out; omega
                        obtain ⟨ad, rfl, hcell⟩ := at_str (Kd.C_below G6.out HBt.out) k hk
                        have q1 : (0 : Int) ≤ (k : Int) := by omega
                        have q2 : (k : Int) < (r.f6.length : Int) := by omega
                        have HE1 := Lib.hid (sAcc_next ac r.f6 (textL r) ⟨#[]⟩ k hk)
                        have htot := txN_le r (k + 1)
                        rw [txN_next r k hk] at htot
                        have HLn := Lib.hid (show (sAcc ac r.f6 (textL r) k).size ≤ 1000000000000 by
                          unfold sAcc
                          rw [strOfNums_size, List.length_append]
                          have h1 := txN_le r k
                          unfold txN at h1
                          have h2 := HTot.out
                          have h3 := HAcc.out
                          omega)
                        obtain ⟨s, hs⟩ : ∃ s, r.f6.getD k ⟨#[]⟩ = s := ⟨_, rfl⟩
                        rw [hs] at HE1 hcell htot
                        obtain ⟨sa, hsa⟩ : ∃ sa, sAcc ac r.f6 (textL r) k = sa := ⟨_, rfl⟩
                        rw [hsa] at HE1 HLn ⊢
                        have HSz := Lib.hid (show s.size ≤ 65535 by have := HTot.out; omega)
                        have q3 : (s.size : Int) ≤ 65535 := by have := HSz.out; omega
                        have hlne : ¬ g = wr.heap.size := Nat.ne_of_lt (blk_lt HXr.out)
                        have hza : ∀ o, (wr.alloc o).cell? ⟨g, 6, none⟩ = some (.slice (some ad) r.f6.length c6) := fun o => pw_cell_below (below_alloc (Below.refl _ _) o) z6
                        have hca : ∀ o, (wr.alloc o).cell? (ad.add k) = some (.string s) := fun o => pw_cell_below (below_alloc (Below.refl _ _) o) hcell
                        clear hs htot hsa
                        by_cases k16 : r.f1 = 16
                        · have e16 : (r.f1 == 16) = true := beq_iff_eq.mpr k16
                          have hu : IntKind.u8.wrap (s.size : Int) = (s.size : Int) % 256 := by rw [IntKind.wrap_u8]
                          have hcv := fun W => one_byte W ((s.size : Int) % 256)
                          have hadd1 := fun W => run_string_add_sum (P := Try.prog) W sa (strOfNums [(s.size : Int) % 256]) (by rw [strOfNums_size]; have := HLn.out; simp; omega)
                          have hadd2 := fun W => run_string_add_sum (P := Try.prog) W (sa ++ strOfNums [(s.size : Int) % 256]) s (by rw [ByteArray.size_append, strOfNums_size]; have := HLn.out; have := HSz.out; simp; omega)
                          have HT := Lib.hid (show sa ++ strOfNums [(s.size : Int) % 256] ++ s = sAcc ac r.f6 (textL r) (k + 1) by
                            rw [← HE1.out]
                            unfold textL
                            rw [if_pos k16, ← str_app, str_of, ByteArray.append_assoc])
                          clear k16
                          go_wp2
                          go_roundg j
                          case measure => omega
                          case rel => exact ⟨k + 1, by go_num, by rw [← HT.out], ⟨by have := HK.out; omega⟩, ⟨below_alloc HBr.out _⟩⟩
                        · have e16 : (r.f1 == 16) = false := beq_eq_false_iff_ne.mpr k16
                          have hadd2 := fun W => run_string_add_sum (P := Try.prog) W sa s (by have := HLn.out; have := HSz.out; omega)
                          have HT := Lib.hid (show sa ++ s = sAcc ac r.f6 (textL r) (k + 1) by
                            rw [← HE1.out]
                            unfold textL
                            rw [if_neg k16, List.nil_append, str_of])
                          clear k16
                          go_wp2
                          go_roundg j
                          case measure => omega
                          case rel => exact ⟨k + 1, by go_num, by rw [← HT.out], ⟨by have := HK.out; omega⟩, HBr⟩
                  | succ j =>
                    have hk : k < r.f5.length := by have := HK.out; omega
                    obtain ⟨ad, rfl, hcell⟩ := at_int (Kd.C_below G5.out HBt.out) k hk
                    have q1 : (0 : Int) ≤ (k : Int) := by omega
                    have q2 : (k : Int) < (r.f5.length : Int) := by omega
                    obtain ⟨n0, n1⟩ := HF.out.wf k hk
                    have HE1 := Lib.hid (sAcc_next ac r.f5 (fun n => putL n 4) 0 k hk)
                    have HLn := Lib.hid (show (sAcc ac r.f5 (fun n => putL n 4) k).size ≤ 1000000000000 by
                      unfold sAcc
                      rw [strOfNums_size, List.length_append]
                      have h1 := nums_le r.f5 k 4
                      have h2 := HF.out.names
                      have h3 := HAcc.out
                      omega)
                    obtain ⟨n, hn⟩ : ∃ n, r.f5.getD k 0 = n := ⟨_, rfl⟩
                    rw [hn] at n0 n1 HE1 hcell
                    clear hn
                    go_wp2_with fail
                    refine (Put5_calls _ n 4 _ HLn.out n0 n1 (by decide)).mono ?_
                    rintro e w' ⟨rfl, hb⟩
                    have HBn := Aside0.mk (HBr.out.trans (hb.mono HBr.out.size))
                    clear hb
                    go_wp2_with fail
                    go_roundg j
                    case measure => omega
                    case rel => exact ⟨k + 1, by go_num, by rw [HE1.out], ⟨by have := HK.out; omega⟩, HBn⟩
              | succ j =>
                have hk : k < r.f4.length := by have := HK.out; omega
                obtain ⟨ad, rfl, hcell⟩ := at_str (Kd.C_below G4.out HBt.out) k hk
                have q1 : (0 : Int) ≤ (k : Int) := by omega
                have q2 : (k : Int) < (r.f4.length : Int) := by omega
                have HE1 := Lib.hid (sAcc_next ac r.f4 bytesOf ⟨#[]⟩ k hk)
                have HSn := Lib.hid (flat_snoc ⟨#[]⟩ bytesOf r.f4 k hk)
                have hsz : (r.f4.getD k ⟨#[]⟩).size ≤ 1000000000 := by
                  have h1 := names_le r.f4 (k + 1)
                  rw [HSn.out, List.length_append, bytesOf_length] at h1
                  have h2 := HF.out.names
                  omega
                have HLn := Lib.hid (show (sAcc ac r.f4 bytesOf k).size ≤ 1000000000000 by
                  unfold sAcc
                  rw [strOfNums_size, List.length_append]
                  have h1 := names_le r.f4 k
                  have h2 := HF.out.names
                  have h3 := HAcc.out
                  omega)
                obtain ⟨s, hs⟩ : ∃ s, r.f4.getD k ⟨#[]⟩ = s := ⟨_, rfl⟩
                rw [hs, str_of] at HE1
                rw [hs] at hcell hsz
                have hadd := fun W => run_string_add_sum (P := Try.prog) W (sAcc ac r.f4 bytesOf k) s (by have := HLn.out; omega)
                clear hs HSn
                go_wp2
                go_roundg j
                case measure => omega
                case rel => exact ⟨k + 1, by go_num, by rw [HE1.out], ⟨by have := HK.out; omega⟩, HBr⟩
          · have c1 : decide ((0 : Int) < (r.f5.length : Int)) = false := decide_eq_false (by omega)
            have c2 : decide (0 < r.f5.length) = false := decide_eq_false c0
            clear c0
            go_wp2
            go_loopg [6, 8] r.f4.length (fun kq v6 v w' => ∃ k : Nat, v = .int .i64 k ∧ v6 = .string (sAcc ac r.f4 (bytesOf) k) ∧ Aside0 (kq + k = r.f4.length) ∧ Aside0 (Below w1.heap.size w1 w'))
            case atStart => exact ⟨0, rfl, by rw [sAcc_zero], ⟨rfl⟩, HBr⟩
            case round =>
              clear HBr HXr HBt z0 z1 z2 z3 z4 z5 z6
              obtain ⟨k, rfl, rfl, HK, HBr⟩ := hrel
              have HXr := Aside0.mk (blk_below HX.out HBr.out)
              have HBt := Aside0.mk (HB.out.trans (HBr.out.mono (below_size HB.out)))
              have z0 : wr.cell? ⟨g, 0, none⟩ = some (.string r.f0) := (blk_cell HXr.out 0).trans rfl
              have z1 : wr.cell? ⟨g, 1, none⟩ = some (.int .u16 r.f1) := (blk_cell HXr.out 1).trans rfl
              have z2 : wr.cell? ⟨g, 2, none⟩ = some (.int .u16 r.f2) := (blk_cell HXr.out 2).trans rfl
              have z3 : wr.cell? ⟨g, 3, none⟩ = some (.int .u32 r.f3) := (blk_cell HXr.out 3).trans rfl
              have z4 : wr.cell? ⟨g, 4, none⟩ = some (.slice A4 r.f4.length c4) := (blk_cell HXr.out 4).trans rfl
              have z5 : wr.cell? ⟨g, 5, none⟩ = some (.slice A5 r.f5.length c5) := (blk_cell HXr.out 5).trans rfl
              have z6 : wr.cell? ⟨g, 6, none⟩ = some (.slice A6 r.f6.length c6) := (blk_cell HXr.out 6).trans rfl
              cases gk with
              | zero =>
                obtain rfl : k = r.f4.length := by have := HK.out; omega
                have HS2 := Lib.hid (sAcc_end ac r.f4 bytesOf)
                go_wp2
                rw [HS2.out]
                obtain ⟨ac, hac2⟩ : ∃ ac2, ac ++ r.f4.flatMap (bytesOf) = ac2 := ⟨_, rfl⟩
                rw [hac2]
                have HAcc := Lib.hid (show ac.length ≤ 5000000000 by
                  rw [← hac2, List.length_append]
                  have h1 := nums_le r.f5 r.f5.length 4
                  have h1' := nums_le r.f5 r.f5.length 2
                  have h4 := names_le r.f4 r.f4.length
                  rw [List.take_length] at h1 h1' h4
                  have h2 := HF.out.names
                  have h3 := HAcc.out
                  omega)
                have HAq := Lib.hid (hac2.symm.trans (congrArg (fun x => x ++ r.f4.flatMap (bytesOf)) HAq.out))
                clear hac2 HS2
                go_loopg [6, 9] r.f5.length (fun kq v6 v w' => ∃ k : Nat, v = .int .i64 k ∧ v6 = .string (sAcc ac r.f5 (fun n => putL n 4) k) ∧ Aside0 (kq + k = r.f5.length) ∧ Aside0 (Below w1.heap.size w1 w'))
                case atStart => exact ⟨0, rfl, by rw [sAcc_zero], ⟨rfl⟩, HBr⟩
                case round =>
                  clear HBr HXr HBt z0 z1 z2 z3 z4 z5 z6
                  obtain ⟨k, rfl, rfl, HK, HBr⟩ := hrel
                  have HXr := Aside0.mk (blk_below HX.out HBr.out)
                  have HBt := Aside0.mk (HB.out.trans (HBr.out.mono (below_size HB.out)))
                  have z0 : wr.cell? ⟨g, 0, none⟩ = some (.string r.f0) := (blk_cell HXr.out 0).trans rfl
                  have z1 : wr.cell? ⟨g, 1, none⟩ = some (.int .u16 r.f1) := (blk_cell HXr.out 1).trans rfl
                  have z2 : wr.cell? ⟨g, 2, none⟩ = some (.int .u16 r.f2) := (blk_cell HXr.out 2).trans rfl
                  have z3 : wr.cell? ⟨g, 3, none⟩ = some (.int .u32 r.f3) := (blk_cell HXr.out 3).trans rfl
                  have z4 : wr.cell? ⟨g, 4, none⟩ = some (.slice A4 r.f4.length c4) := (blk_cell HXr.out 4).trans rfl
                  have z5 : wr.cell? ⟨g, 5, none⟩ = some (.slice A5 r.f5.length c5) := (blk_cell HXr.out 5).trans rfl
                  have z6 : wr.cell? ⟨g, 6, none⟩ = some (.slice A6 r.f6.length c6) := (blk_cell HXr.out 6).trans rfl
                  cases gk with
                  | zero =>
                    obtain rfl : k = r.f5.length := by have := HK.out; omega
                    have HS2 := Lib.hid (sAcc_end ac r.f5 (fun n => putL n 4))
                    go_wp2
                    rw [HS2.out]
                    obtain ⟨ac, hac2⟩ : ∃ ac2, ac ++ r.f5.flatMap (fun n => putL n 4) = ac2 := ⟨_, rfl⟩
                    rw [hac2]
                    have HAcc := Lib.hid (show ac.length ≤ 9900000000 by
                      rw [← hac2, List.length_append]
                      have h1 := nums_le r.f5 r.f5.length 4
                      have h1' := nums_le r.f5 r.f5.length 2
                      have h4 := names_le r.f4 r.f4.length
                      rw [List.take_length] at h1 h1' h4
                      have h2 := HF.out.names
                      have h3 := HAcc.out
                      omega)
                    have HAq := Lib.hid (hac2.symm.trans (congrArg (fun x => x ++ r.f5.flatMap (fun n => putL n 4)) HAq.out))
                    clear hac2 HS2
                    go_loopg [6, 10] r.f6.length (fun kq v6 v w' => ∃ k : Nat, v = .int .i64 k ∧ v6 = .string (sAcc ac r.f6 (textL r) k) ∧ Aside0 (kq + k = r.f6.length) ∧ Aside0 (Below w1.heap.size w1 w'))
                    case atStart => exact ⟨0, rfl, by rw [sAcc_zero], ⟨rfl⟩, HBr⟩
                    case round =>
                      clear HBr HXr HBt z0 z1 z2 z3 z4 z5 z6
                      obtain ⟨k, rfl, rfl, HK, HBr⟩ := hrel
                      have HXr := Aside0.mk (blk_below HX.out HBr.out)
                      have HBt := Aside0.mk (HB.out.trans (HBr.out.mono (below_size HB.out)))
                      have z0 : wr.cell? ⟨g, 0, none⟩ = some (.string r.f0) := (blk_cell HXr.out 0).trans rfl
                      have z1 : wr.cell? ⟨g, 1, none⟩ = some (.int .u16 r.f1) := (blk_cell HXr.out 1).trans rfl
                      have z2 : wr.cell? ⟨g, 2, none⟩ = some (.int .u16 r.f2) := (blk_cell HXr.out 2).trans rfl
                      have z3 : wr.cell? ⟨g, 3, none⟩ = some (.int .u32 r.f3) := (blk_cell HXr.out 3).trans rfl
                      have z4 : wr.cell? ⟨g, 4, none⟩ = some (.slice A4 r.f4.length c4) := (blk_cell HXr.out 4).trans rfl
                      have z5 : wr.cell? ⟨g, 5, none⟩ = some (.slice A5 r.f5.length c5) := (blk_cell HXr.out 5).trans rfl
                      have z6 : wr.cell? ⟨g, 6, none⟩ = some (.slice A6 r.f6.length c6) := (blk_cell HXr.out 6).trans rfl
                      cases gk with
                      | zero =>
                        obtain rfl : k = r.f6.length := by have := HK.out; omega
                        have HS2 := Lib.hid (sAcc_end ac r.f6 (textL r))
                        go_wp2
                        go_ret2
                        exact ⟨by rw [← HRes.out]; unfold plain5E; rw [if_neg HTot.out, plainL_six K6.out, HS2.out, HAq.out]; simp, HBt.out⟩
                      | succ j =>
                        have hk : k < r.f6.length := by have := HK.out; omega
                        obtain ⟨ad, rfl, hcell⟩ := at_str (Kd.C_below G6.out HBt.out) k hk
                        have q1 : (0 : Int) ≤ (k : Int) := by omega
                        have q2 : (k : Int) < (r.f6.length : Int) := by omega
                        have HE1 := Lib.hid (sAcc_next ac r.f6 (textL r) ⟨#[]⟩ k hk)
                        have htot := txN_le r (k + 1)
                        rw [txN_next r k hk] at htot
                        have HLn := Lib.hid (show (sAcc ac r.f6 (textL r) k).size ≤ 1000000000000 by
                          unfold sAcc
                          rw [strOfNums_size, List.length_append]
                          have h1 := txN_le r k
                          unfold txN at h1
                          have h2 := HTot.out
                          have h3 := HAcc.out
                          omega)
                        obtain ⟨s, hs⟩ : ∃ s, r.f6.getD k ⟨#[]⟩ = s := ⟨_, rfl⟩
                        rw [hs] at HE1 hcell htot
                        obtain ⟨sa, hsa⟩ : ∃ sa, sAcc ac r.f6 (textL r) k = sa := ⟨_, rfl⟩
                        rw [hsa] at HE1 HLn ⊢
                        have HSz := Lib.hid (show s.size ≤ 65535 by have := HTot.out; omega)
                        have q3 : (s.size : Int) ≤ 65535 := by have := HSz.out; omega
                        have hlne : ¬ g = wr.heap.size := Nat.ne_of_lt (blk_lt HXr.out)
                        have hza : ∀ o, (wr.alloc o).cell? ⟨g, 6, none⟩ = some (.slice (some ad) r.f6.length c6) := fun o => pw_cell_below (below_alloc (Below.refl _ _) o) z6
                        have hca : ∀ o, (wr.alloc o).cell? (ad.add k) = some (.string s) := fun o => pw_cell_below (below_alloc (Below.refl _ _) o) hcell
                        clear hs htot hsa
                        by_cases k16 : r.f1 = 16
                        · have e16 : (r.f1 == 16) = true := beq_iff_eq.mpr k16
                          have hu : IntKind.u8.wrap (s.size : Int) = (s.size : Int) % 256 := by rw [IntKind.wrap_u8]
                          have hcv := fun W => one_byte W ((s.size : Int) % 256)
                          have hadd1 := fun W => run_string_add_sum (P := Try.prog) W sa (strOfNums [(s.size : Int) % 256]) (by rw [strOfNums_size]; have := HLn.out; simp; omega)
                          have hadd2 := fun W => run_string_add_sum (P := Try.prog) W (sa ++ strOfNums [(s.size : Int) % 256]) s (by rw [ByteArray.size_append, strOfNums_size]; have := HLn.out; have := HSz.out; simp; omega)
                          have HT := Lib.hid (show sa ++ strOfNums [(s.size : Int) % 256] ++ s = sAcc ac r.f6 (textL r) (k + 1) by
                            rw [← HE1.out]
                            unfold textL
                            rw [if_pos k16, ← str_app, str_of, ByteArray.append_assoc])
                          clear k16
                          go_wp2
                          go_roundg j
                          case measure => omega
                          case rel => exact ⟨k + 1, by go_num, by rw [← HT.out], ⟨by have := HK.out; omega⟩, ⟨below_alloc HBr.out _⟩⟩
                        · have e16 : (r.f1 == 16) = false := beq_eq_false_iff_ne.mpr k16
                          have hadd2 := fun W => run_string_add_sum (P := Try.prog) W sa s (by have := HLn.out; have := HSz.out; omega)
                          have HT := Lib.hid (show sa ++ s = sAcc ac r.f6 (textL r) (k + 1) by
                            rw [← HE1.out]
                            unfold textL
                            rw [if_neg k16, List.nil_append, str_of])
                          clear k16
                          go_wp2
                          go_roundg j
                          case measure => omega
                          case rel => exact ⟨k + 1, by go_num, by rw [← HT.out], ⟨by have := HK.out; omega⟩, HBr⟩
                  | succ j =>
                    have hk : k < r.f5.length := by have := HK.out; omega
                    obtain ⟨ad, rfl, hcell⟩ := at_int (Kd.C_below G5.out HBt.out) k hk
                    have q1 : (0 : Int) ≤ (k : Int) := by omega
                    have q2 : (k : Int) < (r.f5.length : Int) := by omega
                    obtain ⟨n0, n1⟩ := HF.out.wf k hk
                    have HE1 := Lib.hid (sAcc_next ac r.f5 (fun n => putL n 4) 0 k hk)
                    have HLn := Lib.hid (show (sAcc ac r.f5 (fun n => putL n 4) k).size ≤ 1000000000000 by
                      unfold sAcc
                      rw [strOfNums_size, List.length_append]
                      have h1 := nums_le r.f5 k 4
                      have h2 := HF.out.names
                      have h3 := HAcc.out
                      omega)
                    obtain ⟨n, hn⟩ : ∃ n, r.f5.getD k 0 = n := ⟨_, rfl⟩
                    rw [hn] at n0 n1 HE1 hcell
                    clear hn
                    go_wp2_with fail
                    refine (Put5_calls _ n 4 _ HLn.out n0 n1 (by decide)).mono ?_
                    rintro e w' ⟨rfl, hb⟩
                    have HBn := Aside0.mk (HBr.out.trans (hb.mono HBr.out.size))
                    clear hb
                    go_wp2_with fail
                    go_roundg j
                    case measure => omega
                    case rel => exact ⟨k + 1, by go_num, by rw [HE1.out], ⟨by have := HK.out; omega⟩, HBn⟩
              | succ j =>
                have hk : k < r.f4.length := by have := HK.out; omega
                obtain ⟨ad, rfl, hcell⟩ := at_str (Kd.C_below G4.out HBt.out) k hk
                have q1 : (0 : Int) ≤ (k : Int) := by omega
                have q2 : (k : Int) < (r.f4.length : Int) := by omega
                have HE1 := Lib.hid (sAcc_next ac r.f4 bytesOf ⟨#[]⟩ k hk)
                have HSn := Lib.hid (flat_snoc ⟨#[]⟩ bytesOf r.f4 k hk)
                have hsz : (r.f4.getD k ⟨#[]⟩).size ≤ 1000000000 := by
                  have h1 := names_le r.f4 (k + 1)
                  rw [HSn.out, List.length_append, bytesOf_length] at h1
                  have h2 := HF.out.names
                  omega
                have HLn := Lib.hid (show (sAcc ac r.f4 bytesOf k).size ≤ 1000000000000 by
                  unfold sAcc
                  rw [strOfNums_size, List.length_append]
                  have h1 := names_le r.f4 k
                  have h2 := HF.out.names
                  have h3 := HAcc.out
                  omega)
                obtain ⟨s, hs⟩ : ∃ s, r.f4.getD k ⟨#[]⟩ = s := ⟨_, rfl⟩
                rw [hs, str_of] at HE1
                rw [hs] at hcell hsz
                have hadd := fun W => run_string_add_sum (P := Try.prog) W (sAcc ac r.f4 bytesOf k) s (by have := HLn.out; omega)
                clear hs HSn
                go_wp2
                go_roundg j
                case measure => omega
                case rel => exact ⟨k + 1, by go_num, by rw [HE1.out], ⟨by have := HK.out; omega⟩, HBr⟩
      · have K6 := Lib.hid k6
        have e6 : (r.f1 != 6) = true := by rw [bne_iff_ne]; exact k6
        have e7 : (r.f1 == 6) = false := beq_eq_false_iff_ne.mpr k6
        obtain ⟨ac, hac⟩ : ∃ ac : List Int, ac = [] := ⟨_, rfl⟩
        have HAcc := Lib.hid (show ac.length ≤ 10 by rw [hac]; simp)
        have hs0 : (⟨#[]⟩ : ByteArray) = strOfNums ac := by rw [hac]; rfl
        have HS0 := Lib.hid hs0
        have HAq := Lib.hid hac
        clear hac hs0
        clear k6
        go_wp2
        rw [HS0.out]
        go_loopg [6, 7] r.f5.length (fun kq v6 v w' => ∃ k : Nat, v = .int .i64 k ∧ v6 = .string (sAcc ac r.f5 (fun n => putL n 2) k) ∧ Aside0 (kq + k = r.f5.length) ∧ Aside0 (Below w1.heap.size w1 w'))
        case atStart => exact ⟨0, rfl, by rw [sAcc_zero], ⟨rfl⟩, HBr⟩
        case round =>
          clear HBr HXr HBt z0 z1 z2 z3 z4 z5 z6
          obtain ⟨k, rfl, rfl, HK, HBr⟩ := hrel
          have HXr := Aside0.mk (blk_below HX.out HBr.out)
          have HBt := Aside0.mk (HB.out.trans (HBr.out.mono (below_size HB.out)))
          have z0 : wr.cell? ⟨g, 0, none⟩ = some (.string r.f0) := (blk_cell HXr.out 0).trans rfl
          have z1 : wr.cell? ⟨g, 1, none⟩ = some (.int .u16 r.f1) := (blk_cell HXr.out 1).trans rfl
          have z2 : wr.cell? ⟨g, 2, none⟩ = some (.int .u16 r.f2) := (blk_cell HXr.out 2).trans rfl
          have z3 : wr.cell? ⟨g, 3, none⟩ = some (.int .u32 r.f3) := (blk_cell HXr.out 3).trans rfl
          have z4 : wr.cell? ⟨g, 4, none⟩ = some (.slice A4 r.f4.length c4) := (blk_cell HXr.out 4).trans rfl
          have z5 : wr.cell? ⟨g, 5, none⟩ = some (.slice A5 r.f5.length c5) := (blk_cell HXr.out 5).trans rfl
          have z6 : wr.cell? ⟨g, 6, none⟩ = some (.slice A6 r.f6.length c6) := (blk_cell HXr.out 6).trans rfl
          cases gk with
          | zero =>
            obtain rfl : k = r.f5.length := by have := HK.out; omega
            have HS2 := Lib.hid (sAcc_end ac r.f5 (fun n => putL n 2))
            go_wp2
            rw [HS2.out]
            obtain ⟨ac, hac2⟩ : ∃ ac2, ac ++ r.f5.flatMap (fun n => putL n 2) = ac2 := ⟨_, rfl⟩
            rw [hac2]
            have HAcc := Lib.hid (show ac.length ≤ 5000000000 by
              rw [← hac2, List.length_append]
              have h1 := nums_le r.f5 r.f5.length 4
              have h1' := nums_le r.f5 r.f5.length 2
              have h4 := names_le r.f4 r.f4.length
              rw [List.take_length] at h1 h1' h4
              have h2 := HF.out.names
              have h3 := HAcc.out
              omega)
            have HAq := Lib.hid (hac2.symm.trans (congrArg (fun x => x ++ r.f5.flatMap (fun n => putL n 2)) HAq.out))
            clear hac2 HS2
            go_loopg [6, 8] r.f4.length (fun kq v6 v w' => ∃ k : Nat, v = .int .i64 k ∧ v6 = .string (sAcc ac r.f4 (bytesOf) k) ∧ Aside0 (kq + k = r.f4.length) ∧ Aside0 (Below w1.heap.size w1 w'))
            case atStart => exact ⟨0, rfl, by rw [sAcc_zero], ⟨rfl⟩, HBr⟩
            case round =>
              clear HBr HXr HBt z0 z1 z2 z3 z4 z5 z6
              obtain ⟨k, rfl, rfl, HK, HBr⟩ := hrel
              have HXr := Aside0.mk (blk_below HX.out HBr.out)
              have HBt := Aside0.mk (HB.out.trans (HBr.out.mono (below_size HB.out)))
              have z0 : wr.cell? ⟨g, 0, none⟩ = some (.string r.f0) := (blk_cell HXr.out 0).trans rfl
              have z1 : wr.cell? ⟨g, 1, none⟩ = some (.int .u16 r.f1) := (blk_cell HXr.out 1).trans rfl
              have z2 : wr.cell? ⟨g, 2, none⟩ = some (.int .u16 r.f2) := (blk_cell HXr.out 2).trans rfl
              have z3 : wr.cell? ⟨g, 3, none⟩ = some (.int .u32 r.f3) := (blk_cell HXr.out 3).trans rfl
              have z4 : wr.cell? ⟨g, 4, none⟩ = some (.slice A4 r.f4.length c4) := (blk_cell HXr.out 4).trans rfl
              have z5 : wr.cell? ⟨g, 5, none⟩ = some (.slice A5 r.f5.length c5) := (blk_cell HXr.out 5).trans rfl
              have z6 : wr.cell? ⟨g, 6, none⟩ = some (.slice A6 r.f6.length c6) := (blk_cell HXr.out 6).trans rfl
              cases gk with
              | zero =>
                obtain rfl : k = r.f4.length := by have := HK.out; omega
                have HS2 := Lib.hid (sAcc_end ac r.f4 bytesOf)
                go_wp2
                rw [HS2.out]
                obtain ⟨ac, hac2⟩ : ∃ ac2, ac ++ r.f4.flatMap (bytesOf) = ac2 := ⟨_, rfl⟩
                rw [hac2]
                have HAcc := Lib.hid (show ac.length ≤ 9000000000 by
                  rw [← hac2, List.length_append]
                  have h1 := nums_le r.f5 r.f5.length 4
                  have h1' := nums_le r.f5 r.f5.length 2
                  have h4 := names_le r.f4 r.f4.length
                  rw [List.take_length] at h1 h1' h4
                  have h2 := HF.out.names
                  have h3 := HAcc.out
                  omega)
                have HAq := Lib.hid (hac2.symm.trans (congrArg (fun x => x ++ r.f4.flatMap (bytesOf)) HAq.out))
                clear hac2 HS2
                go_loopg [6, 9] 1 (fun kq v6 v w' => v6 = .string (strOfNums ac) ∧ v = .int .i64 0 ∧ Aside0 (Below w1.heap.size w1 w'))
                case atStart => exact ⟨rfl, rfl, HBr⟩
                case round =>
                  clear HBr HXr HBt z0 z1 z2 z3 z4 z5 z6
                  obtain ⟨rfl, rfl, HBr⟩ := hrel
                  have HXr := Aside0.mk (blk_below HX.out HBr.out)
                  have HBt := Aside0.mk (HB.out.trans (HBr.out.mono (below_size HB.out)))
                  have z0 : wr.cell? ⟨g, 0, none⟩ = some (.string r.f0) := (blk_cell HXr.out 0).trans rfl
                  have z1 : wr.cell? ⟨g, 1, none⟩ = some (.int .u16 r.f1) := (blk_cell HXr.out 1).trans rfl
                  have z2 : wr.cell? ⟨g, 2, none⟩ = some (.int .u16 r.f2) := (blk_cell HXr.out 2).trans rfl
                  have z3 : wr.cell? ⟨g, 3, none⟩ = some (.int .u32 r.f3) := (blk_cell HXr.out 3).trans rfl
                  have z4 : wr.cell? ⟨g, 4, none⟩ = some (.slice A4 r.f4.length c4) := (blk_cell HXr.out 4).trans rfl
                  have z5 : wr.cell? ⟨g, 5, none⟩ = some (.slice A5 r.f5.length c5) := (blk_cell HXr.out 5).trans rfl
                  have z6 : wr.cell? ⟨g, 6, none⟩ = some (.slice A6 r.f6.length c6) := (blk_cell HXr.out 6).trans rfl
                  by_cases c0 : 0 < r.f5.length
                  · have c1 : decide ((0 : Int) < (r.f5.length : Int)) = true := decide_eq_true (by omega)
                    have c2 : decide (0 < r.f5.length) = true := decide_eq_true c0
                    clear c0
                    go_wp2
                    go_loopg [6, 10] r.f6.length (fun kq v6 v w' => ∃ k : Nat, v = .int .i64 k ∧ v6 = .string (sAcc ac r.f6 (textL r) k) ∧ Aside0 (kq + k = r.f6.length) ∧ Aside0 (Below w1.heap.size w1 w'))
                    case atStart => exact ⟨0, rfl, by rw [sAcc_zero], ⟨rfl⟩, HBr⟩
                    case round =>
                      clear HBr HXr HBt z0 z1 z2 z3 z4 z5 z6
                      obtain ⟨k, rfl, rfl, HK, HBr⟩ := hrel
                      have HXr := Aside0.mk (blk_below HX.out HBr.out)
                      have HBt := Aside0.mk (HB.out.trans (HBr.out.mono (below_size HB.out)))
                      have z0 : wr.cell? ⟨g, 0, none⟩ = some (.string r.f0) := (blk_cell HXr.out 0).trans rfl
                      have z1 : wr.cell? ⟨g, 1, none⟩ = some (.int .u16 r.f1) := (blk_cell HXr.out 1).trans rfl
                      have z2 : wr.cell? ⟨g, 2, none⟩ = some (.int .u16 r.f2) := (blk_cell HXr.out 2).trans rfl
                      have z3 : wr.cell? ⟨g, 3, none⟩ = some (.int .u32 r.f3) := (blk_cell HXr.out 3).trans rfl
                      have z4 : wr.cell? ⟨g, 4, none⟩ = some (.slice A4 r.f4.length c4) := (blk_cell HXr.out 4).trans rfl
                      have z5 : wr.cell? ⟨g, 5, none⟩ = some (.slice A5 r.f5.length c5) := (blk_cell HXr.out 5).trans rfl
                      have z6 : wr.cell? ⟨g, 6, none⟩ = some (.slice A6 r.f6.length c6) := (blk_cell HXr.out 6).trans rfl
                      cases gk with
                      | zero =>
                        obtain rfl : k = r.f6.length := by have := HK.out; omega
                        have HS2 := Lib.hid (sAcc_end ac r.f6 (textL r))
                        go_wp2
                        go_ret2
                        exact ⟨by rw [← HRes.out]; unfold plain5E; rw [if_neg HTot.out, plainL_not K6.out, HS2.out, HAq.out]; simp, HBt.out⟩
                      | succ j =>
                        have hk : k < r.f6.length := by have := HK.out; omega
                        obtain ⟨ad, rfl, hcell⟩ := at_str (Kd.C_below G6.out HBt.out) k hk
                        have q1 : (0 : Int) ≤ (k : Int) := by omega
                        have q2 : (k : Int) < (r.f6.length : Int) := by omega
                        have HE1 := Lib.hid (sAcc_next ac r.f6 (textL r) ⟨#[]⟩ k hk)
                        have htot := txN_le r (k + 1)
                        rw [txN_next r k hk] at htot
                        have HLn := Lib.hid (show (sAcc ac r.f6 (textL r) k).size ≤ 1000000000000 by
                          unfold sAcc
                          rw [strOfNums_size, List.length_append]
                          have h1 := txN_le r k
                          unfold txN at h1
                          have h2 := HTot.out
                          have h3 := HAcc.out
                          omega)
                        obtain ⟨s, hs⟩ : ∃ s, r.f6.getD k ⟨#[]⟩ = s := ⟨_, rfl⟩
                        rw [hs] at HE1 hcell htot
                        obtain ⟨sa, hsa⟩ : ∃ sa, sAcc ac r.f6 (textL r) k = sa := ⟨_, rfl⟩
                        rw [hsa] at HE1 HLn ⊢
                        have HSz := Lib.hid (show s.size ≤ 65535 by have := HTot.out; omega)
                        have q3 : (s.size : Int) ≤ 65535 := by have := HSz.out; omega
                        have hlne : ¬ g = wr.heap.size := Nat.ne_of_lt (blk_lt HXr.out)
                        have hza : ∀ o, (wr.alloc o).cell? ⟨g, 6, none⟩ = some (.slice (some ad) r.f6.length c6) := fun o => pw_cell_below (below_alloc (Below.refl _ _) o) z6
                        have hca : ∀ o, (wr.alloc o).cell? (ad.add k) = some (.string s) := fun o => pw_cell_below (below_alloc (Below.refl _ _) o) hcell
                        clear hs htot hsa
                        by_cases k16 : r.f1 = 16
                        · have e16 : (r.f1 == 16) = true := beq_iff_eq.mpr k16
                          have hu : IntKind.u8.wrap (s.size : Int) = (s.size : Int) % 256 := by rw [IntKind.wrap_u8]
                          have hcv := fun W => one_byte W ((s.size : Int) % 256)
                          have hadd1 := fun W => run_string_add_sum (P := Try.prog) W sa (strOfNums [(s.size : Int) % 256]) (by rw [strOfNums_size]; have := HLn.out; simp; omega)
                          have hadd2 := fun W => run_string_add_sum (P := Try.prog) W (sa ++ strOfNums [(s.size : Int) % 256]) s (by rw [ByteArray.size_append, strOfNums_size]; have := HLn.out; have := HSz.out; simp; omega)
                          have HT := Lib.hid (show sa ++ strOfNums [(s.size : Int) % 256] ++ s = sAcc ac r.f6 (textL r) (k + 1) by
                            rw [← HE1.out]
                            unfold textL
                            rw [if_pos k16, ← str_app, str_of, ByteArray.append_assoc])
                          clear k16
                          go_wp2
                          go_roundg j
                          case measure => omega
                          case rel => exact ⟨k + 1, by go_num, by rw [← HT.out], ⟨by have := HK.out; omega⟩, ⟨below_alloc HBr.out _⟩⟩
                        · have e16 : (r.f1 == 16) = false := beq_eq_false_iff_ne.mpr k16
                          have hadd2 := fun W => run_string_add_sum (P := Try.prog) W sa s (by have := HLn.out; have := HSz.out; omega)
                          have HT := Lib.hid (show sa ++ s = sAcc ac r.f6 (textL r) (k + 1) by
                            rw [← HE1.out]
                            unfold textL
                            rw [if_neg k16, List.nil_append, str_of])
                          clear k16
                          go_wp2
                          go_roundg j
                          case measure => omega
                          case rel => exact ⟨k + 1, by go_num, by rw [← HT.out], ⟨by have := HK.out; omega⟩, HBr⟩
                  · have c1 : decide ((0 : Int) < (r.f5.length : Int)) = false := decide_eq_false (by omega)
                    have c2 : decide (0 < r.f5.length) = false := decide_eq_false c0
                    clear c0
                    go_wp2
                    go_loopg [6, 10] r.f6.length (fun kq v6 v w' => ∃ k : Nat, v = .int .i64 k ∧ v6 = .string (sAcc ac r.f6 (textL r) k) ∧ Aside0 (kq + k = r.f6.length) ∧ Aside0 (Below w1.heap.size w1 w'))
                    case atStart => exact ⟨0, rfl, by rw [sAcc_zero], ⟨rfl⟩, HBr⟩
                    case round =>
                      clear HBr HXr HBt z0 z1 z2 z3 z4 z5 z6
                      obtain ⟨k, rfl, rfl, HK, HBr⟩ := hrel
                      have HXr := Aside0.mk (blk_below HX.out HBr.out)
                      have HBt := Aside0.mk (HB.out.trans (HBr.out.mono (below_size HB.out)))
                      have z0 : wr.cell? ⟨g, 0, none⟩ = some (.string r.f0) := (blk_cell HXr.out 0).trans rfl
                      have z1 : wr.cell? ⟨g, 1, none⟩ = some (.int .u16 r.f1) := (blk_cell HXr.out 1).trans rfl
                      have z2 : wr.cell? ⟨g, 2, none⟩ = some (.int .u16 r.f2) := (blk_cell HXr.out 2).trans rfl
                      have z3 : wr.cell? ⟨g, 3, none⟩ = some (.int .u32 r.f3) := (blk_cell HXr.out 3).trans rfl
                      have z4 : wr.cell? ⟨g, 4, none⟩ = some (.slice A4 r.f4.length c4) := (blk_cell HXr.out 4).trans rfl
                      have z5 : wr.cell? ⟨g, 5, none⟩ = some (.slice A5 r.f5.length c5) := (blk_cell HXr.out 5).trans rfl
                      have z6 : wr.cell? ⟨g, 6, none⟩ = some (.slice A6 r.f6.length c6) := (blk_cell HXr.out 6).trans rfl
                      cases gk with
                      | zero =>
                        obtain rfl : k = r.f6.length := by have := HK.out; omega
                        have HS2 := Lib.hid (sAcc_end ac r.f6 (textL r))
                        go_wp2
                        go_ret2
                        exact ⟨by rw [← HRes.out]; unfold plain5E; rw [if_neg HTot.out, plainL_not K6.out, HS2.out, HAq.out]; simp, HBt.out⟩
                      | succ j =>
                        have hk : k < r.f6.length := by have := HK.out; omega
                        obtain ⟨ad, rfl, hcell⟩ := at_str (Kd.C_below G6.out HBt.out) k hk
                        have q1 : (0 : Int) ≤ (k : Int) := by omega
                        have q2 : (k : Int) < (r.f6.length : Int) := by omega
                        have HE1 := Lib.hid (sAcc_next ac r.f6 (textL r) ⟨#[]⟩ k hk)
                        have htot := txN_le r (k + 1)
                        rw [txN_next r k hk] at htot
                        have HLn := Lib.hid (show (sAcc ac r.f6 (textL r) k).size ≤ 1000000000000 by
                          unfold sAcc
                          rw [strOfNums_size, List.length_append]
                          have h1 := txN_le r k
                          unfold txN at h1
                          have h2 := HTot.out
                          have h3 := HAcc.out
                          omega)
                        obtain ⟨s, hs⟩ : ∃ s, r.f6.getD k ⟨#[]⟩ = s := ⟨_, rfl⟩
                        rw [hs] at HE1 hcell htot
                        obtain ⟨sa, hsa⟩ : ∃ sa, sAcc ac r.f6 (textL r) k = sa := ⟨_, rfl⟩
                        rw [hsa] at HE1 HLn ⊢
                        have HSz := Lib.hid (show s.size ≤ 65535 by have := HTot.out; omega)
                        have q3 : (s.size : Int) ≤ 65535 := by have := HSz.out; omega
                        have hlne : ¬ g = wr.heap.size := Nat.ne_of_lt (blk_lt HXr.out)
                        have hza : ∀ o, (wr.alloc o).cell? ⟨g, 6, none⟩ = some (.slice (some ad) r.f6.length c6) := fun o => pw_cell_below (below_alloc (Below.refl _ _) o) z6
                        have hca : ∀ o, (wr.alloc o).cell? (ad.add k) = some (.string s) := fun o => pw_cell_below (below_alloc (Below.refl _ _) o) hcell
                        clear hs htot hsa
                        by_cases k16 : r.f1 = 16
                        · have e16 : (r.f1 == 16) = true := beq_iff_eq.mpr k16
                          have hu : IntKind.u8.wrap (s.size : Int) = (s.size : Int) % 256 := by rw [IntKind.wrap_u8]
                          have hcv := fun W => one_byte W ((s.size : Int) % 256)
                          have hadd1 := fun W => run_string_add_sum (P := Try.prog) W sa (strOfNums [(s.size : Int) % 256]) (by rw [strOfNums_size]; have := HLn.out; simp; omega)
                          have hadd2 := fun W => run_string_add_sum (P := Try.prog) W (sa ++ strOfNums [(s.size : Int) % 256]) s (by rw [ByteArray.size_append, strOfNums_size]; have := HLn.out; have := HSz.out; simp; omega)
                          have HT := Lib.hid (show sa ++ strOfNums [(s.size : Int) % 256] ++ s = sAcc ac r.f6 (textL r) (k + 1) by
                            rw [← HE1.out]
                            unfold textL
                            rw [if_pos k16, ← str_app, str_of, ByteArray.append_assoc])
                          clear k16
                          go_wp2
                          go_roundg j
                          case measure => omega
                          case rel => exact ⟨k + 1, by go_num, by rw [← HT.out], ⟨by have := HK.out; omega⟩, ⟨below_alloc HBr.out _⟩⟩
                        · have e16 : (r.f1 == 16) = false := beq_eq_false_iff_ne.mpr k16
                          have hadd2 := fun W => run_string_add_sum (P := Try.prog) W sa s (by have := HLn.out; have := HSz.out; omega)
                          have HT := Lib.hid (show sa ++ s = sAcc ac r.f6 (textL r) (k + 1) by
                            rw [← HE1.out]
                            unfold textL
                            rw [if_neg k16, List.nil_append, str_of])
                          clear k16
                          go_wp2
                          go_roundg j
                          case measure => omega
                          case rel => exact ⟨k + 1, by go_num, by rw [← HT.out], ⟨by have := HK.out; omega⟩, HBr⟩
              | succ j =>
                have hk : k < r.f4.length := by have := HK.out; omega
                obtain ⟨ad, rfl, hcell⟩ := at_str (Kd.C_below G4.out HBt.out) k hk
                have q1 : (0 : Int) ≤ (k : Int) := by omega
                have q2 : (k : Int) < (r.f4.length : Int) := by omega
                have HE1 := Lib.hid (sAcc_next ac r.f4 bytesOf ⟨#[]⟩ k hk)
                have HSn := Lib.hid (flat_snoc ⟨#[]⟩ bytesOf r.f4 k hk)
                have hsz : (r.f4.getD k ⟨#[]⟩).size ≤ 1000000000 := by
                  have h1 := names_le r.f4 (k + 1)
                  rw [HSn.out, List.length_append, bytesOf_length] at h1
                  have h2 := HF.out.names
                  omega
                have HLn := Lib.hid (show (sAcc ac r.f4 bytesOf k).size ≤ 1000000000000 by
                  unfold sAcc
                  rw [strOfNums_size, List.length_append]
                  have h1 := names_le r.f4 k
                  have h2 := HF.out.names
                  have h3 := HAcc.out
                  omega)
                obtain ⟨s, hs⟩ : ∃ s, r.f4.getD k ⟨#[]⟩ = s := ⟨_, rfl⟩
                rw [hs, str_of] at HE1
                rw [hs] at hcell hsz
                have hadd := fun W => run_string_add_sum (P := Try.prog) W (sAcc ac r.f4 bytesOf k) s (by have := HLn.out; omega)
                clear hs HSn
                go_wp2
                go_roundg j
                case measure => omega
                case rel => exact ⟨k + 1, by go_num, by rw [HE1.out], ⟨by have := HK.out; omega⟩, HBr⟩
          | succ j =>
            have hk : k < r.f5.length := by have := HK.out; omega
            obtain ⟨ad, rfl, hcell⟩ := at_int (Kd.C_below G5.out HBt.out) k hk
            have q1 : (0 : Int) ≤ (k : Int) := by omega
            have q2 : (k : Int) < (r.f5.length : Int) := by omega
            obtain ⟨n0, n1⟩ := HF.out.wf k hk
            have HE1 := Lib.hid (sAcc_next ac r.f5 (fun n => putL n 2) 0 k hk)
            have HLn := Lib.hid (show (sAcc ac r.f5 (fun n => putL n 2) k).size ≤ 1000000000000 by
              unfold sAcc
              rw [strOfNums_size, List.length_append]
              have h1 := nums_le r.f5 k 2
              have h2 := HF.out.names
              have h3 := HAcc.out
              omega)
            obtain ⟨n, hn⟩ : ∃ n, r.f5.getD k 0 = n := ⟨_, rfl⟩
            rw [hn] at n0 n1 HE1 hcell
            clear hn
            go_wp2_with fail
            refine (Put5_calls _ n 2 _ HLn.out n0 n1 (by decide)).mono ?_
            rintro e w' ⟨rfl, hb⟩
            have HBn := Aside0.mk (HBr.out.trans (hb.mono HBr.out.size))
            clear hb
            go_wp2_with fail
            go_roundg j
            case measure => omega
            case rel => exact ⟨k + 1, by go_num, by rw [HE1.out], ⟨by have := HK.out; omega⟩, HBn⟩
    | succ j =>
      have hk : k < r.f6.length := by have := HK.out; omega
      obtain ⟨ad, rfl, hcell⟩ := at_str (Kd.C_below G6.out HB.out) k hk
      have q1 : (0 : Int) ≤ (k : Int) := by omega
      have q2 : (k : Int) < (r.f6.length : Int) := by omega
      have hnx := txN_next r k hk
      have htl := txN_le r (k + 1)
      have hfl := HF.out.texts k hk
      obtain ⟨s, hs⟩ : ∃ s, r.f6.getD k ⟨#[]⟩ = s := ⟨_, rfl⟩
      rw [hs] at hcell hnx hfl
      obtain ⟨tk, htk⟩ : ∃ tk, txN r k = tk := ⟨_, rfl⟩
      have hT : tk ≤ 65535 := by have := HT.out; omega
      rw [htk] at hnx ⊢
      have q3 : (tk : Int) ≤ 65535 := by omega
      have q4 : (s.size : Int) ≤ 1000000000 := by omega
      clear hs htk hfl HT
      by_cases k16 : r.f1 = 16
      · have e16 : (r.f1 == 16) = true := beq_iff_eq.mpr k16
        rw [if_pos k16] at hnx
        by_cases kb : 65535 < tk + (s.size + 1)
        · have d1 : decide ((65535 : Int) < (tk : Int) + (s.size : Int) + 1) = true := decide_eq_true (by omega)
          have HF2 := Lib.hid (show R = .returned (.tuple #[.string ⟨#[]⟩, .bool false]) by rw [← HRes.out]; unfold plain5E; rw [if_pos (by omega)])
          clear hnx htl kb k16
          go_wp2
          go_ret2
          exact ⟨HF2.out.symm, HB.out⟩
        · have d1 : decide ((65535 : Int) < (tk : Int) + (s.size : Int) + 1) = false := decide_eq_false (by omega)
          have HNx := Lib.hid hnx
          clear hnx htl k16
          go_wp2
          go_roundg j
          case measure => omega
          case rel => exact ⟨k + 1, by go_num, by rw [HNx.out]; go_num, ⟨by have := HK.out; omega⟩, ⟨by rw [HNx.out]; omega⟩, rfl⟩
      · have e16 : (r.f1 == 16) = false := beq_eq_false_iff_ne.mpr k16
        rw [if_neg k16] at hnx
        by_cases kb : 65535 < tk + s.size
        · have d1 : decide ((65535 : Int) < (tk : Int) + (s.size : Int)) = true := decide_eq_true (by omega)
          have HF2 := Lib.hid (show R = .returned (.tuple #[.string ⟨#[]⟩, .bool false]) by rw [← HRes.out]; unfold plain5E; rw [if_pos (by omega)])
          clear hnx htl kb k16
          go_wp2
          go_ret2
          exact ⟨HF2.out.symm, HB.out⟩
        · have d1 : decide ((65535 : Int) < (tk : Int) + (s.size : Int)) = false := decide_eq_false (by omega)
          have HNx := Lib.hid hnx
          clear hnx htl k16
          go_wp2
          go_roundg j
          case measure => omega
          case rel => exact ⟨k + 1, by go_num, by rw [HNx.out]; go_num, ⟨by have := HK.out; omega⟩, ⟨by rw [HNx.out]; omega⟩, rfl⟩
end Go.Proofs.Ytbbeikdbioelgaa.M
set_option linter.unusedVariables false
set_option linter.unusedSimpArgs false
namespace Go.Proofs.Ytbbeikdbioelgaa.M
open Go.RowKit Go.Proofs.YtbbeikdbioelgaaW.PrintWords Go.Proofs.YtbbeikdbioelgaaW.PrintLast Go.Proofs.YtbbeikdbioelgaaW.PrintMore
attribute [local go_sem] max2_int min2_int max_two min_two max_three min_three max_four min_four
theorem sizeGo_big (l : List ByteArray) : ∀ n : Nat, 131070 < sizeGo l n → 131070 < n + sumS l + l.length := by
  induction l with
  | nil => intro n h; rw [sumS_nil]; simp only [sizeGo, List.length_nil] at h ⊢; omega
  | cons s l ih =>
    intro n h
    rw [sumS_cons, List.length_cons]
    unfold sizeGo at h
    by_cases c : 131070 < n + s.size + 1
    · omega
    · rw [if_neg c] at h
      have := ih _ h
      omega
theorem texts_len (r : Rec) (l : List ByteArray) : (l.flatMap (textL r)).length = sumS l + (if r.f1 = 16 then l.length else 0) := by
  induction l with
  | nil => rw [sumS_nil]; simp
  | cons s l ih =>
    rw [List.flatMap_cons, List.length_append, ih, textL_len, sumS_cons, List.length_cons]
    split <;> omega
theorem numsL_len (l : List Int) (k : Nat) : (l.flatMap fun n => putL n k).length = k * l.length := by
  induction l with
  | nil => rfl
  | cons a l ih => rw [List.flatMap_cons, List.length_append, ih, putL_length, List.length_cons, Nat.mul_add]; omega
theorem namesL_len (l : List ByteArray) : (l.flatMap bytesOf).length = sumS l := by
  induction l with
  | nil => rfl
  | cons a l ih => rw [List.flatMap_cons, List.length_append, ih, bytesOf_length, sumS_cons]
theorem names_sum (l : List ByteArray) (h : (l.any notName) = false) : sumS l ≤ 255 * l.length := by
  induction l with
  | nil => exact Nat.le_refl _
  | cons s l ih =>
    rw [List.any_cons, Bool.or_eq_false_iff] at h
    have h1 : s.size ≤ 255 := by
      have := h.1
      unfold notName isName split at this
      by_cases hb : 255 < s.size
      · rw [if_pos hb] at this; exact absurd this (by decide)
      · omega
    have h2 := ih h.2
    rw [sumS_cons, List.length_cons]
    omega
theorem size_total {r : Rec} (hn : (r.f4.any notName) = false) (hs : shapedB r = true) : (131070 < sizeF r ∨ 65535 < (plainL r).length) ↔ 65535 < total r := by
  rw [shapedB_eq] at hs
  have hsh : r.f4.length = (shapeOf r.f1).1 ∧ r.f5.length = (shapeOf r.f1).2.1 ∧ (r.f6.length = (shapeOf r.f1).2.2 ∨ r.f1 = 16 ∧ r.f6.length ≠ 0) := by
    by_cases h : r.f4.length = (shapeOf r.f1).1 ∧ r.f5.length = (shapeOf r.f1).2.1 ∧ (r.f6.length = (shapeOf r.f1).2.2 ∨ r.f1 = 16 ∧ r.f6.length ≠ 0)
    · exact h
    · rw [if_pos h] at hs; exact absurd hs (by decide)
  have hsum := names_sum r.f4 hn
  obtain ⟨s1, s2, s3⟩ := shapeOf_le r.f1
  have ht : total r = sumS r.f6 + (if r.f1 = 16 then r.f6.length else 0) := texts_len r r.f6
  have hp : (plainL r).length = (if r.f1 = 6 then 4 else 2) * r.f5.length + sumS r.f4 + total r := by
    unfold plainL total
    simp only [List.length_append, namesL_len]
    by_cases h6 : r.f1 = 6
    · simp only [if_pos h6, numsL_len, List.length_nil]; omega
    · simp only [if_neg h6, numsL_len, List.length_nil]; omega
  have hz : r.f6 = [] ∨ (r.f4.length = 0 ∧ r.f5.length = 0) := by
    have : (shapeOf r.f1).2.2 = 0 ∨ ((shapeOf r.f1).1 = 0 ∧ (shapeOf r.f1).2.1 = 0) := by
      unfold shapeOf
      repeat' split
      all_goals simp
    rcases this with h | h
    · rcases hsh.2.2 with h2 | h2
      · exact .inl (List.length_eq_zero_iff.1 (by omega))
      · right
        rw [h2.1] at hsh
        exact ⟨hsh.1, hsh.2.1⟩
    · exact .inr ⟨by omega, by omega⟩
  have hsz : 131070 < sizeF r → 131070 < 4 * r.f5.length + sumS r.f4 + sumS r.f6 + r.f6.length := sizeGo_big _ _
  have hif : (if r.f1 = 6 then 4 else 2) * r.f5.length ≤ 4 * r.f5.length := by split <;> omega
  rcases hz with h | ⟨h4, h5⟩
  · rw [h, sumS_nil] at ht hsz
    simp only [List.length_nil] at ht hsz
    have ht0 : total r = 0 := by rw [ht]; split <;> rfl
    constructor
    · rintro (h1 | h1)
      · have := hsz h1; omega
      · omega
    · omega
  · have h40 : sumS r.f4 = 0 := by rw [List.length_eq_zero_iff.1 h4]; rfl
    rw [h5] at hp hsz
    rw [h40] at hp hsz
    constructor
    · rintro (h1 | h1)
      · have := hsz h1
        rw [ht]
        by_cases k16 : r.f1 = 16
        · rw [if_pos k16]; omega
        · rw [if_neg k16]
          have hl : r.f6.length ≤ 1 := by
            rcases hsh.2.2 with h2 | h2
            · omega
            · exact absurd h2.1 k16
          omega
      · omega
    · intro h1
      right
      omega
theorem checkF_eq (r : Rec) : checkF r = if isName r.f0 = false then 40 else if r.f4.any notName then 40 else if shapedB r = false then 50 else if 65535 < total r then 50 else if 2147483647 < r.f3 ∧ r.f1 ≠ 41 then 1 else 0 := by
  unfold checkF
  by_cases k1 : isName r.f0 = false
  · rw [if_pos k1, if_pos k1]
  rw [if_neg k1, if_neg k1]
  by_cases k2 : r.f4.any notName = true
  · rw [if_pos k2, if_pos k2]
  rw [if_neg k2, if_neg k2]
  by_cases k3 : shapedB r = false
  · rw [if_pos k3, if_pos k3]
  rw [if_neg k3, if_neg k3]
  have hx := size_total (r := r) (by simpa using k2) (by simpa using k3)
  by_cases k4 : 131070 < sizeF r
  · rw [if_pos k4, if_pos (hx.1 (.inl k4))]
  rw [if_neg k4]
  by_cases k5 : 65535 < (plainL r).length
  · rw [if_pos k5, if_pos (hx.1 (.inr k5))]
  rw [if_neg k5, if_neg (fun h => (hx.2 h).elim k4 k5)]
set_option maxHeartbeats 4000000 in
set_option maxRecDepth 100000 in
theorem check5_calls (r : Rec) (v : Value) (w : World) (hv : RecAt w v r) (hF : Fine r) (h0 : r.f0.size ≤ 140737488351232) :
    Calls Try.prog 27 #[v] w fun e w' => e = .returned (.int .i64 (checkF r)) ∧ Below w.heap.size w w' := by
  have HV := Aside0.mk hv
  obtain ⟨A4, c4, A5, c5, A6, c6, rfl, l4, g4, l5, g5, l6, g6⟩ := hv
  have G4 := Aside0.mk g4
  have HF := Aside0.mk hF
  obtain ⟨R, hR⟩ : ∃ R, checkF r = R := ⟨_, rfl⟩
  rw [hR]
  rw [checkF_eq] at hR
  have m4 : (r.f4.length : Int) ≤ 1000000000 := by have := hF.len4; omega
  clear g4 g5 g6 hF
  by_cases k1 : isName r.f0 = false
  · rw [if_pos k1] at hR
    subst hR
    have K1 := Lib.hid k1
    clear k1
    go_enter Try.func27, Try.ntmps27
    go_wp2_with (((with_reducible refine gate_dst (N := 1) rfl ?_); refine box_event rfl (N := 1) rfl (cs := #[.string r.f0, .int .u16 r.f1, .int .u16 r.f2, .int .u32 r.f3, .slice A4 r.f4.length c4, .slice A5 r.f5.length c5, .slice A6 r.f6.length c6]) (t := 44) (by first | (go_simp; done) | (go_simp; rfl)) ?_; intro g hg w1 hbox hb); have HX := Aside0.mk hbox; have HB := Aside0.mk hb; have HGe := Aside0.mk hg; clear hb hg; have z0 : w1.cell? ⟨g, 0, none⟩ = some (.string r.f0) := (blk_cell HX.out 0).trans rfl; clear hbox; have z1 : w1.cell? ⟨g, 1, none⟩ = some (.int .u16 r.f1) := (blk_cell HX.out 1).trans rfl; have z2 : w1.cell? ⟨g, 2, none⟩ = some (.int .u16 r.f2) := (blk_cell HX.out 2).trans rfl; have z3 : w1.cell? ⟨g, 3, none⟩ = some (.int .u32 r.f3) := (blk_cell HX.out 3).trans rfl; have z4 : w1.cell? ⟨g, 4, none⟩ = some (.slice A4 r.f4.length c4) := (blk_cell HX.out 4).trans rfl; have z5 : w1.cell? ⟨g, 5, none⟩ = some (.slice A5 r.f5.length c5) := (blk_cell HX.out 5).trans rfl; have z6 : w1.cell? ⟨g, 6, none⟩ = some (.slice A6 r.f6.length c6) := (blk_cell HX.out 6).trans rfl)
    refine (refIs_calls r.f0 _ h0).mono ?_
    rw [K1.out]
    rintro e w2 ⟨rfl, hb⟩
    have HX2 := Aside0.mk (blk_below HX.out hb)
    have HB2 := Aside0.mk (HB.out.trans (hb.mono (below_size HB.out)))
    clear hb z0 z1 z2 z3 z4 z5 z6
    have z0 : w2.cell? ⟨g, 0, none⟩ = some (.string r.f0) := (blk_cell HX2.out 0).trans rfl
    have z1 : w2.cell? ⟨g, 1, none⟩ = some (.int .u16 r.f1) := (blk_cell HX2.out 1).trans rfl
    have z2 : w2.cell? ⟨g, 2, none⟩ = some (.int .u16 r.f2) := (blk_cell HX2.out 2).trans rfl
    have z3 : w2.cell? ⟨g, 3, none⟩ = some (.int .u32 r.f3) := (blk_cell HX2.out 3).trans rfl
    have z4 : w2.cell? ⟨g, 4, none⟩ = some (.slice A4 r.f4.length c4) := (blk_cell HX2.out 4).trans rfl
    have z5 : w2.cell? ⟨g, 5, none⟩ = some (.slice A5 r.f5.length c5) := (blk_cell HX2.out 5).trans rfl
    have z6 : w2.cell? ⟨g, 6, none⟩ = some (.slice A6 r.f6.length c6) := (blk_cell HX2.out 6).trans rfl
    go_wp2_with fail
    go_ret
    exact ⟨rfl, HB2.out⟩
  rw [if_neg k1] at hR
  have K1 := Lib.hid (show isName r.f0 = true by simpa using k1)
  clear k1
  have HR := Aside0.mk (show (if (r.f4.drop 0).any notName then (40 : Int) else if shapedB r = false then 50 else if 65535 < total r then 50 else if 2147483647 < r.f3 ∧ r.f1 ≠ 41 then 1 else 0) = R from hR)
  clear hR
  go_enter Try.func27, Try.ntmps27
  go_wp2_with (((with_reducible refine gate_dst (N := 1) rfl ?_); refine box_event rfl (N := 1) rfl (cs := #[.string r.f0, .int .u16 r.f1, .int .u16 r.f2, .int .u32 r.f3, .slice A4 r.f4.length c4, .slice A5 r.f5.length c5, .slice A6 r.f6.length c6]) (t := 44) (by first | (go_simp; done) | (go_simp; rfl)) ?_; intro g hg w1 hbox hb); have HX := Aside0.mk hbox; have HB := Aside0.mk hb; have HGe := Aside0.mk hg; clear hb hg; have z0 : w1.cell? ⟨g, 0, none⟩ = some (.string r.f0) := (blk_cell HX.out 0).trans rfl; clear hbox; have z1 : w1.cell? ⟨g, 1, none⟩ = some (.int .u16 r.f1) := (blk_cell HX.out 1).trans rfl; have z2 : w1.cell? ⟨g, 2, none⟩ = some (.int .u16 r.f2) := (blk_cell HX.out 2).trans rfl; have z3 : w1.cell? ⟨g, 3, none⟩ = some (.int .u32 r.f3) := (blk_cell HX.out 3).trans rfl; have z4 : w1.cell? ⟨g, 4, none⟩ = some (.slice A4 r.f4.length c4) := (blk_cell HX.out 4).trans rfl; have z5 : w1.cell? ⟨g, 5, none⟩ = some (.slice A5 r.f5.length c5) := (blk_cell HX.out 5).trans rfl; have z6 : w1.cell? ⟨g, 6, none⟩ = some (.slice A6 r.f6.length c6) := (blk_cell HX.out 6).trans rfl)
  refine (refIs_calls r.f0 _ h0).mono ?_
  rw [K1.out]
  rintro e w2 ⟨rfl, hb⟩
  have HX2 := Aside0.mk (blk_below HX.out hb)
  have HB2 := Aside0.mk (HB.out.trans (hb.mono (below_size HB.out)))
  clear hb z0 z1 z2 z3 z4 z5 z6
  have z0 : w2.cell? ⟨g, 0, none⟩ = some (.string r.f0) := (blk_cell HX2.out 0).trans rfl
  have z1 : w2.cell? ⟨g, 1, none⟩ = some (.int .u16 r.f1) := (blk_cell HX2.out 1).trans rfl
  have z2 : w2.cell? ⟨g, 2, none⟩ = some (.int .u16 r.f2) := (blk_cell HX2.out 2).trans rfl
  have z3 : w2.cell? ⟨g, 3, none⟩ = some (.int .u32 r.f3) := (blk_cell HX2.out 3).trans rfl
  have z4 : w2.cell? ⟨g, 4, none⟩ = some (.slice A4 r.f4.length c4) := (blk_cell HX2.out 4).trans rfl
  have z5 : w2.cell? ⟨g, 5, none⟩ = some (.slice A5 r.f5.length c5) := (blk_cell HX2.out 5).trans rfl
  have z6 : w2.cell? ⟨g, 6, none⟩ = some (.slice A6 r.f6.length c6) := (blk_cell HX2.out 6).trans rfl
  go_wp2_with fail
  have HBr := Aside0.mk (Below.refl w2.heap.size w2)
  go_loopg [3] r.f4.length (fun kq v3 w' => ∃ k : Nat, v3 = .int .i64 k ∧ Aside0 (kq + k = r.f4.length) ∧ Aside0 ((if (r.f4.drop k).any notName then (40 : Int) else if shapedB r = false then 50 else if 65535 < total r then 50 else if 2147483647 < r.f3 ∧ r.f1 ≠ 41 then 1 else 0) = R) ∧ Aside0 (Below w2.heap.size w2 w'))
  case atStart => exact ⟨0, rfl, ⟨rfl⟩, HR, HBr⟩
  case round =>
    clear HBr HR z0 z1 z2 z3 z4 z5 z6
    obtain ⟨k, rfl, HK, HE, HBr⟩ := hrel
    have HXr := Aside0.mk (blk_below HX2.out HBr.out)
    have HBt := Aside0.mk (HB2.out.trans (HBr.out.mono (below_size HB2.out)))
    have z0 : wr.cell? ⟨g, 0, none⟩ = some (.string r.f0) := (blk_cell HXr.out 0).trans rfl
    have z1 : wr.cell? ⟨g, 1, none⟩ = some (.int .u16 r.f1) := (blk_cell HXr.out 1).trans rfl
    have z2 : wr.cell? ⟨g, 2, none⟩ = some (.int .u16 r.f2) := (blk_cell HXr.out 2).trans rfl
    have z3 : wr.cell? ⟨g, 3, none⟩ = some (.int .u32 r.f3) := (blk_cell HXr.out 3).trans rfl
    have z4 : wr.cell? ⟨g, 4, none⟩ = some (.slice A4 r.f4.length c4) := (blk_cell HXr.out 4).trans rfl
    have z5 : wr.cell? ⟨g, 5, none⟩ = some (.slice A5 r.f5.length c5) := (blk_cell HXr.out 5).trans rfl
    have z6 : wr.cell? ⟨g, 6, none⟩ = some (.slice A6 r.f6.length c6) := (blk_cell HXr.out 6).trans rfl
    have he := HE.out
    clear HE
    cases gk with
    | succ j =>
      have hk : k < r.f4.length := by have := HK.out; omega
      obtain ⟨ad, rfl, hcell⟩ := at_str (Kd.C_below G4.out HBt.out) k hk
      have q1 : (0 : Int) ≤ (k : Int) := by omega
      have q2 : (k : Int) < (r.f4.length : Int) := by omega
      have hsz : (r.f4.getD k ⟨#[]⟩).size ≤ 140737488351232 := by
        have h1 := names_le r.f4 (k + 1)
        rw [flat_snoc ⟨#[]⟩ bytesOf r.f4 k hk, List.length_append, bytesOf_length] at h1
        have h2 := HF.out.names
        omega
      rw [drop_get ⟨#[]⟩ r.f4 k hk, List.any_cons] at he
      obtain ⟨s, hs⟩ : ∃ s, r.f4.getD k ⟨#[]⟩ = s := ⟨_, rfl⟩
      rw [hs] at hcell hsz he
      have HSz := Lib.hid hsz
      clear hs hsz
      go_wp2_with fail
      refine (refIs_calls s _ HSz.out).mono ?_
      obtain ⟨b, hb⟩ : ∃ b, isName s = b := ⟨_, rfl⟩
      have hnb : notName s = !b := by unfold notName; rw [hb]
      rw [hnb] at he
      rw [hb]
      clear hb hnb
      rintro e w' ⟨rfl, hb⟩
      have HBn := Aside0.mk (HBr.out.trans (hb.mono HBr.out.size))
      have HBw := Aside0.mk (HBt.out.trans (hb.mono (below_size HBt.out)))
      clear hb
      cases b with
      | false =>
        rw [show (!false || (r.f4.drop (k + 1)).any notName) = true from rfl, if_pos rfl] at he
        subst he
        go_wp2_with fail
        go_ret
        exact ⟨rfl, HBw.out⟩
      | true =>
        rw [show (!true || (r.f4.drop (k + 1)).any notName) = (r.f4.drop (k + 1)).any notName from rfl] at he
        have HE := Aside0.mk he
        clear he
        go_wp2_with fail
        go_roundg j
        case measure => omega
        case rel => exact ⟨k + 1, by go_num, ⟨by have := HK.out; omega⟩, HE, HBn⟩
    | zero =>
      obtain rfl : k = r.f4.length := by have := HK.out; omega
      rw [List.drop_length, List.any_nil, if_neg (by decide)] at he
      have hl6 := HF.out.texts2
      have hl5 : r.f5.length ≤ 1000000000 := by have := HF.out.names; omega
      obtain ⟨b, hb⟩ : ∃ b, shapedB r = b := ⟨_, rfl⟩
      rw [hb] at he
      have HSb := Lib.hid hb
      clear hb
      go_wp2_with fail
      refine (shaped5_calls r _ _ (HV.out.below HBt.out) hl6 HF.out.len4 hl5).mono ?_
      rw [HSb.out]
      rintro e w3 ⟨rfl, hb⟩
      have HX3 := Aside0.mk (blk_below HXr.out hb)
      have HB3 := Aside0.mk (HBt.out.trans (hb.mono (below_size HBt.out)))
      clear hb z0 z1 z2 z3 z4 z5 z6
      have z0 : w3.cell? ⟨g, 0, none⟩ = some (.string r.f0) := (blk_cell HX3.out 0).trans rfl
      have z1 : w3.cell? ⟨g, 1, none⟩ = some (.int .u16 r.f1) := (blk_cell HX3.out 1).trans rfl
      have z2 : w3.cell? ⟨g, 2, none⟩ = some (.int .u16 r.f2) := (blk_cell HX3.out 2).trans rfl
      have z3 : w3.cell? ⟨g, 3, none⟩ = some (.int .u32 r.f3) := (blk_cell HX3.out 3).trans rfl
      have z4 : w3.cell? ⟨g, 4, none⟩ = some (.slice A4 r.f4.length c4) := (blk_cell HX3.out 4).trans rfl
      have z5 : w3.cell? ⟨g, 5, none⟩ = some (.slice A5 r.f5.length c5) := (blk_cell HX3.out 5).trans rfl
      have z6 : w3.cell? ⟨g, 6, none⟩ = some (.slice A6 r.f6.length c6) := (blk_cell HX3.out 6).trans rfl
      cases b with
      | false =>
        rw [if_pos rfl] at he
        subst he
        go_wp2_with fail
        go_ret
        exact ⟨rfl, HB3.out⟩
      | true =>
        rw [if_neg (by decide)] at he
        go_wp2_with fail
        refine (plain5_calls r _ _ (HV.out.below HB3.out) HF.out).mono ?_
        by_cases k4 : 65535 < total r
        · rw [if_pos k4] at he
          subst he
          have hp : plain5E r = .returned (.tuple #[.string ⟨#[]⟩, .bool false]) := if_pos k4
          rw [hp]
          rintro e w4 ⟨rfl, hb⟩
          have HX4 := Aside0.mk (blk_below HX3.out hb)
          have HB4 := Aside0.mk (HB3.out.trans (hb.mono (below_size HB3.out)))
          clear hb z0 z1 z2 z3 z4 z5 z6
          have z0 : w4.cell? ⟨g, 0, none⟩ = some (.string r.f0) := (blk_cell HX4.out 0).trans rfl
          have z1 : w4.cell? ⟨g, 1, none⟩ = some (.int .u16 r.f1) := (blk_cell HX4.out 1).trans rfl
          have z2 : w4.cell? ⟨g, 2, none⟩ = some (.int .u16 r.f2) := (blk_cell HX4.out 2).trans rfl
          have z3 : w4.cell? ⟨g, 3, none⟩ = some (.int .u32 r.f3) := (blk_cell HX4.out 3).trans rfl
          have z4 : w4.cell? ⟨g, 4, none⟩ = some (.slice A4 r.f4.length c4) := (blk_cell HX4.out 4).trans rfl
          have z5 : w4.cell? ⟨g, 5, none⟩ = some (.slice A5 r.f5.length c5) := (blk_cell HX4.out 5).trans rfl
          have z6 : w4.cell? ⟨g, 6, none⟩ = some (.slice A6 r.f6.length c6) := (blk_cell HX4.out 6).trans rfl
          clear hp k4
          go_wp2_with fail
          go_ret
          exact ⟨rfl, HB4.out⟩
        · rw [if_neg k4] at he
          have hp : plain5E r = .returned (.tuple #[.string (strOfNums (plainL r)), .bool true]) := if_neg k4
          rw [hp]
          rintro e w4 ⟨rfl, hb⟩
          have HX4 := Aside0.mk (blk_below HX3.out hb)
          have HB4 := Aside0.mk (HB3.out.trans (hb.mono (below_size HB3.out)))
          clear hb z0 z1 z2 z3 z4 z5 z6
          have z0 : w4.cell? ⟨g, 0, none⟩ = some (.string r.f0) := (blk_cell HX4.out 0).trans rfl
          have z1 : w4.cell? ⟨g, 1, none⟩ = some (.int .u16 r.f1) := (blk_cell HX4.out 1).trans rfl
          have z2 : w4.cell? ⟨g, 2, none⟩ = some (.int .u16 r.f2) := (blk_cell HX4.out 2).trans rfl
          have z3 : w4.cell? ⟨g, 3, none⟩ = some (.int .u32 r.f3) := (blk_cell HX4.out 3).trans rfl
          have z4 : w4.cell? ⟨g, 4, none⟩ = some (.slice A4 r.f4.length c4) := (blk_cell HX4.out 4).trans rfl
          have z5 : w4.cell? ⟨g, 5, none⟩ = some (.slice A5 r.f5.length c5) := (blk_cell HX4.out 5).trans rfl
          have z6 : w4.cell? ⟨g, 6, none⟩ = some (.slice A6 r.f6.length c6) := (blk_cell HX4.out 6).trans rfl
          clear hp k4
          by_cases k6 : 2147483647 < r.f3
          · have d6 : decide (2147483647 < r.f3) = true := decide_eq_true k6
            by_cases k7 : r.f1 = 41
            · rw [if_neg (fun h => h.2 k7)] at he
              subst he
              have d7 : (r.f1 != 41) = false := by rw [bne_eq_false_iff_eq]; exact k7
              clear k6 k7
              go_wp2_with fail
              go_ret
              exact ⟨rfl, HB4.out⟩
            · rw [if_pos ⟨k6, k7⟩] at he
              subst he
              have d7 : (r.f1 != 41) = true := by rw [bne_iff_ne]; exact k7
              clear k6 k7
              go_wp2_with fail
              go_ret
              exact ⟨rfl, HB4.out⟩
          · rw [if_neg (fun h => k6 h.1)] at he
            subst he
            have d6 : decide (2147483647 < r.f3) = false := decide_eq_false k6
            clear k6
            go_wp2_with fail
            go_ret
            exact ⟨rfl, HB4.out⟩
end Go.Proofs.Ytbbeikdbioelgaa.M
set_option linter.unusedVariables false
set_option linter.unusedSimpArgs false
namespace Go.Proofs.Ytbbeikdbioelgaa.M
open Go.RowKit Go.Maps Go.Proofs.YtbbeikdbioelgaaW.PrintWords Go.Proofs.YtbbeikdbioelgaaW.PrintLast Go.Proofs.YtbbeikdbioelgaaW.PrintMore
attribute [local go_sem] max2_int min2_int max_two min_two max_three min_three max_four min_four
attribute [local go_sem ↓] Go.wp_at_zero Go.wp_at_succ
def kRaw (n : Nat) : Kd (List Value) where
  sz := n
  E := []
  K := fun _ x cs => cs = x ∧ x.length = n ∧ ∀ u ∈ x, u.oneCell' = true
  M := fun _ _ _ x cs => cs = x ∧ x.length = n ∧ ∀ u ∈ x, u.oneCell' = true
  K_len := fun h => by rw [h.1]; exact h.2.1
  K_one := fun h => by rw [h.1]; exact h.2.2
  K_below := fun _ h => h
  K_of_M := fun h => h
  M_mono := fun _ h => h
  M_bound := fun h => h
  M_move := fun _ h => h
  M_lower := fun _ h => h
def Match (w : World) (ys : List Rec) (zs : List (List Value)) : Prop := zs.length = ys.length ∧ ∀ (j : Nat) y z, ys[j]? = some y → zs[j]? = some z → kRec.K w y z
theorem Match.below {w w1 : World} {ys : List Rec} {zs : List (List Value)} (h : Match w ys zs) (hb : Below w.heap.size w w1) : Match w1 ys zs := ⟨h.1, fun j y z hy hz => kRec.K_below hb (h.2 j y z hy hz)⟩
theorem Match.nil (w : World) : Match w [] [] := ⟨rfl, fun j y z hy => absurd hy (by simp)⟩
theorem Match.append {w : World} {ys ys' : List Rec} {zs zs' : List (List Value)} (h : Match w ys zs) (h' : Match w ys' zs') : Match w (ys ++ ys') (zs ++ zs') := by
  refine ⟨by rw [List.length_append, List.length_append, h.1, h'.1], fun j y z hy hz => ?_⟩
  rcases Nat.lt_or_ge j ys.length with hj | hj
  · rw [List.getElem?_append_left hj] at hy
    rw [List.getElem?_append_left (by rw [h.1]; exact hj)] at hz
    exact h.2 j y z hy hz
  · rw [List.getElem?_append_right hj] at hy
    rw [List.getElem?_append_right (by rw [h.1]; exact hj), h.1] at hz
    exact h'.2 _ y z hy hz
theorem raw_of {w : World} {A : Option Addr} {n : Nat} {ys : List Rec} (h : kRec.C w A n ys) : ∃ zs, (kRaw 7).C w A n zs ∧ Match w ys zs := by
  classical
  obtain ⟨h1, h2, h3⟩ := h
  have key : ∀ j, ∃ c : List Value, ∀ p, ys[j]? = some p → c.length = 7 ∧ kRec.K w p c ∧ ∀ ad, A = some ad → ∀ i u, c[i]? = some u → w.cell? (ad.add (j * 7 + i)) = some u := by
    intro j
    cases hp : ys[j]? with
    | none => exact ⟨[], fun p hp' => absurd hp' (by simp)⟩
    | some p =>
      obtain ⟨ad, hA, hc⟩ := h3 (by have := (List.getElem?_eq_some_iff.1 hp).1; omega)
      obtain ⟨c, hl, hK, hcell⟩ := hc j p hp
      refine ⟨c, fun p' hp' => ?_⟩
      obtain rfl := Option.some.inj hp'
      exact ⟨hl, hK, fun ad' hA' i u hu => by rw [hA] at hA'; rw [← Option.some.inj hA']; exact hcell i u hu⟩
  refine ⟨(List.range ys.length).map fun j => Classical.choose (key j), ⟨by simpa using h1, h2, fun hn => ?_⟩, by simp, fun j y z hy hz => ?_⟩
  · obtain ⟨ad, hA, _⟩ := h3 hn
    refine ⟨ad, hA, fun j p hp => ?_⟩
    obtain ⟨hj, e⟩ := List.getElem?_eq_some_iff.1 hp
    simp at hj e
    obtain ⟨k1, k2, k3⟩ := Classical.choose_spec (key j) _ (List.getElem?_eq_getElem hj)
    subst e
    exact ⟨_, k1, ⟨rfl, k1, kRec.K_one k2⟩, k3 ad hA⟩
  · obtain ⟨hj, e⟩ := List.getElem?_eq_some_iff.1 hz
    simp at hj e
    subst e
    exact (Classical.choose_spec (key j) _ hy).2.1
theorem of_raw {w : World} {A : Option Addr} {n : Nat} {ys : List Rec} {zs : List (List Value)} (h : (kRaw 7).C w A n zs) (hm : Match w ys zs) : kRec.C w A n ys := by
  obtain ⟨h1, h2, h3⟩ := h
  refine ⟨by rw [← hm.1]; exact h1, h2, fun hn => ?_⟩
  obtain ⟨ad, hA, hc⟩ := h3 hn
  refine ⟨ad, hA, fun j p hp => ?_⟩
  have hj := (List.getElem?_eq_some_iff.1 hp).1
  have hz := List.getElem?_eq_getElem (show j < zs.length by rw [hm.1]; exact hj)
  obtain ⟨c, hl, hK, hcell⟩ := hc j _ hz
  obtain ⟨rfl, _, _⟩ := hK
  exact ⟨_, hl, hm.2 j p _ hp hz, hcell⟩
abbrev BR (w : World) (base : Nat) (v : Value) (zs : List (List Value)) : Prop := Kd.R (kRaw 7) 44 w base (fun _ => True) v zs
section
variable {ops : Array Oper} {rest : List Oper} {o : Oper} {a : Act} {Q : Exit → Act → World → Prop} {Kc : Act → World → Prop}
theorem appR_step {w0 W : World} {base : Nat} (N : Option Tmp) (hN : o.dst = N) (hw : Region.wanted o (yielded ops a.tmps) = true) (s x : Operand) (ho : o.op = .call { callee := .builtin .append, args := #[s, x], argTypes := #[24, 24] })
    {v : Value} {xs ys : List (List Value)} {A : Option Addr} {m c : Nat} (hs : a.eval s = v) (hx : a.eval x = .slice A m c)
    (HO : BR W base v xs) (HR : (kRaw 7).C W A m ys) (HB : Below base w0 W) (hbase : base ≤ W.heap.size) (hl : (xs.length + m) * 96 ≤ 140737488355328)
    (h : ∀ v1 w1, BR w1 base v1 (xs ++ ys) → Below base w0 w1 → W.grownBy w1 v.ownBlock → Kc (a.put N v1) w1) :
    if Region.wanted o (yielded ops a.tmps) = true then Oper.wp Try.prog o a W Kc Q else Kc (a.put N undef) W := by
  subst hN
  exact Kd.R_append_rows_step (kRaw 7) (w0 := w0) base hw s x 24 44 _ 96 ho Try.underlying24 infoRec rfl (by decide) (by decide) v xs ys A m c (fun _ => True) (fun _ => False) hs hx HO HR (fun _ _ hk => hk) (fun _ hk => hk.elim) (fun _ _ => trivial) HB hbase hl
    (fun v1 w1 h1 h2 h3 _ => h v1 w1 h1 h2 h3)
end
theorem BR_empty {w0 w : World} (hb : w0.heap.size ≤ w.heap.size) : BR (w.alloc (.cells #[] 44)) w0.heap.size (.slice (some ⟨w.heap.size, 0, none⟩) 0 0) [] :=
  ⟨fun _ _ => trivial, [], by have h2 := World.ownsRow_lit (base := w0.heap.size) (e := 44) (size := 7) w #[] 0 hb (by decide) rfl; exact h2, Reps.none _ _⟩
set_option maxHeartbeats 4000000 in
set_option maxRecDepth 100000 in
theorem Records_calls (m : Msg) (v : Value) (w : World) (hv : MsgAt w v m) (n1 : m.ans.length ≤ 100000) (n2 : m.auth.length ≤ 100000) (n3 : m.add.length ≤ 100000) :
    Calls Try.prog 29 #[v] w fun e w' => ∃ A c, e = .returned (.slice A (m.ans ++ m.auth ++ m.add).length c) ∧ (m.ans ++ m.auth ++ m.add).length ≤ c ∧ kRec.C w' A (m.ans ++ m.auth ++ m.add).length (m.ans ++ m.auth ++ m.add) ∧ Below w.heap.size w w' := by
  obtain ⟨A2, c2, A3, c3, A4, c4, A5, c5, rfl, l2, g2, l3, g3, l4, g4, l5, g5⟩ := hv
  obtain ⟨z3s, r3, e3⟩ := raw_of g3
  obtain ⟨z4s, r4, e4⟩ := raw_of g4
  obtain ⟨z5s, r5, e5⟩ := raw_of g5
  have R3 := Aside0.mk r3
  have R4 := Aside0.mk r4
  have R5 := Aside0.mk r5
  have E := Aside0.mk ((e3.append e4).append e5)
  have L3 := Aside0.mk e3.1
  have L4 := Aside0.mk e4.1
  have L5 := Aside0.mk e5.1
  have N1 := Aside0.mk n1
  have N2 := Aside0.mk n2
  have N3 := Aside0.mk n3
  clear g2 g3 g4 g5 r3 r4 r5 e3 e4 e5 n1 n2 n3
  go_enter Try.func29, Try.ntmps29
  go_wp2_with (((with_reducible refine gate_dst (N := 1) rfl ?_); refine box_event rfl (N := 1) rfl (cs := #[.int .u16 m.id, .int .u16 m.flags, .slice A2 m.qs.length c2, .slice A3 m.ans.length c3, .slice A4 m.auth.length c4, .slice A5 m.add.length c5]) (t := 26) (by first | (go_simp; done) | (go_simp; rfl)) ?_; intro g hg w1 hbox hb); have HX := Aside0.mk hbox; have HB := Aside0.mk hb; have HGe := Aside0.mk hg; clear hb hg; have z0 : w1.cell? ⟨g, 0, none⟩ = some (.int .u16 m.id) := (blk_cell HX.out 0).trans rfl; have z1 : w1.cell? ⟨g, 1, none⟩ = some (.int .u16 m.flags) := (blk_cell HX.out 1).trans rfl; have z2 : w1.cell? ⟨g, 2, none⟩ = some (.slice A2 m.qs.length c2) := (blk_cell HX.out 2).trans rfl; have z3 : w1.cell? ⟨g, 3, none⟩ = some (.slice A3 m.ans.length c3) := (blk_cell HX.out 3).trans rfl; have z4 : w1.cell? ⟨g, 4, none⟩ = some (.slice A4 m.auth.length c4) := (blk_cell HX.out 4).trans rfl; have z5 : w1.cell? ⟨g, 5, none⟩ = some (.slice A5 m.add.length c5) := (blk_cell HX.out 5).trans rfl; have hlt : g < w1.heap.size := blk_lt hbox; have hlne : ¬ g = w1.heap.size := Nat.ne_of_lt hlt; clear hbox)
  refine start_ (n := 11) (S := fun w' => w'.cell? ⟨g, 3, none⟩ = some (.slice A3 m.ans.length c3) ∧ w'.cell? ⟨g, 4, none⟩ = some (.slice A4 m.auth.length c4) ∧ w'.cell? ⟨g, 5, none⟩ = some (.slice A5 m.add.length c5)) (ds := []) (Array.replicate 11 false) (by kernel_rfl) (by kernel_rfl) rfl ⟨z3, z4, z5⟩ (fun hS => ?_)
  refine dpure 1 (some 4) rfl rfl (by kernel_rfl) (fun _ _ _ h => h) (by rfl) (v := ?_) (a' := ?_) ?_ ?_ ?_
  rotate_left 2
  · intro w'; go_simp; with_reducible rfl
  · simp only [Act.put, List.setIfInBounds_toArray, List.set_cons_zero, List.set_cons_succ]; rfl
  refine dtake 2 (some 5) rfl rfl (by kernel_rfl) (fun _ _ _ h => h) (by rfl) hS (v := ?_) (a' := ?_) ?_ ?_ ?_
  rotate_left 2
  · rintro w' ⟨s0,s1,s2⟩; go_simp; with_reducible rfl
  · simp only [Act.put, List.setIfInBounds_toArray, List.set_cons_zero, List.set_cons_succ]; rfl
  refine dpure 4 (some 7) rfl rfl (by kernel_rfl) (fun _ _ _ h => h) (by rfl) (v := ?_) (a' := ?_) ?_ ?_ ?_
  rotate_left 2
  · intro w'; go_simp; with_reducible rfl
  · simp only [Act.put, List.setIfInBounds_toArray, List.set_cons_zero, List.set_cons_succ]; rfl
  refine dtake 5 (some 8) rfl rfl (by kernel_rfl) (fun _ _ _ h => h) (by rfl) hS (v := ?_) (a' := ?_) ?_ ?_ ?_
  rotate_left 2
  · rintro w' ⟨s0,s1,s2⟩; go_simp; with_reducible rfl
  · simp only [Act.put, List.setIfInBounds_toArray, List.set_cons_zero, List.set_cons_succ]; rfl
  refine dpure 7 (some 10) rfl rfl (by kernel_rfl) (fun _ _ _ h => h) (by rfl) (v := ?_) (a' := ?_) ?_ ?_ ?_
  rotate_left 2
  · intro w'; go_simp; with_reducible rfl
  · simp only [Act.put, List.setIfInBounds_toArray, List.set_cons_zero, List.set_cons_succ]; rfl
  refine dtake 8 (some 11) rfl rfl (by kernel_rfl) (fun _ _ _ h => h) (by rfl) hS (v := ?_) (a' := ?_) ?_ ?_ ?_
  rotate_left 2
  · rintro w' ⟨s0,s1,s2⟩; go_simp; with_reducible rfl
  · simp only [Act.put, List.setIfInBounds_toArray, List.set_cons_zero, List.set_cons_succ]; rfl
  refine done1 0 (some 3) rfl rfl (by kernel_rfl) (by decide) (fun K hK => ?_)
  refine value_ (v := .slice (some ⟨w1.drew.heap.size, 0, none⟩) 0 0) (w1 := w1.drew.alloc (.cells #[] 44)) (by rfl) rfl (by go_simp) ?_
  have hb1 := HB.out
  have ho1 := BR_empty (w0 := w) (w := w1.drew) hb1.size
  have hb2 : Below w.heap.size w (w1.drew.alloc (.cells #[] 44)) := hb1.drew.alloc hb1.size _
  have hx1 := blk_alloc (blk_drew HX.out) (.cells #[] 44)
  generalize w1.drew.alloc (.cells #[] 44) = wa at *
  generalize hv0 : Value.slice (some ⟨w1.drew.heap.size, 0, none⟩) 0 0 = va at *
  clear hv0
  refine hK.out _ _ ⟨(blk_cell hx1 3).trans rfl, (blk_cell hx1 4).trans rfl, (blk_cell hx1 5).trans rfl⟩ (fun hS => ?_)
  clear hK K
  refine norm_ (a' := ?_) ?_ ?_
  rotate_left
  · simp only [Act.put, List.setIfInBounds_toArray, List.set_cons_zero, List.set_cons_succ]; rfl
  refine done1 3 (some 6) rfl rfl (by kernel_rfl) (by decide) (fun K hK => ?_)
  refine appR_step (w0 := w) (base := w.heap.size) (c := c3) (some 6) rfl (by rfl) (.tmp 3) (.tmp 5) (by kernel_rfl) (by kernel_rfl) (by kernel_rfl) ho1 (Kd.C_below R3.out hb2) hb2 hb2.size (by have := N1.out; simp; omega) ?_
  intro v3 w3 ho3 hb3 hg3
  have hx3 := blk_grown hx1 hg3 (Kd.R_ne ho1 hx1 (by decide))
  refine hK.out _ _ ⟨(blk_cell hx3 3).trans rfl, (blk_cell hx3 4).trans rfl, (blk_cell hx3 5).trans rfl⟩ (fun hS => ?_)
  clear hK K
  refine norm_ (a' := ?_) ?_ ?_
  rotate_left
  · simp only [Act.put, List.setIfInBounds_toArray, List.set_cons_zero, List.set_cons_succ]; rfl
  refine done1 6 (some 9) rfl rfl (by kernel_rfl) (by decide) (fun K hK => ?_)
  refine appR_step (w0 := w) (base := w.heap.size) (c := c4) (some 9) rfl (by rfl) (.tmp 6) (.tmp 8) (by kernel_rfl) (by kernel_rfl) (by kernel_rfl) ho3 (Kd.C_below R4.out hb3) hb3 hb3.size (by have := N1.out; have := N2.out; have := L3.out; simp; omega) ?_
  intro v4 w4 ho4 hb4 hg4
  have hx4 := blk_grown hx3 hg4 (Kd.R_ne ho3 hx3 (by decide))
  refine hK.out _ _ ⟨(blk_cell hx4 3).trans rfl, (blk_cell hx4 4).trans rfl, (blk_cell hx4 5).trans rfl⟩ (fun hS => ?_)
  clear hK K
  refine norm_ (a' := ?_) ?_ ?_
  rotate_left
  · simp only [Act.put, List.setIfInBounds_toArray, List.set_cons_zero, List.set_cons_succ]; rfl
  refine done1 9 (some 12) rfl rfl (by kernel_rfl) (by decide) (fun K hK => ?_)
  refine appR_step (w0 := w) (base := w.heap.size) (c := c5) (some 12) rfl (by rfl) (.tmp 9) (.tmp 11) (by kernel_rfl) (by kernel_rfl) (by kernel_rfl) ho4 (Kd.C_below R5.out hb4) hb4 hb4.size (by have := N1.out; have := N2.out; have := N3.out; have := L3.out; have := L4.out; simp; omega) ?_
  intro v5 w5 ho5 hb5 hg5
  have hx5 := blk_grown hx4 hg5 (Kd.R_ne ho4 hx4 (by decide))
  obtain ⟨A, c, rfl, hlc, hrc⟩ := Kd.R_reads ho5
  have hE := E.out.below hb5
  have hC := of_raw (ys := m.ans ++ m.auth ++ m.add) hrc (by simpa using hE)
  have hln : ([] ++ z3s ++ z4s ++ z5s).length = (m.ans ++ m.auth ++ m.add).length := by simpa using E.out.1
  rw [hln] at hC hlc
  refine hK.out _ _ ⟨(blk_cell hx5 3).trans rfl, (blk_cell hx5 4).trans rfl, (blk_cell hx5 5).trans rfl⟩ (fun hS => ?_)
  clear hK K
  refine norm_ (a' := ?_) ?_ ?_
  rotate_left
  · simp only [Act.put, List.setIfInBounds_toArray, List.set_cons_zero, List.set_cons_succ]; rfl
  refine dpure 10 (some 2) rfl rfl (by kernel_rfl) (fun _ _ _ h => h) (by rfl) (v := ?_) (a' := ?_) ?_ ?_ ?_
  rotate_left 2
  · intro w'; go_simp; with_reducible rfl
  · simp only [Act.put, List.setIfInBounds_toArray, List.set_cons_zero, List.set_cons_succ]; rfl
  refine done_ (by kernel_rfl) ?_
  have HC := Aside0.mk hC
  have HLn := Lib.hid hln
  have HB5 := Aside0.mk hb5
  clear hC hln hb5 ho5 hrc hE hx5 ho4 hb4 hx4 ho3 hb3 hx3 ho1 hb2 hx1 hb1 hS z0 z1 z2 z3 z4 z5 hg3 hg4 hg5
  go_wp2_with fail
  go_ret
  exact ⟨A, c, congrArg (fun n => Ending.returned (.slice A n c)) (show z3s.length + (z4s.length + z5s.length) = (m.ans ++ m.auth ++ m.add).length by rw [L3.out, L4.out, L5.out]; simp), hlc, HC.out, HB5.out⟩
end Go.Proofs.Ytbbeikdbioelgaa.M
set_option linter.unusedVariables false
set_option linter.unusedSimpArgs false
namespace Go.Proofs.Ytbbeikdbioelgaa.M
open Go.RowKit Go.Maps Go.Proofs.YtbbeikdbioelgaaW.PrintWords Go.Proofs.YtbbeikdbioelgaaW.PrintLast Go.Proofs.YtbbeikdbioelgaaW.PrintMore
section
variable {s' s : ByteArray}
end
section
variable {s : ByteArray} {c : Int}
theorem nameR_err (K : Nat) : ∀ {b : List Int} {part nx a : Int}, nameR K s b part nx a = .error c → c ≠ 0 := by
  induction K with
  | zero => intro b part nx a h; have := Except.error.inj h; omega
  | succ K ih =>
    intro b part nx a h
    unfold nameR at h
    repeat' split at h
    all_goals first | exact ih h | (have := Except.error.inj h; omega) | exact absurd h (by simp)
theorem bareR_err (K : Nat) : ∀ {b : List Int} {a : Int}, bareR K s b a = .error c → c ≠ 0 := by
  induction K with
  | zero => intro b a h; have := Except.error.inj h; omega
  | succ K ih =>
    intro b a h
    unfold bareR at h
    repeat' split at h
    all_goals first | exact ih h | (have := Except.error.inj h; omega) | exact absurd h (by simp)
theorem within_err {k a en : Int} (h : withinF s k a en = .error c) : c ≠ 0 := by
  unfold withinF at h
  repeat' split at h
  all_goals first | exact bareR_err _ h | exact nameR_err _ h | (have := Except.error.inj h; omega)
theorem numsR_err {sz en : Int} (K : Nat) : ∀ {out : List Int} {a : Int}, numsR s sz en K out a = .error c → c ≠ 0 := by
  induction K with
  | zero => intro out a h; exact absurd h (by simp [numsR])
  | succ K ih =>
    intro out a h
    unfold numsR at h
    repeat' split at h
    all_goals first | exact ih h | (have := Except.error.inj h; omega) | exact absurd h (by simp)
theorem namesR_err {k en : Int} (K : Nat) : ∀ {out : List ByteArray} {a : Int}, namesR s k en K out a = .error c → c ≠ 0 := by
  induction K with
  | zero => intro out a h; exact absurd h (by simp [namesR])
  | succ K ih =>
    intro out a h
    unfold namesR at h
    cases h1 : withinF s k a en with
    | error d =>
      rw [h1] at h
      rw [← Except.error.inj h]
      exact within_err h1
    | ok y => rw [h1] at h; exact ih h
theorem textsR_err {en : Int} (K : Nat) : ∀ {out : List ByteArray} {a : Int}, textsR s en K out a = .error c → c ≠ 0 := by
  induction K with
  | zero => intro out a h; have := Except.error.inj h; omega
  | succ K ih =>
    intro out a h
    unfold textsR at h
    repeat' split at h
    all_goals first | exact ih h | (have := Except.error.inj h; omega) | exact absurd h (by simp)
theorem dataE_err {en : Int} {names : List ByteArray} {nums : List Int} {x : List ByteArray × Int} (h : dataE en names nums x = .error c) : c ≠ 0 := by
  obtain ⟨t, a⟩ := x
  rw [dataE_eq] at h
  split at h
  · exact absurd h (by simp)
  · have := Except.error.inj h; omega
theorem dataT_err {k en a : Int} {names : List ByteArray} {nums : List Int} (h : dataT s k en names nums a = .error c) : c ≠ 0 := by
  by_cases c1 : k = 16
  · rw [dataT_txt c1] at h
    cases h1 : textsR s en ((en - a).toNat + 1) [] a with
    | error d => rw [h1] at h; rw [← Except.error.inj h]; exact textsR_err _ h1
    | ok y => rw [h1] at h; exact dataE_err h
  by_cases c2 : (shapeOf k).1 + (shapeOf k).2.1 = 0
  · rw [dataT_free c1 c2] at h
    cases h1 : partF s a (en - a) with
    | none => rw [h1] at h; have := Except.error.inj h; omega
    | some t => rw [h1] at h; exact dataE_err h
  · rw [dataT_none c1 c2] at h
    exact dataE_err h
theorem dataM_err {k en a : Int} {nums : List Int} (h : dataM s k en (nums, a) = .error c) : c ≠ 0 := by
  unfold dataM at h
  dsimp only at h
  cases h1 : namesR s k en (shapeOf k).1 [] a with
  | error d => rw [h1] at h; rw [← Except.error.inj h]; exact namesR_err _ h1
  | ok y =>
    obtain ⟨names, a2⟩ := y
    rw [h1] at h
    simp only [] at h
    by_cases c6 : k = 6
    · rw [dataN_six c6] at h
      cases h2 : numsR s 4 en (shapeOf k).2.1 [] a2 with
      | error d => rw [h2] at h; rw [← Except.error.inj h]; exact numsR_err _ h2
      | ok y => rw [h2] at h; exact dataT_err h
    · rw [dataN_not c6] at h
      exact dataT_err h
theorem dataR_err {k en a : Int} (h : dataR s k en a = .error c) : c ≠ 0 := by
  unfold dataR at h
  by_cases c6 : k = 6
  · rw [if_pos c6] at h
    exact dataM_err h
  · rw [if_neg c6] at h
    cases h1 : numsR s 2 en (shapeOf k).2.1 [] a with
    | error d => rw [h1] at h; rw [← Except.error.inj h]; exact numsR_err _ h1
    | ok y =>
      obtain ⟨nums, a1⟩ := y
      rw [h1] at h
      exact dataM_err h
theorem quesR_err {a : Int} (h : quesR s a = .error c) : c ≠ 0 := by
  unfold quesR at h
  cases hn : nameAt s a with
  | error d => rw [hn] at h; rw [← Except.error.inj h]; exact nameR_err _ hn
  | ok y =>
    obtain ⟨b, a1⟩ := y
    rw [hn] at h
    simp only [] at h
    repeat' split at h
    all_goals first | (have := Except.error.inj h; omega) | exact absurd h (by simp)
theorem recR_err {a : Int} (h : recR s a = .error c) : c ≠ 0 := by
  unfold recR at h
  cases hn : nameAt s a with
  | error d => rw [hn] at h; rw [← Except.error.inj h]; exact nameR_err _ hn
  | ok y =>
    obtain ⟨b, a1⟩ := y
    rw [hn] at h
    simp only [] at h
    cases h1 : getF s a1 2 with
    | none => rw [h1] at h; have := Except.error.inj h; omega
    | some t =>
      rw [h1] at h
      simp only [] at h
      cases h2 : getF s (a1 + 2) 2 with
      | none => rw [h2] at h; have := Except.error.inj h; omega
      | some c =>
        rw [h2] at h
        simp only [] at h
        cases h3 : getF s (a1 + 2 + 2) 4 with
        | none => rw [h3] at h; have := Except.error.inj h; omega
        | some l =>
          rw [h3] at h
          simp only [] at h
          cases h4 : getF s (a1 + 2 + 2 + 4) 2 with
          | none => rw [h4] at h; have := Except.error.inj h; omega
          | some n =>
            rw [h4] at h
            simp only [] at h
            by_cases c1 : (s.size : Int) - (a1 + 2 + 2 + 4 + 2) < n
            · rw [if_pos c1] at h; have := Except.error.inj h; omega
            rw [if_neg c1] at h
            cases hd : dataR s t (a1 + 2 + 2 + 4 + 2 + n) (a1 + 2 + 2 + 4 + 2) with
            | error d => rw [hd] at h; rw [← Except.error.inj h]; exact dataR_err hd
            | ok y =>
              obtain ⟨⟨names, nums, texts⟩, a2⟩ := y
              rw [hd] at h
              simp only [] at h
              split at h
              · exact absurd h (by simp)
              · rename_i hk
                rw [← Except.error.inj h]
                exact hk
theorem recsR_err (K : Nat) : ∀ {out : List Rec} {a : Int}, recsR s K out a = .error c → c ≠ 0 := by
  induction K with
  | zero => intro out a h; exact absurd h (by simp [recsR])
  | succ K ih =>
    intro out a h
    unfold recsR at h
    cases h1 : recR s a with
    | error d => rw [h1] at h; rw [← Except.error.inj h]; exact recR_err h1
    | ok y => rw [h1] at h; exact ih h
theorem quessR_err (K : Nat) : ∀ {out : List Ques} {a : Int}, quessR s K out a = .error c → c ≠ 0 := by
  induction K with
  | zero => intro out a h; exact absurd h (by simp [quessR])
  | succ K ih =>
    intro out a h
    unfold quessR at h
    cases h1 : quesR s a with
    | error d => rw [h1] at h; rw [← Except.error.inj h]; exact quesR_err h1
    | ok y => rw [h1] at h; exact ih h
theorem cntR_err (K : Nat) : ∀ {out : List Int} {a : Int}, cntR s K out a = .error c → c ≠ 0 := by
  induction K with
  | zero => intro out a h; exact absurd h (by simp [cntR])
  | succ K ih =>
    intro out a h
    unfold cntR at h
    cases h1 : getF s a 2 with
    | none => rw [h1] at h; have := Except.error.inj h; omega
    | some y => rw [h1] at h; exact ih h
theorem msgR_err (h : msgR s = .error c) : c ≠ 0 := by
  unfold msgR at h
  cases h1 : getF s 0 2 with
  | none => rw [h1] at h; have := Except.error.inj h; omega
  | some id =>
    rw [h1] at h
    simp only [] at h
    cases h2 : getF s 2 2 with
    | none => rw [h2] at h; have := Except.error.inj h; omega
    | some fl =>
      rw [h2] at h
      simp only [] at h
      cases h3 : cntR s 4 [] 4 with
      | error d => rw [h3] at h; rw [← Except.error.inj h]; exact cntR_err _ h3
      | ok y =>
        obtain ⟨l, b⟩ := y
        rw [h3] at h
        simp only [msgA] at h
        by_cases c1 : 256 < l.sum
        · rw [if_pos c1] at h; have := Except.error.inj h; omega
        rw [if_neg c1] at h
        cases h4 : quessR s (l.getD 0 0).toNat [] b with
        | error d => rw [h4] at h; rw [← Except.error.inj h]; exact quessR_err _ h4
        | ok y =>
          obtain ⟨qs, b1⟩ := y
          rw [h4] at h
          simp only [msgB] at h
          cases h5 : recsR s (l.getD 1 0).toNat [] b1 with
          | error d => rw [h5] at h; rw [← Except.error.inj h]; exact recsR_err _ h5
          | ok y =>
            obtain ⟨ans, b2⟩ := y
            rw [h5] at h
            simp only [msgC] at h
            cases h6 : recsR s (l.getD 2 0).toNat [] b2 with
            | error d => rw [h6] at h; rw [← Except.error.inj h]; exact recsR_err _ h6
            | ok y =>
              obtain ⟨auth, b3⟩ := y
              rw [h6] at h
              simp only [msgD] at h
              cases h7 : recsR s (l.getD 3 0).toNat [] b3 with
              | error d => rw [h7] at h; rw [← Except.error.inj h]; exact recsR_err _ h7
              | ok y =>
                obtain ⟨add, b4⟩ := y
                rw [h7] at h
                simp only [msgE] at h
                split at h
                · have := Except.error.inj h; omega
                · exact absurd h (by simp)
end
theorem readF_ok {s : ByteArray} {m : Msg} (h : readF s = (m, 0)) : ¬ 65535 < s.size ∧ ∃ a, msgR s = .ok (m, a) := by
  unfold readF at h
  by_cases hl : 65535 < s.size
  · rw [if_pos hl] at h
    exact absurd (Prod.mk.inj h).2 (by decide)
  · rw [if_neg hl] at h
    refine ⟨hl, ?_⟩
    cases hm : msgR s with
    | error c =>
      rw [hm] at h
      exact absurd (Prod.mk.inj h).2 (msgR_err hm)
    | ok y =>
      obtain ⟨m', a⟩ := y
      rw [hm] at h
      obtain rfl := (Prod.mk.inj h).1
      exact ⟨a, rfl⟩
end Go.Proofs.Ytbbeikdbioelgaa.M
