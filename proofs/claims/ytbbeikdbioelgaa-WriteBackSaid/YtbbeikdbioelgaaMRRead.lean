/- Walks of package dnsread: message. -/
import Derived.Test.YtbbeikdbioelgaaMRRec
set_option linter.unusedVariables false
set_option linter.unusedSimpArgs false
namespace Go.Proofs.Ytbbeikdbioelgaa.M
open Go.RowKit Go.Maps Go.Proofs.YtbbeikdbioelgaaW.PrintWords Go.Proofs.YtbbeikdbioelgaaW.PrintLast Go.Proofs.YtbbeikdbioelgaaW.PrintMore
attribute [local go_sem] max2_int min2_int max_two min_two max_three min_three max_four min_four
attribute [local go_sem ↓] Go.wp_at_zero Go.wp_at_succ
def cntR (s : ByteArray) : Nat → List Int → Int → Except Int (List Int × Int)
  | 0, out, a => .ok (out, a)
  | k + 1, out, a => match getF s a 2 with
    | none => .error 2
    | some n => cntR s k (out ++ [n]) (a + 2)
def quessR (s : ByteArray) : Nat → List Ques → Int → Except Int (List Ques × Int)
  | 0, out, a => .ok (out, a)
  | k + 1, out, a => match quesR s a with
    | .error c => .error c
    | .ok (q, a') => quessR s k (out ++ [q]) a'
def msgE (s : ByteArray) (id fl : Int) (qs : List Ques) (ans auth : List Rec) : List Rec × Int → Except Int (Msg × Int)
  | (add, a) => if a < s.size then .error 7 else .ok (⟨id, fl, qs, ans, auth, add⟩, a)
def msgD (s : ByteArray) (id fl : Int) (l : List Int) (qs : List Ques) (ans : List Rec) : List Rec × Int → Except Int (Msg × Int)
  | (auth, a) => match recsR s (l.getD 3 0).toNat [] a with
    | .error c => .error c
    | .ok x => msgE s id fl qs ans auth x
def msgC (s : ByteArray) (id fl : Int) (l : List Int) (qs : List Ques) : List Rec × Int → Except Int (Msg × Int)
  | (ans, a) => match recsR s (l.getD 2 0).toNat [] a with
    | .error c => .error c
    | .ok x => msgD s id fl l qs ans x
def msgB (s : ByteArray) (id fl : Int) (l : List Int) : List Ques × Int → Except Int (Msg × Int)
  | (qs, a) => match recsR s (l.getD 1 0).toNat [] a with
    | .error c => .error c
    | .ok x => msgC s id fl l qs x
def msgA (s : ByteArray) (id fl : Int) : List Int × Int → Except Int (Msg × Int)
  | (l, a) => if 256 < l.sum then .error 6 else
    match quessR s (l.getD 0 0).toNat [] a with
    | .error c => .error c
    | .ok x => msgB s id fl l x
/-- The message of bytes. -/
def msgR (s : ByteArray) : Except Int (Msg × Int) :=
  match getF s 0 2 with
  | none => .error 2
  | some id => match getF s 2 2 with
    | none => .error 2
    | some fl => match cntR s 4 [] 4 with
      | .error c => .error c
      | .ok x => msgA s id fl x
def QuessP (B : Nat) (l : List Ques) (v : Value) (w : World) : Prop := Kd.R kQues 39 w B (fun _ => True) v l
def MsgP (B : Nat) (m : Msg) (v : Value) (w : World) : Prop := ∃ v2 v3 v4 v5, v = .agg #[.int .u16 m.id, .int .u16 m.flags, v2, v3, v4, v5] ∧ QuessP B m.qs v2 w ∧ RecsP B m.ans v3 w ∧ RecsP B m.auth v4 w ∧ RecsP B m.add v5 w
def zMsg : Array Value := #[.int .u16 0, .int .u16 0, .slice none 0 0, .slice none 0 0, .slice none 0 0, .slice none 0 0]
/-- A message that is being read: the reader, the result's block, the message's, the counts'. -/
structure MAt (w0 w : World) (g r m c : Nat) (s : ByteArray) (a : Int) (mc cc : Array Value) : Prop where
  rd : RAt w g s a
  o : Only g w0 w
  vr : SAt w r zMsg 26
  vm : SAt w m mc 26
  vc : SAt w c cc 116
  rm : r ≠ m
  rc : r ≠ c
  mc' : m ≠ c
  sr : w0.heap.size ≤ r
  sm : w0.heap.size ≤ m
  sc : w0.heap.size ≤ c
section
variable {w0 w w1 : World} {g r m c : Nat} {s : ByteArray} {a a' : Int} {mc cc : Array Value}
theorem MAt.call (h : MAt w0 w g r m c s a mc cc) (ho : Only g w w1) (hr : RAt w1 g s a') : MAt w0 w1 g r m c s a' mc cc :=
  ⟨hr, h.o.trans ho, h.vr.only h.rd (by decide) ho, h.vm.only h.rd (by decide) ho, h.vc.only h.rd (by decide) ho, h.rm, h.rc, h.mc', h.sr, h.sm, h.sc⟩
theorem MAt.drew (h : MAt w0 w g r m c s a mc cc) : MAt w0 w.drew g r m c s a mc cc := h.call (Only.refl g w).drew h.rd
theorem MAt.setm (h : MAt w0 w g r m c s a mc cc) (j : Nat) (u : Value) : MAt w0 (w.setCell ⟨m, j, none⟩ u) g r m c s a (mc.setIfInBounds j u) cc :=
  ⟨h.rd.far (Ne.symm (h.vm.ne h.rd (by decide))) j u, h.o.setNew h.sm j u, h.vr.far h.rm j u, h.vm.set j u, h.vc.far (Ne.symm h.mc') j u, h.rm, h.rc, h.mc', h.sr, h.sm, h.sc⟩
theorem MAt.setc (h : MAt w0 w g r m c s a mc cc) (j : Nat) (u : Value) : MAt w0 (w.setCell ⟨c, j, none⟩ u) g r m c s a mc (cc.setIfInBounds j u) :=
  ⟨h.rd.far (Ne.symm (h.vc.ne h.rd (by decide))) j u, h.o.setNew h.sc j u, h.vr.far h.rc j u, h.vm.far h.mc' j u, h.vc.set j u, h.rm, h.rc, h.mc', h.sr, h.sm, h.sc⟩
theorem MAt.grown {row : Option Nat} (h : MAt w0 w g r m c s a mc cc) (hg : w.grownBy w1 row) (hb : ∀ k, row = some k → w0.heap.size ≤ k) (n1 : some g ≠ row) (n2 : some r ≠ row) (n3 : some m ≠ row) (n4 : some c ≠ row) : MAt w0 w1 g r m c s a mc cc :=
  ⟨blk_grown h.rd hg n1, h.o.of_grown hg hb, blk_grown h.vr hg n2, blk_grown h.vm hg n3, blk_grown h.vc hg n4, h.rm, h.rc, h.mc', h.sr, h.sm, h.sc⟩
end
theorem four_nats {l : List Int} (hl : l.length = 4) (h : ∀ x ∈ l, 0 ≤ x ∧ x ≤ 65535) : ∃ n0 n1 n2 n3 : Nat, l = [(n0 : Int), (n1 : Int), (n2 : Int), (n3 : Int)] := by
  match l, hl with
  | [a, b, c, d], _ =>
    have h0 := h a (by simp)
    have h1 := h b (by simp)
    have h2 := h c (by simp)
    have h3 := h d (by simp)
    exact ⟨a.toNat, b.toNat, c.toNat, d.toNat, by rw [Int.toNat_of_nonneg h0.1, Int.toNat_of_nonneg h1.1, Int.toNat_of_nonneg h2.1, Int.toNat_of_nonneg h3.1]⟩
theorem quesR_at {s : ByteArray} {a : Int} {q : Ques} {a' : Int} (h : quesR s a = .ok (q, a')) : 0 ≤ a' ∧ a' ≤ s.size := by
  unfold quesR at h
  cases hn : nameAt s a with
  | error c => rw [hn] at h; exact absurd h (by simp)
  | ok x =>
    obtain ⟨b, a1⟩ := x
    rw [hn] at h
    simp only [] at h
    cases h1 : getF s a1 2 with
    | none => rw [h1] at h; exact absurd h (by simp)
    | some t =>
      rw [h1] at h
      simp only [] at h
      cases h2 : getF s (a1 + 2) 2 with
      | none => rw [h2] at h; exact absurd h (by simp)
      | some c =>
        rw [h2] at h
        have := (Prod.mk.inj (Except.ok.inj h)).2
        have := get2 h2
        omega
theorem recsR_at {s : ByteArray} (K : Nat) : ∀ {out : List Rec} {a : Int} {out' : List Rec} {a' : Int}, recsR s K out a = .ok (out', a') → 0 ≤ a ∧ a ≤ s.size → 0 ≤ a' ∧ a' ≤ s.size := by
  induction K with
  | zero =>
    intro out a out' a' h ha
    have := (Prod.mk.inj (Except.ok.inj h)).2
    omega
  | succ K ih =>
    intro out a out' a' h ha
    unfold recsR at h
    cases h1 : recR s a with
    | error c => rw [h1] at h; exact absurd h (by simp)
    | ok x =>
      obtain ⟨r, a2⟩ := x
      rw [h1] at h
      exact ih h (recR_at h1)
theorem MsgP.set {B : Nat} {mm : Msg} {v : Value} {w : World} {r : Nat} {cs : Array Value} (h : MsgP B mm v w) (hx : SAt w r cs 26) (j : Nat) (u : Value) : MsgP B mm v (w.setCell ⟨r, j, none⟩ u) := by
  obtain ⟨v2, v3, v4, v5, h1, h2, h3, h4, h5⟩ := h
  exact ⟨v2, v3, v4, v5, h1, Kd.R_set h2 hx (by decide) j u, Kd.R_set h3 hx (by decide) j u, Kd.R_set h4 hx (by decide) j u, Kd.R_set h5 hx (by decide) j u⟩
/-- The counts' cells. -/
def cells4 (l : List Int) : Array Value := (l.map (Value.int .i64)).toArray
theorem cells4_set (l : List Int) (i : Nat) (n : Int) : (cells4 l).setIfInBounds i (.int .i64 n) = cells4 (l.set i n) := by
  simp [cells4]
theorem set_next (out : List Int) (k : Nat) (n : Int) : (out ++ List.replicate (k + 1) (0 : Int)).set out.length n = (out ++ [n]) ++ List.replicate k 0 := by
  rw [List.set_append_right _ _ (Nat.le_refl _), Nat.sub_self, List.replicate_succ, List.set_cons_zero, List.append_assoc]
  rfl
set_option maxHeartbeats 8000000 in
set_option maxRecDepth 100000 in
theorem message_reads {w : World} {g : Nat} {s : ByteArray} (h : RAt w g s 0) (hs : s.size ≤ 1000000) :
    Calls Try.prog 47 #[.pointer (some ⟨g, 0, none⟩)] w fun e w' => Ends (MsgP w.heap.size) (msgR s) w g s e w' := by
  obtain ⟨R, hR⟩ : ∃ R, msgR s = R := ⟨_, rfl⟩
  rw [hR]
  unfold msgR at hR
  have HS := Lib.hid hs
  have p0 : (s.size : Int) ≤ 1000000 := by omega
  go_enter Try.func47, Try.ntmps47
  go_wp2_with fail
  have hr1 := h.below (below_alloc (Below.refl _ _) (.cells zMsg 26 (0, 0)))
  have hv1 := SAt.new w zMsg 26
  have ho1 := (Only.refl g w).alloc (.cells zMsg 26 (0, 0))
  cases h1 : getF s 0 2 with
  | none =>
    rw [h1] at hR
    refine (num_no hr1 hs h1).mono ?_
    rintro e w' ⟨rfl, ho⟩
    exact ⟨rfl, Ends.err hR.symm (ho1.trans ho)⟩
  | some id =>
    rw [h1] at hR
    simp only [] at hR
    obtain ⟨i0, i1, _, i3, hwi⟩ := get2 h1
    refine (num_yes hr1 hs h1).mono ?_
    rintro e w2 ⟨rfl, hr2, ho⟩
    have ho2 := ho1.trans ho
    have hv2 := hv1.only hr1 (by decide) ho
    rw [show (0 : Int) + 2 = 2 from rfl] at hr2
    clear h1 hr1 hv1 ho1 ho h
    go_wp2_with fail
    have hm3 := SAt.new w2 #[.int .u16 id, .int .u16 0, .slice none 0 0, .slice none 0 0, .slice none 0 0, .slice none 0 0] 26
    have hr3 := hr2.below (below_alloc (Below.refl _ _) (.cells #[.int .u16 id, .int .u16 0, .slice none 0 0, .slice none 0 0, .slice none 0 0, .slice none 0 0] 26 (0, 0)))
    have ho3 := ho2.alloc (.cells #[.int .u16 id, .int .u16 0, .slice none 0 0, .slice none 0 0, .slice none 0 0, .slice none 0 0] 26 (0, 0))
    have hv3 := hv2.below (below_alloc (Below.refl _ _) (.cells #[.int .u16 id, .int .u16 0, .slice none 0 0, .slice none 0 0, .slice none 0 0, .slice none 0 0] 26 (0, 0)))
    have hsz := ho2.size
    have hlt := hv2.lt
    clear hr2 ho2 hv2
    generalize hW : w2.alloc (.cells #[.int .u16 id, .int .u16 0, .slice none 0 0, .slice none 0 0, .slice none 0 0, .slice none 0 0] 26 (0, 0)) = w3 at *
    obtain ⟨m, hm⟩ : ∃ m, w2.heap.size = m := ⟨_, rfl⟩
    obtain ⟨r, hr⟩ : ∃ r, w.heap.size = r := ⟨_, rfl⟩
    rw [hm] at hm3 hsz hlt
    rw [hr] at hv3 hlt
    have hrm : r ≠ m := by omega
    have hsr : w.heap.size ≤ r := by omega
    rw [hm]
    rw [hr]
    clear hm hr hW hlt
    cases h2 : getF s 2 2 with
    | none =>
      rw [h2] at hR
      refine (num_no hr3 hs h2).mono ?_
      rintro e w' ⟨rfl, ho⟩
      exact ⟨rfl, Ends.err hR.symm (ho3.trans ho)⟩
    | some fl =>
      rw [h2] at hR
      simp only [] at hR
      obtain ⟨f0, f1, _, f3, hwf⟩ := get2 h2
      refine (num_yes hr3 hs h2).mono ?_
      rintro e w4 ⟨rfl, hr4, ho⟩
      rw [show (2 : Int) + 2 = 4 from rfl] at hr4
      have ho4 := ho3.trans ho
      have hv4 := hv3.only hr3 (by decide) ho
      have hm4 := hm3.only hr3 (by decide) ho
      have hgm := hm4.ne hr4 (by decide)
      have y := hm4.is 1 rfl
      have f := hm4.frozen 1
      clear h2 hr3 ho3 hv3 hm3 ho
      go_wp2_with fail
      have ho5 := ho4.setNew hsz 1 (.int .u16 fl)
      have hr5 := hr4.far (Ne.symm hgm) 1 (.int .u16 fl)
      have hv5 := hv4.far hrm 1 (.int .u16 fl)
      have hm5 : SAt (w4.setCell ⟨m, 1, none⟩ (.int .u16 fl)) m #[.int .u16 id, .int .u16 fl, .slice none 0 0, .slice none 0 0, .slice none 0 0, .slice none 0 0] 26 := hm4.set 1 (.int .u16 fl)
      have hc6 := SAt.new (w4.setCell ⟨m, 1, none⟩ (.int .u16 fl)) (cells4 [0, 0, 0, 0]) 116
      rw [show (w4.setCell ⟨m, 1, none⟩ (.int .u16 fl)).heap.size = w4.heap.size by simp [World.setCell]] at hc6
      have hM : MAt w ((w4.setCell ⟨m, 1, none⟩ (.int .u16 fl)).alloc (.cells (cells4 [0, 0, 0, 0]) 116 (0, 0))) g r m w4.heap.size s 4 #[.int .u16 id, .int .u16 fl, .slice none 0 0, .slice none 0 0, .slice none 0 0, .slice none 0 0] (cells4 [0, 0, 0, 0]) :=
        ⟨hr5.below (below_alloc (Below.refl _ _) _), ho5.alloc _, hv5.below (below_alloc (Below.refl _ _) _), hm5.below (below_alloc (Below.refl _ _) _), hc6, hrm, by have := hv4.lt; omega, by have := hm4.lt; omega, hsr, hsz, by have := ho4.size; omega⟩
      have HM := Aside0.mk hM
      have HQ := Aside0.mk hR
      obtain ⟨RC, hRC⟩ : ∃ RC, cntR s 4 [] 4 = RC := ⟨_, rfl⟩
      rw [hRC] at HQ
      have HL := Aside0.mk hRC
      clear hR hRC hM ho5 hr5 hv5 hm5 hc6 ho4 hr4 hv4 hm4 y f
      obtain ⟨c, hc⟩ : ∃ c, w4.heap.size = c := ⟨_, rfl⟩
      rw [hc] at HM ⊢
      clear hc
      go_loopg [5, 15] 4 (fun kq v5 v15 w' => ∃ (i : Nat) (out : List Int) (at' all : Int), v5 = .int .i64 all ∧ v15 = .int .i64 i ∧ Aside0 (cntR s kq out at' = RC) ∧ Aside0 (kq + i = 4) ∧ Aside0 (out.length = i) ∧ Aside0 (out.sum = all) ∧ Aside0 (∀ x ∈ out, 0 ≤ x ∧ x ≤ 65535) ∧ Aside0 (0 ≤ all ∧ all ≤ 65535 * (i : Int)) ∧ Aside0 (0 ≤ at' ∧ at' ≤ s.size) ∧ Aside0 (MAt w w' g r m c s at' #[.int .u16 id, .int .u16 fl, .slice none 0 0, .slice none 0 0, .slice none 0 0, .slice none 0 0] (cells4 (out ++ List.replicate kq 0))))
      case atStart => exact ⟨0, [], 4, 0, rfl, rfl, HL, ⟨rfl⟩, ⟨rfl⟩, ⟨rfl⟩, ⟨fun x hx => absurd hx (by simp)⟩, ⟨by omega⟩, ⟨by omega⟩, HM⟩
      case round =>
        clear HL HM
        obtain ⟨i, out, at', all, rfl, rfl, HL, HK, HLen, HSum, HAll, HB, HA, HM⟩ := hrel
        have hl := HL.out
        clear HL
        cases gk with
        | zero =>
          obtain rfl : i = 4 := by have := HK.out; omega
          have hq := HQ.out
          rw [← hl] at hq
          have hq : msgA s id fl (out, at') = R := hq
          obtain ⟨n0, n1, n2, n3, hout⟩ := four_nats HLen.out HAll.out
          subst hout
          have hsum : ([(n0 : Int), n1, n2, n3] : List Int).sum = (n0 : Int) + (n1 + (n2 + n3)) := by simp
          rw [HSum.out] at hsum
          have HSm := Lib.hid hsum
          clear hsum
          have hM : MAt w wr g r m c s at' #[.int .u16 id, .int .u16 fl, .slice none 0 0, .slice none 0 0, .slice none 0 0, .slice none 0 0] #[.int .i64 n0, .int .i64 n1, .int .i64 n2, .int .i64 n3] := HM.out
          clear hl HQ HM HAll HK
          by_cases c1 : 256 < all
          · have hq := ((if_pos (by rw [HSum.out]; exact c1)).symm.trans hq : Except.error 6 = R)
            have d1 : decide (256 < all) = true := decide_eq_true c1
            have HE := Lib.hid hq
            clear hq c1
            go_wp2_with fail
            exact ⟨rfl, Ends.err HE.out.symm hM.o⟩
          have hq := ((if_neg (by rw [HSum.out]; exact c1)).symm.trans hq : (match quessR s n0 [] at' with | .error c => .error c | .ok x => msgB s id fl [(n0 : Int), n1, n2, n3] x) = R)
          have d1 : decide (256 < all) = false := decide_eq_false c1
          have N0 := Lib.hid (show n0 ≤ 256 ∧ n1 ≤ 256 ∧ n2 ≤ 256 ∧ n3 ≤ 256 by have := HSm.out; omega)
          have k0 : (n0 : Int) ≤ 256 := by have := N0.out; omega
          have y0 := hM.vc.is 0 rfl
          have hmc := hM.mc'
          have hcm := Ne.symm hM.mc'
          have HM := Aside0.mk hM
          obtain ⟨RQ, hRQ⟩ : ∃ RQ, quessR s n0 [] at' = RQ := ⟨_, rfl⟩
          rw [hRQ] at hq
          have HQ := Aside0.mk hq
          have HL := Aside0.mk hRQ
          have HX := Aside0.mk (show QuessP w.heap.size [] (.slice none 0 0) wr from Kd.R_nil _ _ _ _ _)
          clear c1 HSm HB HSum hM hq hRQ HLen
          go_wp2_with fail
          clear y0
          go_loopg [34] n0 (fun kq v34 w' => ∃ (i : Nat) (qs : List Ques) (at' : Int) (v2 : Value), v34 = .int .i64 i ∧ Aside0 (quessR s kq qs at' = RQ) ∧ Aside0 (kq + i = n0) ∧ Aside0 (qs.length = i) ∧ Aside0 (0 ≤ at' ∧ at' ≤ s.size) ∧ Aside0 (MAt w w' g r m c s at' #[.int .u16 id, .int .u16 fl, v2, .slice none 0 0, .slice none 0 0, .slice none 0 0] #[.int .i64 n0, .int .i64 n1, .int .i64 n2, .int .i64 n3]) ∧ Aside0 (QuessP w.heap.size qs v2 w'))
          case atStart => exact ⟨0, [], at', .slice none 0 0, rfl, HL, ⟨rfl⟩, ⟨rfl⟩, HA, HM, HX⟩
          case round =>
            clear HL HM HA HX
            obtain ⟨i, qs, at', v2, rfl, HL, HK, HLen, HA, HM, HX⟩ := hrel
            have hl := HL.out
            obtain ⟨A2, l2, c2, rfl⟩ := R_anyslice HX.out
            clear HL
            cases gk with
            | zero =>
              obtain rfl : i = n0 := by have := HK.out; omega
              have hq := HQ.out
              rw [← hl] at hq
              have hq : msgB s id fl [(i : Int), n1, n2, n3] (qs, at') = R := hq
              clear hl HQ HK
              have hmc := HM.out.mc'
              have hcm := Ne.symm HM.out.mc'
              have y1 := HM.out.vc.is 1 rfl
              have k1 : (n1 : Int) ≤ 256 := by have := N0.out; omega
              have hq : (match recsR s n1 [] at' with | .error c => .error c | .ok x => msgC s id fl [(i : Int), n1, n2, n3] qs x) = R := hq
              go_wp2_with fail
              refine (records_reads (count := n1) HM.out.rd HS.out HA.out.1 HA.out.2 N0.out.2.1).mono ?_
              intro e w' ht
              cases hn : recsR s n1 [] at' with
              | error d =>
                rw [hn] at hq
                obtain rfl := ht.bad d hn
                exact ⟨rfl, Ends.err hq.symm (HM.out.o.trans ht.only)⟩
              | ok x =>
                obtain ⟨ans, a3⟩ := x
                rw [hn] at hq
                obtain ⟨v, rfl, hp, hr⟩ := ht.good ans a3 hn
                obtain ⟨A3, l3, c3, rfl⟩ := R_anyslice hp
                obtain ⟨w5, hw5⟩ : ∃ x, x = w' := ⟨_, rfl⟩
                subst hw5
                have hM := HM.out.call ht.only hr
                have ym := hM.vm.is 3 rfl
                have fm := hM.vm.frozen 3
                have hX2 : QuessP w.heap.size qs (.slice A2 l2 c2) w5 := R_only HX.out HM.out.rd (by decide) ht.only
                have HX2 := Aside0.mk (show QuessP w.heap.size qs (.slice A2 l2 c2) (w5.setCell ⟨m, 3, none⟩ (.slice A3 l3 c3)) from Kd.R_set hX2 hM.vm (by decide) 3 (.slice A3 l3 c3))
                have HX3 := Aside0.mk (show RecsP w.heap.size ans (.slice A3 l3 c3) (w5.setCell ⟨m, 3, none⟩ (.slice A3 l3 c3)) from Kd.R_set (Kd.R_lower hp HM.out.o.size) hM.vm (by decide) 3 (.slice A3 l3 c3))
                have HM3 := Aside0.mk (hM.setm 3 (.slice A3 l3 c3))
                have HA3 := Aside0.mk (recsR_at _ hn HA.out)
                have hq : (match recsR s n2 [] a3 with | .error c => .error c | .ok x => msgD s id fl [(i : Int), n1, n2, n3] qs ans x) = R := hq
                have y2 := hM.vc.is 2 rfl
                have k2 : (n2 : Int) ≤ 256 := by have := N0.out; omega
                clear ht hn hp hr hX2 hM y1 HX HM HA
                go_wp2_with fail
                refine (records_reads (count := n2) HM3.out.rd HS.out HA3.out.1 HA3.out.2 N0.out.2.2.1).mono ?_
                intro e w' ht
                cases hn : recsR s n2 [] a3 with
                | error d =>
                  rw [hn] at hq
                  obtain rfl := ht.bad d hn
                  exact ⟨rfl, Ends.err hq.symm (HM3.out.o.trans ht.only)⟩
                | ok x =>
                  obtain ⟨auth, a4⟩ := x
                  rw [hn] at hq
                  obtain ⟨v, rfl, hp, hr⟩ := ht.good auth a4 hn
                  obtain ⟨A4, l4, c4, rfl⟩ := R_anyslice hp
                  obtain ⟨w6, hw5⟩ : ∃ x, x = w' := ⟨_, rfl⟩
                  subst hw5
                  have hM := HM3.out.call ht.only hr
                  have ym := hM.vm.is 4 rfl
                  have fm := hM.vm.frozen 4
                  have hX2 : QuessP w.heap.size qs (.slice A2 l2 c2) w6 := R_only HX2.out HM3.out.rd (by decide) ht.only
                  have hX3 : RecsP w.heap.size ans (.slice A3 l3 c3) w6 := R_only HX3.out HM3.out.rd (by decide) ht.only
                  have HY2 := Aside0.mk (show QuessP w.heap.size qs (.slice A2 l2 c2) (w6.setCell ⟨m, 4, none⟩ (.slice A4 l4 c4)) from Kd.R_set hX2 hM.vm (by decide) 4 (.slice A4 l4 c4))
                  have HY3 := Aside0.mk (show RecsP w.heap.size ans (.slice A3 l3 c3) (w6.setCell ⟨m, 4, none⟩ (.slice A4 l4 c4)) from Kd.R_set hX3 hM.vm (by decide) 4 (.slice A4 l4 c4))
                  have HY4 := Aside0.mk (show RecsP w.heap.size auth (.slice A4 l4 c4) (w6.setCell ⟨m, 4, none⟩ (.slice A4 l4 c4)) from Kd.R_set (Kd.R_lower hp HM3.out.o.size) hM.vm (by decide) 4 (.slice A4 l4 c4))
                  have HM4 := Aside0.mk (hM.setm 4 (.slice A4 l4 c4))
                  have HA4 := Aside0.mk (recsR_at _ hn HA3.out)
                  have hq : (match recsR s n3 [] a4 with | .error c => .error c | .ok x => msgE s id fl qs ans auth x) = R := hq
                  have y3 := hM.vc.is 3 rfl
                  have k3 : (n3 : Int) ≤ 256 := by have := N0.out; omega
                  clear ht hn hp hr hX2 hX3 hM y2 HX2 HX3 HM3 HA3
                  go_wp2_with fail
                  refine (records_reads (count := n3) HM4.out.rd HS.out HA4.out.1 HA4.out.2 N0.out.2.2.2).mono ?_
                  intro e w' ht
                  cases hn : recsR s n3 [] a4 with
                  | error d =>
                    rw [hn] at hq
                    obtain rfl := ht.bad d hn
                    exact ⟨rfl, Ends.err hq.symm (HM4.out.o.trans ht.only)⟩
                  | ok x =>
                    obtain ⟨add, a5⟩ := x
                    rw [hn] at hq
                    obtain ⟨v, rfl, hp, hr⟩ := ht.good add a5 hn
                    obtain ⟨A5, l5, c5, rfl⟩ := R_anyslice hp
                    obtain ⟨w7, hw5⟩ : ∃ x, x = w' := ⟨_, rfl⟩
                    subst hw5
                    have hM := HM4.out.call ht.only hr
                    have ym := hM.vm.is 5 rfl
                    have fm := hM.vm.frozen 5
                    have hX2 : QuessP w.heap.size qs (.slice A2 l2 c2) w7 := R_only HY2.out HM4.out.rd (by decide) ht.only
                    have hX3 : RecsP w.heap.size ans (.slice A3 l3 c3) w7 := R_only HY3.out HM4.out.rd (by decide) ht.only
                    have hX4 : RecsP w.heap.size auth (.slice A4 l4 c4) w7 := R_only HY4.out HM4.out.rd (by decide) ht.only
                    have HZ2 := Aside0.mk (show QuessP w.heap.size qs (.slice A2 l2 c2) (w7.setCell ⟨m, 5, none⟩ (.slice A5 l5 c5)) from Kd.R_set hX2 hM.vm (by decide) 5 (.slice A5 l5 c5))
                    have HZ3 := Aside0.mk (show RecsP w.heap.size ans (.slice A3 l3 c3) (w7.setCell ⟨m, 5, none⟩ (.slice A5 l5 c5)) from Kd.R_set hX3 hM.vm (by decide) 5 (.slice A5 l5 c5))
                    have HZ4 := Aside0.mk (show RecsP w.heap.size auth (.slice A4 l4 c4) (w7.setCell ⟨m, 5, none⟩ (.slice A5 l5 c5)) from Kd.R_set hX4 hM.vm (by decide) 5 (.slice A5 l5 c5))
                    have HZ5 := Aside0.mk (show RecsP w.heap.size add (.slice A5 l5 c5) (w7.setCell ⟨m, 5, none⟩ (.slice A5 l5 c5)) from Kd.R_set (Kd.R_lower hp HM4.out.o.size) hM.vm (by decide) 5 (.slice A5 l5 c5))
                    have HM5 := Aside0.mk (hM.setm 5 (.slice A5 l5 c5))
                    have hq : (if a5 < s.size then .error 7 else .ok (⟨id, fl, qs, ans, auth, add⟩, a5)) = R := hq
                    clear ht hn hp hr hX2 hX3 hX4 hM y3 HY2 HY3 HY4 HM4 HA4
                    go_wp2_with fail
                    clear ym fm
                    generalize hW : w7.setCell ⟨m, 5, none⟩ (.slice A5 l5 c5) = w8 at *
                    clear hW
                    have z0 := HM5.out.rd.c0
                    have z1 := HM5.out.rd.c1
                    refine start_ (n := 10) (S := fun w' => w'.cell? ⟨g, 0, none⟩ = some (.string s) ∧ w'.cell? ⟨g, 1, none⟩ = some (.int .i64 a5)) (ds := []) (Array.replicate 10 false) (by kernel_rfl) (by kernel_rfl) rfl ⟨z0, z1⟩ (fun hS => ?_)
                    refine dpure 0 (some 59) rfl rfl (by kernel_rfl) (fun _ _ _ h => h) (by rfl) (v := ?_) (a' := ?_) ?_ ?_ ?_
                    rotate_left 2
                    · intro w'; go_simp; with_reducible rfl
                    · simp only [Act.put, List.setIfInBounds_toArray, List.set_cons_zero, List.set_cons_succ]; rfl
                    refine dpure 1 (some 60) rfl rfl (by kernel_rfl) (fun _ _ _ h => h) (by rfl) (v := ?_) (a' := ?_) ?_ ?_ ?_
                    rotate_left 2
                    · intro w'; go_simp; with_reducible rfl
                    · simp only [Act.put, List.setIfInBounds_toArray, List.set_cons_zero, List.set_cons_succ]; rfl
                    refine dpure 2 (some 61) rfl rfl (by kernel_rfl) (fun _ _ _ h => h) (by rfl) (v := ?_) (a' := ?_) ?_ ?_ ?_
                    rotate_left 2
                    · intro w'; go_simp; with_reducible rfl
                    · simp only [Act.put, List.setIfInBounds_toArray, List.set_cons_zero, List.set_cons_succ]; rfl
                    refine dtake 3 (some 62) rfl rfl (by kernel_rfl) (fun _ _ _ h => h) (by rfl) hS (v := ?_) (a' := ?_) ?_ ?_ ?_
                    rotate_left 2
                    · rintro w' ⟨s0,s1⟩; go_simp; with_reducible rfl
                    · simp only [Act.put, List.setIfInBounds_toArray, List.set_cons_zero, List.set_cons_succ]; rfl
                    refine dpure 4 (some 63) rfl rfl (by kernel_rfl) (fun _ _ _ h => h) (by rfl) (v := ?_) (a' := ?_) ?_ ?_ ?_
                    rotate_left 2
                    · intro w'; go_simp; with_reducible rfl
                    · simp only [Act.put, List.setIfInBounds_toArray, List.set_cons_zero, List.set_cons_succ]; rfl
                    refine dpure 5 (some 64) rfl rfl (by kernel_rfl) (fun _ _ _ h => h) (by rfl) (v := ?_) (a' := ?_) ?_ ?_ ?_
                    rotate_left 2
                    · intro w'; go_simp; with_reducible rfl
                    · simp only [Act.put, List.setIfInBounds_toArray, List.set_cons_zero, List.set_cons_succ]; rfl
                    refine dpure 6 (some 65) rfl rfl (by kernel_rfl) (fun _ _ _ h => h) (by rfl) (v := ?_) (a' := ?_) ?_ ?_ ?_
                    rotate_left 2
                    · intro w'; go_simp; with_reducible rfl
                    · simp only [Act.put, List.setIfInBounds_toArray, List.set_cons_zero, List.set_cons_succ]; rfl
                    refine dtake 7 (some 66) rfl rfl (by kernel_rfl) (fun _ _ _ h => h) (by rfl) hS (v := ?_) (a' := ?_) ?_ ?_ ?_
                    rotate_left 2
                    · rintro w' ⟨s0,s1⟩; go_simp; with_reducible rfl
                    · simp only [Act.put, List.setIfInBounds_toArray, List.set_cons_zero, List.set_cons_succ]; rfl
                    refine dpure 8 (some 67) rfl rfl (by kernel_rfl) (fun _ _ _ h => h) (by rfl) (v := ?_) (a' := ?_) ?_ ?_ ?_
                    rotate_left 2
                    · intro w'; go_simp; with_reducible rfl
                    · simp only [Act.put, List.setIfInBounds_toArray, List.set_cons_zero, List.set_cons_succ]; rfl
                    clear hS
                    by_cases c9 : a5 < (s.size : Int)
                    · rw [if_pos c9] at hq
                      refine dpure 9 (some 68) rfl rfl (by kernel_rfl) (fun _ _ _ h => h) (by rfl) (v := .bool true) (a' := ?_) ?_ ?_ ?_
                      rotate_left 1
                      · intro w'; go_simp; first | done | omega | simp [c9]
                      · simp only [Act.put, List.setIfInBounds_toArray, List.set_cons_zero, List.set_cons_succ]; rfl
                      refine done_ (by kernel_rfl) ?_
                      clear c9
                      go_wp2_with fail
                      exact ⟨rfl, Ends.err hq.symm HM5.out.o.drew⟩
                    · rw [if_neg c9] at hq
                      refine dpure 9 (some 68) rfl rfl (by kernel_rfl) (fun _ _ _ h => h) (by rfl) (v := .bool false) (a' := ?_) ?_ ?_ ?_
                      rotate_left 1
                      · intro w'; go_simp; first | done | omega | simp [c9]
                      · simp only [Act.put, List.setIfInBounds_toArray, List.set_cons_zero, List.set_cons_succ]; rfl
                      refine done_ (by kernel_rfl) ?_
                      clear c9 z0 z1
                      have HM6 := HM5.out.drew
                      have HP6 : MsgP w.heap.size ⟨id, fl, qs, ans, auth, add⟩ (.agg #[.int .u16 id, .int .u16 fl, .slice A2 l2 c2, .slice A3 l3 c3, .slice A4 l4 c4, .slice A5 l5 c5]) w8.drew := ⟨_, _, _, _, rfl, Kd.R_drew HZ2.out, Kd.R_drew HZ3.out, Kd.R_drew HZ4.out, Kd.R_drew HZ5.out⟩
                      clear HZ2 HZ3 HZ4 HZ5 HM5
                      generalize hW : w8.drew = w9 at *
                      clear hW
                      have x0 := HM6.vm.is 0 rfl
                      have x1 := HM6.vm.is 1 rfl
                      have x2 := HM6.vm.is 2 rfl
                      have x3 := HM6.vm.is 3 rfl
                      have x4 := HM6.vm.is 4 rfl
                      have x5 := HM6.vm.is 5 rfl
                      have z0 := HM6.vr.is 0 rfl
                      have z1 := HM6.vr.is 1 rfl
                      have z2 := HM6.vr.is 2 rfl
                      have z3 := HM6.vr.is 3 rfl
                      have z4 := HM6.vr.is 4 rfl
                      have z5 := HM6.vr.is 5 rfl
                      have g0 := HM6.vr.frozen 0
                      have g1 := HM6.vr.frozen 1
                      have g2 := HM6.vr.frozen 2
                      have g3 := HM6.vr.frozen 3
                      have g4 := HM6.vr.frozen 4
                      have g5 := HM6.vr.frozen 5
                      have hmr := Ne.symm hrm
                      go_wp2_with fail
                      have L0 : Laying w w9 g r s a5 _ _ := ⟨HM6.vr, HM6.rd, HM6.o, HM6.vr.ne HM6.rd (by decide), hsr⟩
                      have L1 := L0.step 0 (.int .u16 id)
                      have L2 := L1.step 1 (.int .u16 fl)
                      have L3 := L2.step 2 (.slice A2 l2 c2)
                      have L4 := L3.step 3 (.slice A3 l3 c3)
                      have L5 := L4.step 4 (.slice A4 l4 c4)
                      have L6 := L5.step 5 (.slice A5 l5 c5)
                      have P6 := (((((HP6.set L0.v 0 (.int .u16 id)).set L1.v 1 (.int .u16 fl)).set L2.v 2 (.slice A2 l2 c2)).set L3.v 3 (.slice A3 l3 c3)).set L4.v 4 (.slice A4 l4 c4)).set L5.v 5 (.slice A5 l5 c5)
                      clear L0 L1 L2 L3 L4 L5 z0 z1 z2 z3 z4 z5 g0 g1 g2 g3 g4 g5 x0 x1 x2 x3 x4 x5
                      generalize hW : (((((w9.setCell ⟨r, 0, none⟩ (.int .u16 id)).setCell ⟨r, 1, none⟩ (.int .u16 fl)).setCell ⟨r, 2, none⟩ (.slice A2 l2 c2)).setCell ⟨r, 3, none⟩ (.slice A3 l3 c3)).setCell ⟨r, 4, none⟩ (.slice A4 l4 c4)).setCell ⟨r, 5, none⟩ (.slice A5 l5 c5) = w10 at *
                      have HV9 : SAt w10 r #[.int .u16 id, .int .u16 fl, .slice A2 l2 c2, .slice A3 l3 c3, .slice A4 l4 c4, .slice A5 l5 c5] 26 := L6.v
                      have z0 := HV9.is 0 rfl
                      have z1 := HV9.is 1 rfl
                      have z2 := HV9.is 2 rfl
                      have z3 := HV9.is 3 rfl
                      have z4 := HV9.is 4 rfl
                      have z5 := HV9.is 5 rfl
                      refine bodyPost_ret (v := .agg #[.int .u16 id, .int .u16 fl, .slice A2 l2 c2, .slice A3 l3 c3, .slice A4 l4 c4, .slice A5 l5 c5]) (by simp [results, Try.results47, go_sem, z0, z1, z2, z3, z4, z5]) rfl ?_
                      exact Ends.ok hq.symm P6 L6.rd L6.o
            | succ k =>
              unfold quessR at hl
              have q1 : (i : Int) < (n0 : Int) := by have := HK.out; omega
              have y2 := HM.out.vm.is 2 rfl
              go_wp2_with fail
              refine start_ (n := 8) (S := fun w' => w'.cell? ⟨m, 2, none⟩ = some (.slice A2 l2 c2)) (ds := [7]) (Array.replicate 8 false) (by kernel_rfl) (by kernel_rfl) rfl (by exact y2) (fun hS => ?_)
              refine dpure 0 (some 36) rfl rfl (by kernel_rfl) (fun _ _ _ h => h) (by rfl) (v := ?_) (a' := ?_) ?_ ?_ ?_
              rotate_left 2
              · intro w'; go_simp; with_reducible rfl
              · simp only [Act.put, List.setIfInBounds_toArray, List.set_cons_zero, List.set_cons_succ]; rfl
              refine dtake 1 (some 37) rfl rfl (by kernel_rfl) (fun _ _ _ h => h) (by rfl) hS (v := ?_) (a' := ?_) ?_ ?_ ?_
              rotate_left 2
              · rintro w' s0; go_simp; with_reducible rfl
              · simp only [Act.put, List.setIfInBounds_toArray, List.set_cons_zero, List.set_cons_succ]; rfl
              refine dpure 2 (some 38) rfl rfl (by kernel_rfl) (fun _ _ _ h => h) (by rfl) (v := ?_) (a' := ?_) ?_ ?_ ?_
              rotate_left 2
              · intro w'; go_simp; with_reducible rfl
              · simp only [Act.put, List.setIfInBounds_toArray, List.set_cons_zero, List.set_cons_succ]; rfl
              refine done1 3 (some 39) rfl rfl (by kernel_rfl) (by decide) (fun K hK => ?_)
              refine goesp_ Try.func68 (by kernel_rfl) rfl #[.pointer (some ⟨g, 0, none⟩)] (by rfl) rfl rfl (by kernel_rfl) ?_
              refine (question_calls HM.out.drew.rd HS.out HA.out.1 HA.out.2).mono ?_
              intro e w5 ht
              cases hw : quesR s at' with
              | error d =>
                rw [hw] at hl
                obtain rfl := ht.bad d hw
                have hq := HQ.out
                rw [← hl] at hq
                exact .inr ⟨_, rfl, rfl, Ends.err hq.symm (HM.out.drew.o.trans ht.only)⟩
              | ok x =>
                obtain ⟨q, a2⟩ := x
                rw [hw] at hl
                simp only [] at hl
                have HL := Aside0.mk hl
                have HA2 := Aside0.mk (quesR_at hw)
                obtain ⟨v, rfl, rfl, hr⟩ := ht.good q a2 hw
                have hM := HM.out.drew.call ht.only hr
                have hX : QuessP w.heap.size qs (.slice A2 l2 c2) w5 := R_only (w := wr.drew) (Kd.R_drew HX.out) HM.out.drew.rd (by decide) ht.only
                refine .inl ⟨_, rfl, ?_⟩
                clear ht hw hl hr
                refine hK.out _ _ (hM.vm.is 2 rfl) (fun hS => ?_)
                clear hK K
                refine norm_ (a' := ?_) ?_ ?_
                rotate_left
                · simp only [Act.put, List.setIfInBounds_toArray, List.set_cons_zero, List.set_cons_succ]; rfl
                refine done1 4 (some 40) rfl rfl (by kernel_rfl) (by decide) (fun K hK => ?_)
                refine event_step (by kernel_rfl) (v := .slice (some ⟨w5.heap.size, 0, none⟩) 1 1) (w1 := w5.alloc (.cells #[.string q.f0, .int .u16 q.f1, .int .u16 q.f2] 39)) (by go_simp; done) ?_
                refine hK.out _ _ ((blk_cell (blk_below hM.vm (below_alloc (Below.refl _ _) _)) 2).trans rfl) (fun hS => ?_)
                clear hK K
                refine norm_ (a' := ?_) ?_ ?_
                rotate_left
                · simp only [Act.put, List.setIfInBounds_toArray, List.set_cons_zero, List.set_cons_succ]; rfl
                refine done1 5 (some 41) rfl rfl (by kernel_rfl) (by decide) (fun K hK => ?_)
                refine Kd.R_append_step kQues (w0 := w5) w.heap.size (by kernel_rfl) (.tmp 37) (.tmp 40) 23 39 (.agg #[(.string ⟨#[]⟩), (.int .u16 0), (.int .u16 0)]) 24 (by rfl) Try.underlying23 infoQues rfl (by decide) (by decide) (.slice A2 l2 c2) qs q [.string q.f0, .int .u16 q.f1, .int .u16 q.f2] (fun _ => True) (fun _ => False) (by rfl) (by rfl) (kQues_mkM w5 w.heap.size _ q) (fun _ hk => hk.elim) (fun _ _ => trivial) hX (Below.refl _ _) hM.o.size (by have := HLen.out; have := HK.out; have := N0.out; omega) ?_
                intro v3 w6 ho3 hb3 hg3 _
                obtain ⟨A3, l3, c3, rfl⟩ := R_anyslice ho3
                have hM6 := hM.grown hg3 (Kd.R_base hX) (Kd.R_ne hX hM.rd (by decide)) (Kd.R_ne hX hM.vr (by decide)) (Kd.R_ne hX hM.vm (by decide)) (Kd.R_ne hX hM.vc (by decide))
                have y2' := hM6.vm.is 2 rfl
                have f2 := hM6.vm.frozen 2
                refine hK.out _ _ y2' (fun hS => ?_)
                clear hK K
                refine norm_ (a' := ?_) ?_ ?_
                rotate_left
                · simp only [Act.put, List.setIfInBounds_toArray, List.set_cons_zero, List.set_cons_succ]; rfl
                refine dpure 6 (some 42) rfl rfl (by kernel_rfl) (fun _ _ _ h => h) (by rfl) (v := ?_) (a' := ?_) ?_ ?_ ?_
                rotate_left 2
                · intro w'; go_simp; with_reducible rfl
                · simp only [Act.put, List.setIfInBounds_toArray, List.set_cons_zero, List.set_cons_succ]; rfl
                refine dlast 7 (Array.getElem?_eq_getElem (by decide)) (by kernel_rfl) (List.mem_singleton.2 rfl) ?_
                intro K hK
                refine dskip (w1 := w6.setCell ⟨m, 2, none⟩ (.slice A3 l3 c3)) (by kernel_rfl) (by kernel_rfl) ?_ ?_
                · go_simp
                refine hK.out _ _ (done_ (by kernel_rfl) ?_)
                clear hK K
                have HM7 := Aside0.mk (hM6.setm 2 (.slice A3 l3 c3))
                have HX7 := Aside0.mk (show QuessP w.heap.size (qs ++ [q]) (.slice A3 l3 c3) (w6.setCell ⟨m, 2, none⟩ (.slice A3 l3 c3)) from Kd.R_set ho3 hM6.vm (by decide) 2 (.slice A3 l3 c3))
                clear hM hM6 hX ho3 hb3 hg3 y2 y2' f2
                go_wp2_with fail
                go_roundg k
                case measure => omega
                case rel => exact ⟨i + 1, _, a2, _, by go_num, HL, ⟨by have := HK.out; omega⟩, ⟨by have := HLen.out; rw [List.length_append, List.length_singleton]; omega⟩, HA2, HM7, HX7⟩
        | succ k =>
          unfold cntR at hl
          have q1 : (i : Int) < 4 := by have := HK.out; omega
          cases h3 : getF s at' 2 with
          | none =>
            rw [h3] at hl
            have hq := HQ.out
            rw [← hl] at hq
            go_wp2_with fail
            refine (num_no HM.out.rd HS.out h3).mono ?_
            rintro e w' ⟨rfl, ho⟩
            exact ⟨rfl, Ends.err hq.symm (HM.out.o.trans ho)⟩
          | some n =>
            rw [h3] at hl
            simp only [] at hl
            have HL := Aside0.mk hl
            obtain ⟨n0, n1, _, n3, _⟩ := get2 h3
            have hwn : IntKind.i64.wrap n = n := by rw [IntKind.wrap_i64]; omega
            have H3 := Lib.hid h3
            have HA2 := Aside0.mk (show 0 ≤ at' + 2 ∧ at' + 2 ≤ s.size by omega)
            have a1 : all ≤ 1000000 := by have := HB.out; have := HK.out; omega
            have a0 : 0 ≤ all := HB.out.1
            clear hl h3 n3
            go_wp2_with fail
            refine (num_yes HM.out.rd HS.out H3.out).mono ?_
            rintro e w5 ⟨rfl, hr, ho⟩
            have hM := HM.out.call ho hr
            have hcell : (cells4 (out ++ List.replicate (k + 1) 0))[i]? = some (.int .i64 0) := by
              have := HLen.out
              simp [cells4, ← this, List.replicate_succ]
            have y := hM.vc.is i hcell
            have f := hM.vc.frozen i
            have hi0 : (0 : Int) ≤ (i : Int) := by omega
            have HM5 := Aside0.mk (hM.setc i (.int .i64 n))
            have y2 := (hM.vc.set i (.int .i64 n)).is i (v := .int .i64 n) (by rw [cells4_set, ← HLen.out, set_next]; simp [cells4])
            clear hr ho hM hcell
            go_wp2_with fail
            go_roundg k
            case measure => omega
            case rel => exact ⟨i + 1, out ++ [n], at' + 2, all + n, rfl, by go_num, HL, ⟨by have := HK.out; omega⟩, ⟨by have := HLen.out; simp; omega⟩, ⟨by have := HSum.out; simp; omega⟩, ⟨fun x hx => by rcases List.mem_append.1 hx with hx | hx; exact HAll.out x hx; rw [List.mem_singleton.1 hx]; omega⟩, ⟨by have := HB.out; omega⟩, HA2, ⟨by have := HM5.out; rw [cells4_set, ← HLen.out, set_next] at this; rw [HLen.out] at this; exact this⟩⟩
end Go.Proofs.Ytbbeikdbioelgaa.M
