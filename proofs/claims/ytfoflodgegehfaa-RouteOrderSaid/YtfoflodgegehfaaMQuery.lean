/- Walks of query.do, key, Ask. -/
import Derived.Test.YtfoflodgegehfaaMNFold
set_option linter.unusedVariables false
set_option linter.unusedSimpArgs false
namespace Go.Proofs.Ytfoflodgegehfaa.M
open Go.RowKit Go.Maps Go.Proofs.YtfoflodgegehfaaW.PrintWords Go.Proofs.YtfoflodgegehfaaW.PrintLast Go.Proofs.YtfoflodgegehfaaW.PrintMore
attribute [local go_sem] max2_int min2_int max_two min_two max_three min_three max_four min_four
attribute [local go_sem ↓] Go.wp_at_zero Go.wp_at_succ
/-- Has a message that bit? -/
def doF : List Rec → Bool
  | [] => false
  | r :: t => if r.f1 = 41 then decide (r.f3 / 32768 % 2 = 1) else doF t
set_option maxHeartbeats 4000000 in
set_option maxRecDepth 100000 in
theorem do_calls (m : Msg) (v : Value) (w : World) (hv : MsgAt w v m) (hm : MsgSm m) :
    Calls Try.prog 33 #[v] w fun e w' => e = .returned (.bool (doF m.add)) ∧ Below w.heap.size w w' := by
  obtain ⟨A2, c2, A3, c3, A4, c4, A5, c5, rfl, -, -, -, -, -, -, l5, g5⟩ := hv
  have HB0 := Aside0.mk (Below.refl w.heap.size w)
  have G5 := Aside0.mk g5
  have HM := Aside0.mk hm
  have n3 : (m.add.length : Int) ≤ 256 := by have := hm.n3; omega
  obtain ⟨R, hR⟩ : ∃ R, doF m.add = R := ⟨_, rfl⟩
  rw [hR]
  have HR0 := Aside0.mk hR
  clear g5 hm hR
  go_enter Try.func33, Try.ntmps33
  go_wp2_with (((with_reducible refine gate_dst (N := 1) rfl ?_); refine box_event rfl (N := 1) rfl (cs := #[.int .u16 m.id, .int .u16 m.flags, .slice A2 m.qs.length c2, .slice A3 m.ans.length c3, .slice A4 m.auth.length c4, .slice A5 m.add.length c5]) (t := 35) (by first | (go_simp; done) | (go_simp; rfl)) ?_; intro g hg w1 hbox hb); have HX := Aside0.mk hbox; have HB := Aside0.mk hb; have HGe := Aside0.mk hg; clear hb hg; have z0 : w1.cell? ⟨g, 0, none⟩ = some (.int .u16 m.id) := (blk_cell HX.out 0).trans rfl; have z1 : w1.cell? ⟨g, 1, none⟩ = some (.int .u16 m.flags) := (blk_cell HX.out 1).trans rfl; have z2 : w1.cell? ⟨g, 2, none⟩ = some (.slice A2 m.qs.length c2) := (blk_cell HX.out 2).trans rfl; have z3 : w1.cell? ⟨g, 3, none⟩ = some (.slice A3 m.ans.length c3) := (blk_cell HX.out 3).trans rfl; have z4 : w1.cell? ⟨g, 4, none⟩ = some (.slice A4 m.auth.length c4) := (blk_cell HX.out 4).trans rfl; have z5 : w1.cell? ⟨g, 5, none⟩ = some (.slice A5 m.add.length c5) := (blk_cell HX.out 5).trans rfl; have hlt : g < w1.heap.size := blk_lt hbox; have hlne : ¬ g = w1.heap.size := Nat.ne_of_lt hlt; clear hbox)
  clear z0 z1 z2 z3 z4 z5 HX HGe hlt hlne
  go_loopg [8] m.add.length (fun kq v8 w' => ∃ k : Nat, v8 = .int .i64 k ∧ Aside0 (kq + k = m.add.length) ∧ Aside0 (doF (m.add.drop k) = R) ∧ Aside0 (Below w.heap.size w w'))
  case atStart => exact ⟨0, rfl, ⟨by omega⟩, HR0, HB⟩
  case round =>
    clear HB HR0
    obtain ⟨k, rfl, HK, HR, HB⟩ := hrel
    cases gk with
    | zero =>
      obtain rfl : k = m.add.length := by have := HK.out; omega
      have hr := HR.out
      rw [List.drop_of_length_le (Nat.le_refl _)] at hr
      obtain rfl : false = R := hr
      go_wp2_with fail
      go_ret
      exact ⟨rfl, HB.out⟩
    | succ j =>
      have hk : k < m.add.length := by have := HK.out; omega
      obtain ⟨ad, B4, b4, B5, b5, B6, b6, r, h2, hq, y0, y1, y2, y3, y4, y5, y6, -⟩ := at_rec (Kd.C_below G5.out HB.out) k hk
      subst h2
      have p1 : (0 : Int) ≤ (k : Int) := by omega
      have p2 : (k : Int) < (m.add.length : Int) := by omega
      have hr := HR.out
      rw [drop_get zRec _ k hk, hq, doF] at hr
      have hs := HM.out.r r (by rw [← hq]; exact getD_mem' zRec hk)
      have ha := and_bit32 r.f3 hs.l0 hs.l1
      clear HR hs hq
      by_cases c : r.f1 = 41
      · rw [if_pos c] at hr
        have e1 : (r.f1 == 41) = true := beq_iff_eq.mpr c
        clear c
        by_cases d : r.f3 / 32768 % 2 = 1
        · rw [decide_eq_true d] at hr
          rw [if_pos d] at ha
          subst hr
          clear d
          go_wp2_with fail
          go_ret
          exact ⟨rfl, below_alloc HB.out _⟩
        · rw [decide_eq_false d] at hr
          rw [if_neg d] at ha
          subst hr
          clear d
          go_wp2_with fail
          go_ret
          exact ⟨rfl, below_alloc HB.out _⟩
      · rw [if_neg c] at hr
        have e1 : (r.f1 == 41) = false := beq_eq_false_iff_ne.mpr c
        have HR := Aside0.mk hr
        clear c hr ha
        go_wp2_with fail
        go_roundg j
        case measure => omega
        case rel => exact ⟨k + 1, by go_num, ⟨by have := HK.out; omega⟩, HR, ⟨below_alloc HB.out _⟩⟩
/-- A key. -/
structure Key where
  name : ByteArray
  ty : Int
  cl : Int
  dO : Bool
def Key.v (k : Key) : Value := .agg #[.string k.name, .int .u16 k.ty, .int .u16 k.cl, .bool k.dO]
def zKey : Key := ⟨⟨#[]⟩, 0, 0, false⟩
theorem heap_3a (h : Array Obj) (a b c : Obj) : (((h.push a).push b).push c)[h.size + 1]? = some b := by
  rw [Array.getElem?_push, if_neg (by simp), Array.getElem?_push, if_pos (by simp)]
theorem heap_3b (h : Array Obj) (a b c : Obj) : (((h.push a).push b).push c)[h.size + 1 + 1]? = some c := by
  rw [Array.getElem?_push, if_pos (by simp)]
theorem three_at (w : World) (o : Obj) (cs ds : Array Value) (T U : Nat) :
    SAt (((w.alloc o).alloc (.cells cs T (0, 0))).alloc (.cells ds U (0, 0))) (w.heap.size + 1) cs T ∧ SAt (((w.alloc o).alloc (.cells cs T (0, 0))).alloc (.cells ds U (0, 0))) (w.heap.size + 1 + 1) ds U ∧ Below w.heap.size w (((w.alloc o).alloc (.cells cs T (0, 0))).alloc (.cells ds U (0, 0))) :=
  ⟨heap_3a _ _ _ _, heap_3b _ _ _ _, below_alloc (below_alloc (below_alloc (Below.refl _ _) o) _) _⟩
theorem ques_at {w : World} {ad : Addr} {n : Nat} {q : Ques} (h : kQues.C w (some ad) n [q]) (h1 : 0 < n) : w.cell? ad = some (.string q.f0) ∧ w.cell? ⟨ad.block, ad.off + 1, none⟩ = some (.int .u16 q.f1) ∧ w.cell? ⟨ad.block, ad.off + 2, none⟩ = some (.int .u16 q.f2) := by
  obtain ⟨ad', q', hA, hqq, y0, y1, y2⟩ := at_ques h 0 h1
  have e : ad'.add (0 * 3) = ad' := rfl
  rw [e] at y0 y1 y2
  obtain rfl : q = q' := by rw [← hqq]; rfl
  obtain rfl := Option.some.inj hA
  exact ⟨y0, y1, y2⟩
set_option maxHeartbeats 4000000 in
set_option maxRecDepth 100000 in
theorem key_calls (m : Msg) (q : Ques) (v : Value) (w : World) (hv : MsgAt w v m) (hq : m.qs = [q]) (hs : q.f0.size ≤ 1000000) :
    Calls Try.prog 32 #[v] w fun e w' => e = .returned (Key.v ⟨foldN q.f0, q.f1, q.f2, false⟩) ∧ Below w.heap.size w w' := by
  obtain ⟨A2, c2, A3, c3, A4, c4, A5, c5, rfl, l2, g2, -, -, -, -, -, -⟩ := hv
  have hf := fun w => foldN_calls q.f0 w (by omega)
  generalize foldN q.f0 = nm at *
  have HF := Aside0.mk hf
  clear hf
  have hn : m.qs.length = 1 := by rw [hq]; rfl
  obtain ⟨ad, _, hA, -, -, -, -⟩ := at_ques g2 0 (by rw [hn]; decide)
  subst hA
  rw [hq] at g2
  have G2 := Aside0.mk g2
  have p2 : (0 : Int) < (m.qs.length : Int) := by omega
  have HN := Lib.hid hn
  clear hq g2 hn
  have HY := fun o1 o2 => ques_at (Kd.C_below G2.out (below_alloc (below_alloc (Below.refl _ _) o1) o2)) (by simp)
  have y0 := fun o1 o2 => (HY o1 o2).1
  have y1 := fun o1 o2 => (HY o1 o2).2.1
  have y2 := fun o1 o2 => (HY o1 o2).2.2
  clear HY
  go_enter Try.func32, Try.ntmps32
  go_wp2_with fail
  clear y0 y1 y2
  obtain ⟨HK, HH, HB⟩ := three_at w (.cells #[.int .u16 m.id, .int .u16 m.flags, .slice (some ad) m.qs.length c2, .slice A3 m.ans.length c3, .slice A4 m.auth.length c4, .slice A5 m.add.length c5] 35 (0, 0)) #[.string ⟨#[]⟩, .int .u16 0, .int .u16 0, .bool false] #[.string q.f0, .int .u16 q.f1, .int .u16 q.f2] 37 63
  have hk : w.heap.size ≤ w.heap.size + 1 := by omega
  have hkh : w.heap.size + 1 ≠ w.heap.size + 1 + 1 := by omega
  generalize hW : (((w.alloc (.cells #[.int .u16 m.id, .int .u16 m.flags, .slice (some ad) m.qs.length c2, .slice A3 m.ans.length c3, .slice A4 m.auth.length c4, .slice A5 m.add.length c5] 35 (0, 0))).alloc (.cells #[.string ⟨#[]⟩, .int .u16 0, .int .u16 0, .bool false] 37 (0, 0))).alloc (.cells #[.string q.f0, .int .u16 q.f1, .int .u16 q.f2] 63 (0, 0))) = W at *
  generalize w.heap.size + 1 + 1 = h at *
  generalize w.heap.size + 1 = k at *
  clear hW
  refine start_ (n := 9) (S := fun w' => (w'.cell? ⟨h, 0, none⟩ = some (.string q.f0) ∧ w'.cell? ⟨h, 1, none⟩ = some (.int .u16 q.f1) ∧ w'.cell? ⟨h, 2, none⟩ = some (.int .u16 q.f2)) ∧ Aside0 (SAt w' k #[.string ⟨#[]⟩, .int .u16 0, .int .u16 0, .bool false] 37 ∧ SAt w' h #[.string q.f0, .int .u16 q.f1, .int .u16 q.f2] 63 ∧ Below w.heap.size w w')) (ds := [8]) (Array.replicate 9 false) (by kernel_rfl) (by kernel_rfl) rfl ⟨⟨HH.is 0 rfl, HH.is 1 rfl, HH.is 2 rfl⟩, ⟨HK, HH, HB.drew⟩⟩ (fun hS => ?_)
  refine dpure 0 (some 8) rfl rfl (by kernel_rfl) (fun _ _ _ h => h) (by rfl) (v := ?_) (a' := ?_) ?_ ?_ ?_
  rotate_left 2
  · intro w'; go_simp; with_reducible rfl
  · simp only [Act.put, List.setIfInBounds_toArray, List.set_cons_zero, List.set_cons_succ]; rfl
  refine dtake 1 (some 9) rfl rfl (by kernel_rfl) (fun _ _ _ h => h) (by rfl) hS (v := ?_) (a' := ?_) ?_ ?_ ?_
  rotate_left 2
  · rintro w' ⟨⟨s0,s1,s2⟩,_⟩; go_simp; with_reducible rfl
  · simp only [Act.put, List.setIfInBounds_toArray, List.set_cons_zero, List.set_cons_succ]; rfl
  refine dpure 3 (some 11) rfl rfl (by kernel_rfl) (fun _ _ _ h => h) (by rfl) (v := ?_) (a' := ?_) ?_ ?_ ?_
  rotate_left 2
  · intro w'; go_simp; with_reducible rfl
  · simp only [Act.put, List.setIfInBounds_toArray, List.set_cons_zero, List.set_cons_succ]; rfl
  refine dtake 4 (some 12) rfl rfl (by kernel_rfl) (fun _ _ _ h => h) (by rfl) hS (v := ?_) (a' := ?_) ?_ ?_ ?_
  rotate_left 2
  · rintro w' ⟨⟨s0,s1,s2⟩,_⟩; go_simp; with_reducible rfl
  · simp only [Act.put, List.setIfInBounds_toArray, List.set_cons_zero, List.set_cons_succ]; rfl
  refine dpure 5 (some 13) rfl rfl (by kernel_rfl) (fun _ _ _ h => h) (by rfl) (v := ?_) (a' := ?_) ?_ ?_ ?_
  rotate_left 2
  · intro w'; go_simp; with_reducible rfl
  · simp only [Act.put, List.setIfInBounds_toArray, List.set_cons_zero, List.set_cons_succ]; rfl
  refine dtake 6 (some 14) rfl rfl (by kernel_rfl) (fun _ _ _ h => h) (by rfl) hS (v := ?_) (a' := ?_) ?_ ?_ ?_
  rotate_left 2
  · rintro w' ⟨⟨s0,s1,s2⟩,_⟩; go_simp; with_reducible rfl
  · simp only [Act.put, List.setIfInBounds_toArray, List.set_cons_zero, List.set_cons_succ]; rfl
  obtain ⟨-, HS⟩ := hS
  refine done1 2 (some 10) rfl rfl (by kernel_rfl) (by decide) (fun K hK => ?_)
  refine goes_ Try.func50 (by kernel_rfl) rfl #[.string q.f0] (by rfl) rfl rfl (by kernel_rfl) ?_
  refine (HF.out _).mono ?_
  rintro e w2 ⟨rfl, hb⟩
  refine ⟨_, rfl, ?_⟩
  obtain ⟨HK2, HH2, HB2⟩ := HS.out
  have HK2 := HK2.below hb
  have HH2 := HH2.below hb
  have HB2 := below_step HB2 hb
  clear HS hb HK HH HB
  refine hK.out _ _ ⟨⟨HH2.is 0 rfl, HH2.is 1 rfl, HH2.is 2 rfl⟩, ⟨HK2, HH2, HB2⟩⟩ (fun hS => ?_)
  clear hK K
  refine norm_ (a' := ?_) ?_ ?_
  rotate_left
  · simp only [Act.put, List.setIfInBounds_toArray, List.set_cons_zero, List.set_cons_succ]; rfl
  refine dpure 7 (some 15) rfl rfl (by kernel_rfl) (fun _ _ _ h => h) (by rfl) (v := ?_) (a' := ?_) ?_ ?_ ?_
  rotate_left 2
  · intro w'; go_simp; with_reducible rfl
  · simp only [Act.put, List.setIfInBounds_toArray, List.set_cons_zero, List.set_cons_succ]; rfl
  have z0 := HK2.is 0 rfl
  have z1 := HK2.is 1 rfl
  have z2 := HK2.is 2 rfl
  have z3 := HK2.is 3 rfl
  have f0 := HK2.frozen 0
  have f1 := HK2.frozen 1
  have f2 := HK2.frozen 2
  have f3 := HK2.frozen 3
  refine dlast 8 (Array.getElem?_eq_getElem (by decide)) (by kernel_rfl) (List.mem_singleton.2 rfl) (fun K hK => ?_)
  refine dskip (w1 := (((w2.setCell ⟨k, 0, none⟩ (.string nm)).setCell ⟨k, 1, none⟩ (.int .u16 q.f1)).setCell ⟨k, 2, none⟩ (.int .u16 q.f2)).setCell ⟨k, 3, none⟩ (.bool false)) (by rfl) rfl (by go_simp) ?_
  refine hK.out _ _ (done_ (by kernel_rfl) ?_)
  clear z0 z1 z2 z3 f0 f1 f2 f3
  have HX : SAt _ k #[.string nm, .int .u16 q.f1, .int .u16 q.f2, .bool false] 37 := (((HK2.set 0 (.string nm)).set 1 (.int .u16 q.f1)).set 2 (.int .u16 q.f2)).set 3 (.bool false)
  have HY := (((HB2.setCell (p := ⟨k, 0, none⟩) hk (.string nm)).setCell (p := ⟨k, 1, none⟩) hk (.int .u16 q.f1)).setCell (p := ⟨k, 2, none⟩) hk (.int .u16 q.f2)).setCell (p := ⟨k, 3, none⟩) hk (.bool false)
  generalize hW : ((((w2.setCell ⟨k, 0, none⟩ (.string nm)).setCell ⟨k, 1, none⟩ (.int .u16 q.f1)).setCell ⟨k, 2, none⟩ (.int .u16 q.f2)).setCell ⟨k, 3, none⟩ (.bool false)) = w3 at *
  clear hW HK2 HH2 HB2
  go_wp2_with fail
  have z0 := HX.is 0 rfl
  have z1 := HX.is 1 rfl
  have z2 := HX.is 2 rfl
  have z3 := HX.is 3 rfl
  refine bodyPost_ret (v := .agg #[.string nm, .int .u16 q.f1, .int .u16 q.f2, .bool false]) (by simp [results, Try.results32, go_sem, z0, z1, z2, z3]) rfl ?_
  exact ⟨rfl, HY⟩
/-- The key of a query. -/
def askF (m : Msg) : Option Key :=
  if m.flags / 32768 % 2 = 1 then none else if opF m.flags ≠ 0 then none else if m.qs.length ≠ 1 then none else if 0 < m.ans.length + m.auth.length then none else
  if (m.qs.getD 0 zQues).f1 = 41 then none else if isName (m.qs.getD 0 zQues).f0 = false then none else
  some ⟨foldS (m.qs.getD 0 zQues).f0, (m.qs.getD 0 zQues).f1, (m.qs.getD 0 zQues).f2, doF m.add⟩
def askE : Option Key → Value
  | none => .tuple #[zKey.v, .int .i64 107]
  | some k => .tuple #[k.v, .int .i64 0]
theorem heap_2a (h : Array Obj) (a b : Obj) : ((h.push a).push b)[h.size]? = some a := by
  rw [Array.getElem?_push, if_neg (by simp), Array.getElem?_push, if_pos rfl]
theorem heap_2b (h : Array Obj) (a b : Obj) : ((h.push a).push b)[h.size + 1]? = some b := by
  rw [Array.getElem?_push, if_pos (by simp)]
theorem two_at (w : World) (cs ds : Array Value) (T U : Nat) :
    SAt ((w.alloc (.cells cs T (0, 0))).alloc (.cells ds U (0, 0))) w.heap.size cs T ∧ SAt ((w.alloc (.cells cs T (0, 0))).alloc (.cells ds U (0, 0))) (w.heap.size + 1) ds U ∧ Below w.heap.size w ((w.alloc (.cells cs T (0, 0))).alloc (.cells ds U (0, 0))) :=
  ⟨heap_2a _ _ _, heap_2b _ _ _, below_alloc (below_alloc (Below.refl _ _) _) _⟩
set_option maxHeartbeats 8000000 in
set_option maxRecDepth 100000 in
theorem ask_calls (m : Msg) (v : Value) (w : World) (hv : MsgAt w v m) (hm : MsgSm m) :
    Calls Try.prog 19 #[v] w fun e w' => e = .returned (askE (askF m)) ∧ Below w.heap.size w w' := by
  have hv0 := hv
  obtain ⟨A2, c2, A3, c3, A4, c4, A5, c5, rfl, l2, g2, -, -, -, -, -, -⟩ := hv
  have HV := Aside0.mk hv0
  have HM := Aside0.mk hm
  have G2 := Aside0.mk g2
  obtain ⟨R, hR⟩ : ∃ R, askF m = R := ⟨_, rfl⟩
  rw [hR]
  unfold askF at hR
  have n0 : (m.qs.length : Int) ≤ 256 := by have := hm.n0; omega
  have n1 : (m.ans.length : Int) ≤ 256 := by have := hm.n1; omega
  have n2 : (m.auth.length : Int) ≤ 256 := by have := hm.n2; omega
  have a1 := and_bit16 m.flags hm.f0 hm.f1
  have hop := fun W h => opcode_calls m _ W (HV.out.below h) hm.f0 hm.f1
  clear hv0 hm g2
  go_enter Try.func19, Try.ntmps19
  go_upto_region 1 with fail
  obtain ⟨HX0, HK0, HB0⟩ := two_at w #[.int .u16 m.id, .int .u16 m.flags, .slice A2 m.qs.length c2, .slice A3 m.ans.length c3, .slice A4 m.auth.length c4, .slice A5 m.add.length c5] #[.string ⟨#[]⟩, .int .u16 0, .int .u16 0, .bool false] 35 37
  have hk : w.heap.size ≤ w.heap.size + 1 := by omega
  generalize hW : ((w.alloc (.cells #[.int .u16 m.id, .int .u16 m.flags, .slice A2 m.qs.length c2, .slice A3 m.ans.length c3, .slice A4 m.auth.length c4, .slice A5 m.add.length c5] 35 (0, 0))).alloc (.cells #[.string ⟨#[]⟩, .int .u16 0, .int .u16 0, .bool false] 37 (0, 0))) = w1 at *
  obtain ⟨k, hkk⟩ : ∃ k, w.heap.size + 1 = k := ⟨_, rfl⟩
  rw [hkk] at HK0 hk
  rw [hkk]
  clear hW hkk
  have HX1 := Aside0.mk HX0
  have HK1 := Aside0.mk HK0
  have HB1 := Aside0.mk HB0
  clear HX0 HK0 HB0
  have z0 := HX1.out.is 0 rfl
  have z1 := HX1.out.is 1 rfl
  have z2 := HX1.out.is 2 rfl
  have z3 := HX1.out.is 3 rfl
  have z4 := HX1.out.is 4 rfl
  have z5 := HX1.out.is 5 rfl
  by_cases c1 : m.flags / 32768 % 2 = 1
  · rw [if_pos c1] at hR a1
    subst hR
    clear c1
    have k0 := HK1.out.is 0 rfl
    have k1 := HK1.out.is 1 rfl
    have k2 := HK1.out.is 2 rfl
    have k3 := HK1.out.is 3 rfl
    have fk0 := HK1.out.frozen 0
    have fk1 := HK1.out.frozen 1
    have fk2 := HK1.out.frozen 2
    have fk3 := HK1.out.frozen 3
    go_wp2_with fail
    clear k0 k1 k2 k3 fk0 fk1 fk2 fk3
    have HX : SAt _ k #[(.string ⟨#[]⟩), (.int .u16 0), (.int .u16 0), (.bool false)] 37 := (((HK1.out.set 0 (.string ⟨#[]⟩)).set 1 (.int .u16 0)).set 2 (.int .u16 0)).set 3 (.bool false)
    have HY := (((HB1.out.setCell (p := ⟨k, 0, none⟩) hk (.string ⟨#[]⟩)).setCell (p := ⟨k, 1, none⟩) hk (.int .u16 0)).setCell (p := ⟨k, 2, none⟩) hk (.int .u16 0)).setCell (p := ⟨k, 3, none⟩) hk (.bool false)
    generalize hW : ((((w1.setCell ⟨k, 0, none⟩ (.string ⟨#[]⟩)).setCell ⟨k, 1, none⟩ (.int .u16 0)).setCell ⟨k, 2, none⟩ (.int .u16 0)).setCell ⟨k, 3, none⟩ (.bool false)) = w9 at *
    clear hW
    have q0 := HX.is 0 rfl
    have q1 := HX.is 1 rfl
    have q2 := HX.is 2 rfl
    have q3 := HX.is 3 rfl
    exact bodyPost_ret (v := askE none) (by simp [results, Try.results19, go_sem, q0, q1, q2, q3, askE, Key.v, zKey]) rfl ⟨rfl, HY⟩
  rw [if_neg c1] at hR a1
  clear c1
  have HOP := Aside0.mk hop
  clear hop
  go_wp2_with fail
  refine (HOP.out _ HB1.out).mono ?_
  rintro e w2 ⟨rfl, hb⟩
  have HX2 := Aside0.mk (HX1.out.below hb)
  have HK2 := Aside0.mk (HK1.out.below hb)
  have HB2 := Aside0.mk (below_step HB1.out hb)
  clear z0 z1 z2 z3 z4 z5 hb HX1 HK1 HB1 a1
  have z0 := HX2.out.is 0 rfl
  have z1 := HX2.out.is 1 rfl
  have z2 := HX2.out.is 2 rfl
  have z3 := HX2.out.is 3 rfl
  have z4 := HX2.out.is 4 rfl
  have z5 := HX2.out.is 5 rfl
  by_cases c2 : opF m.flags ≠ 0
  · rw [if_pos c2] at hR
    subst hR
    have e2 : (opF m.flags != 0) = true := bne_iff_ne.mpr c2
    clear c2
    have k0 := HK2.out.is 0 rfl
    have k1 := HK2.out.is 1 rfl
    have k2 := HK2.out.is 2 rfl
    have k3 := HK2.out.is 3 rfl
    have fk0 := HK2.out.frozen 0
    have fk1 := HK2.out.frozen 1
    have fk2 := HK2.out.frozen 2
    have fk3 := HK2.out.frozen 3
    go_wp2_with fail
    clear k0 k1 k2 k3 fk0 fk1 fk2 fk3
    have HX : SAt _ k #[(.string ⟨#[]⟩), (.int .u16 0), (.int .u16 0), (.bool false)] 37 := (((HK2.out.set 0 (.string ⟨#[]⟩)).set 1 (.int .u16 0)).set 2 (.int .u16 0)).set 3 (.bool false)
    have HY := (((HB2.out.setCell (p := ⟨k, 0, none⟩) hk (.string ⟨#[]⟩)).setCell (p := ⟨k, 1, none⟩) hk (.int .u16 0)).setCell (p := ⟨k, 2, none⟩) hk (.int .u16 0)).setCell (p := ⟨k, 3, none⟩) hk (.bool false)
    generalize hW : ((((w2.setCell ⟨k, 0, none⟩ (.string ⟨#[]⟩)).setCell ⟨k, 1, none⟩ (.int .u16 0)).setCell ⟨k, 2, none⟩ (.int .u16 0)).setCell ⟨k, 3, none⟩ (.bool false)) = w9 at *
    clear hW
    have q0 := HX.is 0 rfl
    have q1 := HX.is 1 rfl
    have q2 := HX.is 2 rfl
    have q3 := HX.is 3 rfl
    exact bodyPost_ret (v := askE none) (by simp [results, Try.results19, go_sem, q0, q1, q2, q3, askE, Key.v, zKey]) rfl ⟨rfl, HY⟩
  rw [if_neg c2] at hR
  have e2 : (opF m.flags != 0) = false := by rw [Decidable.not_not.mp c2]; rfl
  clear c2
  by_cases c3 : m.qs.length ≠ 1
  · rw [if_pos c3] at hR
    subst hR
    have e3 : ((m.qs.length : Int) != 1) = true := by rw [bne_iff_ne]; omega
    have e3' : (m.qs.length != 1) = true := bne_iff_ne.mpr c3
    clear c3
    have k0 := HK2.out.is 0 rfl
    have k1 := HK2.out.is 1 rfl
    have k2 := HK2.out.is 2 rfl
    have k3 := HK2.out.is 3 rfl
    have fk0 := HK2.out.frozen 0
    have fk1 := HK2.out.frozen 1
    have fk2 := HK2.out.frozen 2
    have fk3 := HK2.out.frozen 3
    go_wp2_with fail
    clear k0 k1 k2 k3 fk0 fk1 fk2 fk3
    have HX : SAt _ k #[(.string ⟨#[]⟩), (.int .u16 0), (.int .u16 0), (.bool false)] 37 := (((HK2.out.set 0 (.string ⟨#[]⟩)).set 1 (.int .u16 0)).set 2 (.int .u16 0)).set 3 (.bool false)
    have HY := (((HB2.out.setCell (p := ⟨k, 0, none⟩) hk (.string ⟨#[]⟩)).setCell (p := ⟨k, 1, none⟩) hk (.int .u16 0)).setCell (p := ⟨k, 2, none⟩) hk (.int .u16 0)).setCell (p := ⟨k, 3, none⟩) hk (.bool false)
    generalize hW : ((((w2.setCell ⟨k, 0, none⟩ (.string ⟨#[]⟩)).setCell ⟨k, 1, none⟩ (.int .u16 0)).setCell ⟨k, 2, none⟩ (.int .u16 0)).setCell ⟨k, 3, none⟩ (.bool false)) = w9 at *
    clear hW
    have q0 := HX.is 0 rfl
    have q1 := HX.is 1 rfl
    have q2 := HX.is 2 rfl
    have q3 := HX.is 3 rfl
    exact bodyPost_ret (v := askE none) (by simp [results, Try.results19, go_sem, q0, q1, q2, q3, askE, Key.v, zKey]) rfl ⟨rfl, HY⟩
  rw [if_neg c3] at hR
  have c3 := Decidable.not_not.mp c3
  have e3 : ((m.qs.length : Int) != 1) = false := by rw [c3]; rfl
  have e3' : (m.qs.length != 1) = false := by rw [c3]; rfl
  by_cases c4 : 0 < m.ans.length + m.auth.length
  · rw [if_pos c4] at hR
    subst hR
    have e4 : decide ((0 : Int) < (m.ans.length : Int) + (m.auth.length : Int)) = true := decide_eq_true (by omega)
    clear c4 c3
    have k0 := HK2.out.is 0 rfl
    have k1 := HK2.out.is 1 rfl
    have k2 := HK2.out.is 2 rfl
    have k3 := HK2.out.is 3 rfl
    have fk0 := HK2.out.frozen 0
    have fk1 := HK2.out.frozen 1
    have fk2 := HK2.out.frozen 2
    have fk3 := HK2.out.frozen 3
    go_wp2_with fail
    clear k0 k1 k2 k3 fk0 fk1 fk2 fk3
    have HX : SAt _ k #[(.string ⟨#[]⟩), (.int .u16 0), (.int .u16 0), (.bool false)] 37 := (((HK2.out.set 0 (.string ⟨#[]⟩)).set 1 (.int .u16 0)).set 2 (.int .u16 0)).set 3 (.bool false)
    have HY := (((HB2.out.setCell (p := ⟨k, 0, none⟩) hk (.string ⟨#[]⟩)).setCell (p := ⟨k, 1, none⟩) hk (.int .u16 0)).setCell (p := ⟨k, 2, none⟩) hk (.int .u16 0)).setCell (p := ⟨k, 3, none⟩) hk (.bool false)
    generalize hW : ((((w2.setCell ⟨k, 0, none⟩ (.string ⟨#[]⟩)).setCell ⟨k, 1, none⟩ (.int .u16 0)).setCell ⟨k, 2, none⟩ (.int .u16 0)).setCell ⟨k, 3, none⟩ (.bool false)) = w9 at *
    clear hW
    have q0 := HX.is 0 rfl
    have q1 := HX.is 1 rfl
    have q2 := HX.is 2 rfl
    have q3 := HX.is 3 rfl
    exact bodyPost_ret (v := askE none) (by simp [results, Try.results19, go_sem, q0, q1, q2, q3, askE, Key.v, zKey]) rfl ⟨rfl, HY⟩
  rw [if_neg c4] at hR
  have e4 : decide ((0 : Int) < (m.ans.length : Int) + (m.auth.length : Int)) = false := decide_eq_false (by omega)
  clear c4
  obtain ⟨q, hq⟩ : ∃ q, m.qs = [q] := List.length_eq_one_iff.mp c3
  have hgd : m.qs.getD 0 zQues = q := by rw [hq]; rfl
  rw [hgd] at hR
  obtain ⟨ad, _, hA, -, -, -, -⟩ := at_ques G2.out 0 (by rw [c3]; decide)
  subst hA
  have g2 := G2.out
  rw [hq] at g2
  obtain ⟨y0, y1, y2⟩ := ques_at (Kd.C_below g2 HB2.out) (by simp)
  have p2 : (0 : Int) < (m.qs.length : Int) := by omega
  have hqs := HM.out.q q (by rw [hq]; simp)
  have HQ := Aside0.mk hq
  have HQS := Aside0.mk hqs
  clear c3 hgd hq g2 G2 hqs
  by_cases c5 : q.f1 = 41
  · rw [if_pos c5] at hR
    subst hR
    have e5 : (q.f1 == 41) = true := beq_iff_eq.mpr c5
    clear c5
    have k0 := HK2.out.is 0 rfl
    have k1 := HK2.out.is 1 rfl
    have k2 := HK2.out.is 2 rfl
    have k3 := HK2.out.is 3 rfl
    have fk0 := HK2.out.frozen 0
    have fk1 := HK2.out.frozen 1
    have fk2 := HK2.out.frozen 2
    have fk3 := HK2.out.frozen 3
    go_wp2_with fail
    clear k0 k1 k2 k3 fk0 fk1 fk2 fk3
    have HX : SAt _ k #[(.string ⟨#[]⟩), (.int .u16 0), (.int .u16 0), (.bool false)] 37 := (((HK2.out.set 0 (.string ⟨#[]⟩)).set 1 (.int .u16 0)).set 2 (.int .u16 0)).set 3 (.bool false)
    have HY := (((HB2.out.setCell (p := ⟨k, 0, none⟩) hk (.string ⟨#[]⟩)).setCell (p := ⟨k, 1, none⟩) hk (.int .u16 0)).setCell (p := ⟨k, 2, none⟩) hk (.int .u16 0)).setCell (p := ⟨k, 3, none⟩) hk (.bool false)
    generalize hW : ((((w2.setCell ⟨k, 0, none⟩ (.string ⟨#[]⟩)).setCell ⟨k, 1, none⟩ (.int .u16 0)).setCell ⟨k, 2, none⟩ (.int .u16 0)).setCell ⟨k, 3, none⟩ (.bool false)) = w9 at *
    clear hW
    have q0 := HX.is 0 rfl
    have q1 := HX.is 1 rfl
    have q2 := HX.is 2 rfl
    have q3 := HX.is 3 rfl
    exact bodyPost_ret (v := askE none) (by simp [results, Try.results19, go_sem, q0, q1, q2, q3, askE, Key.v, zKey]) rfl ⟨rfl, HY⟩
  rw [if_neg c5] at hR
  have e5 : (q.f1 == 41) = false := beq_eq_false_iff_ne.mpr c5
  clear c5
  go_wp2_with fail
  refine (key_calls m q _ _ (HV.out.below HB2.out) HQ.out (by have := HQS.out.name; omega)).mono ?_
  rintro e w3 ⟨rfl, hb⟩
  have HX3 := Aside0.mk (HX2.out.below hb)
  have HK3 := Aside0.mk (HK2.out.below hb)
  have HB3 := Aside0.mk (below_step HB2.out hb)
  clear z0 z1 z2 z3 z4 z5 hb HX2 HK2 HB2 y0 y1 y2 e2 e3 e3' e4 e5 HOP p2
  unfold Key.v
  simp only []
  cases c6 : isName q.f0 with
  | false =>
    rw [if_pos c6] at hR
    have hN : foldN q.f0 = ⟨#[]⟩ := by unfold foldN; rw [if_neg (by rw [c6]; simp)]
    rw [hN]
    subst hR
    clear c6 hN
    go_upto_if 43 with fail
    have HJ4 := SAt.new w3 #[.string ⟨#[]⟩, .int .u16 q.f1, .int .u16 q.f2, .bool false] 37
    have HX4 := Aside0.mk (HX3.out.below (below_alloc (Below.refl _ _) (.cells #[.string ⟨#[]⟩, .int .u16 q.f1, .int .u16 q.f2, .bool false] 37 (0, 0))))
    have HK4 := Aside0.mk (HK3.out.below (below_alloc (Below.refl _ _) (.cells #[.string ⟨#[]⟩, .int .u16 q.f1, .int .u16 q.f2, .bool false] 37 (0, 0))))
    have HB4 := Aside0.mk (below_alloc HB3.out (.cells #[.string ⟨#[]⟩, .int .u16 q.f1, .int .u16 q.f2, .bool false] 37 (0, 0)))
    have hjk := Nat.ne_of_gt HK3.out.lt
    have hjw : w.heap.size ≤ w3.heap.size := below_size HB3.out
    have hxj := Nat.ne_of_lt HX3.out.lt
    generalize hW : (w3.alloc (.cells #[.string ⟨#[]⟩, .int .u16 q.f1, .int .u16 q.f2, .bool false] 37 (0, 0))) = w4 at *
    generalize w3.heap.size = j at *
    clear hW HX3 HK3 HB3
    have k0 := HK4.out.is 0 rfl
    have k1 := HK4.out.is 1 rfl
    have k2 := HK4.out.is 2 rfl
    have k3 := HK4.out.is 3 rfl
    have fk0 := HK4.out.frozen 0
    have fk1 := HK4.out.frozen 1
    have fk2 := HK4.out.frozen 2
    have fk3 := HK4.out.frozen 3
    go_wp2_with fail
    clear k0 k1 k2 k3 fk0 fk1 fk2 fk3
    have HX : SAt _ k #[(.string ⟨#[]⟩), (.int .u16 0), (.int .u16 0), (.bool false)] 37 := (((HK4.out.set 0 (.string ⟨#[]⟩)).set 1 (.int .u16 0)).set 2 (.int .u16 0)).set 3 (.bool false)
    have HY := (((HB4.out.setCell (p := ⟨k, 0, none⟩) hk (.string ⟨#[]⟩)).setCell (p := ⟨k, 1, none⟩) hk (.int .u16 0)).setCell (p := ⟨k, 2, none⟩) hk (.int .u16 0)).setCell (p := ⟨k, 3, none⟩) hk (.bool false)
    generalize hW : ((((w4.setCell ⟨k, 0, none⟩ (.string ⟨#[]⟩)).setCell ⟨k, 1, none⟩ (.int .u16 0)).setCell ⟨k, 2, none⟩ (.int .u16 0)).setCell ⟨k, 3, none⟩ (.bool false)) = w9 at *
    clear hW
    have q0 := HX.is 0 rfl
    have q1 := HX.is 1 rfl
    have q2 := HX.is 2 rfl
    have q3 := HX.is 3 rfl
    exact bodyPost_ret (v := askE none) (by simp [results, Try.results19, go_sem, q0, q1, q2, q3, askE, Key.v, zKey]) rfl ⟨rfl, HY⟩
  | true =>
    rw [if_neg (by rw [c6]; simp)] at hR
    have hN : foldN q.f0 = foldS q.f0 := by unfold foldN; rw [if_pos c6]
    have hz : (foldS q.f0).size ≠ 0 := by rw [foldS_size]; exact isName_size c6
    have ht := text_some hz
    rw [hN]
    clear c6 hN hz
    generalize foldS q.f0 = nm at *
    go_upto_region 6 with fail
    have HJ4 := SAt.new w3 #[.string nm, .int .u16 q.f1, .int .u16 q.f2, .bool false] 37
    have HX4 := Aside0.mk (HX3.out.below (below_alloc (Below.refl _ _) (.cells #[.string nm, .int .u16 q.f1, .int .u16 q.f2, .bool false] 37 (0, 0))))
    have HK4 := Aside0.mk (HK3.out.below (below_alloc (Below.refl _ _) (.cells #[.string nm, .int .u16 q.f1, .int .u16 q.f2, .bool false] 37 (0, 0))))
    have HB4 := Aside0.mk (below_alloc HB3.out (.cells #[.string nm, .int .u16 q.f1, .int .u16 q.f2, .bool false] 37 (0, 0)))
    have hjk := Nat.ne_of_gt HK3.out.lt
    have hjw : w.heap.size ≤ w3.heap.size := below_size HB3.out
    have hxj := Nat.ne_of_lt HX3.out.lt
    generalize hW : (w3.alloc (.cells #[.string nm, .int .u16 q.f1, .int .u16 q.f2, .bool false] 37 (0, 0))) = w4 at *
    generalize w3.heap.size = j at *
    clear hW HX3 HK3 HB3
    have HJ4 := Aside0.mk HJ4
    have z0 := HX4.out.is 0 rfl
    have z1 := HX4.out.is 1 rfl
    have z2 := HX4.out.is 2 rfl
    have z3 := HX4.out.is 3 rfl
    have z4 := HX4.out.is 4 rfl
    have z5 := HX4.out.is 5 rfl
    go_wp2_with fail
    clear z0 z1 z2 z3 z4 z5
    refine (do_calls m _ _ (HV.out.below HB4.out) HM.out).mono ?_
    rintro e w5 ⟨rfl, hb⟩
    have HK5 := HK4.out.below hb
    have HJ5 := HJ4.out.below hb
    have HB5 := below_step HB4.out hb
    clear hb HX4 HK4 HB4 HJ4
    generalize doF m.add = b at *
    have j0 := HJ5.is 0 rfl
    have j1 := HJ5.is 1 rfl
    have j2 := HJ5.is 2 rfl
    have j3 := HJ5.is 3 rfl
    have fj0 := HJ5.frozen 0
    have fj1 := HJ5.frozen 1
    have fj2 := HJ5.frozen 2
    have fj3 := HJ5.frozen 3
    go_upto_region 7 with fail
    clear j0 j1 j2 j3 fj0 fj1 fj2 fj3
    have HJ6 : SAt _ j #[.string nm, .int .u16 q.f1, .int .u16 q.f2, .bool b] 37 := HJ5.set 3 (.bool b)
    have HK6 := HK5.far (Ne.symm hjk) 3 (.bool b)
    have HB6 := HB5.setCell (p := ⟨j, 3, none⟩) hjw (.bool b)
    clear HJ5 HK5 HB5
    generalize w5.setCell ⟨j, 3, none⟩ (.bool b) = w6 at *
    have j0 := HJ6.is 0 rfl
    have j1 := HJ6.is 1 rfl
    have j2 := HJ6.is 2 rfl
    have j3 := HJ6.is 3 rfl
    have fj0 := HJ6.frozen 0
    have fj1 := HJ6.frozen 1
    have fj2 := HJ6.frozen 2
    have fj3 := HJ6.frozen 3
    have k0 := HK6.is 0 rfl
    have k1 := HK6.is 1 rfl
    have k2 := HK6.is 2 rfl
    have k3 := HK6.is 3 rfl
    have fk0 := HK6.frozen 0
    have fk1 := HK6.frozen 1
    have fk2 := HK6.frozen 2
    have fk3 := HK6.frozen 3
    go_wp2_with fail
    clear j0 j1 j2 j3 fj0 fj1 fj2 fj3
    clear k0 k1 k2 k3 fk0 fk1 fk2 fk3
    have HX : SAt _ k #[(.string nm), (.int .u16 q.f1), (.int .u16 q.f2), (.bool b)] 37 := (((HK6.set 0 (.string nm)).set 1 (.int .u16 q.f1)).set 2 (.int .u16 q.f2)).set 3 (.bool b)
    have HY := (((HB6.setCell (p := ⟨k, 0, none⟩) hk (.string nm)).setCell (p := ⟨k, 1, none⟩) hk (.int .u16 q.f1)).setCell (p := ⟨k, 2, none⟩) hk (.int .u16 q.f2)).setCell (p := ⟨k, 3, none⟩) hk (.bool b)
    generalize hW : ((((w6.setCell ⟨k, 0, none⟩ (.string nm)).setCell ⟨k, 1, none⟩ (.int .u16 q.f1)).setCell ⟨k, 2, none⟩ (.int .u16 q.f2)).setCell ⟨k, 3, none⟩ (.bool b)) = w9 at *
    clear hW
    have q0 := HX.is 0 rfl
    have q1 := HX.is 1 rfl
    have q2 := HX.is 2 rfl
    have q3 := HX.is 3 rfl
    subst hR
    exact bodyPost_ret (v := askE (some ⟨nm, q.f1, q.f2, b⟩)) (by simp [results, Try.results19, go_sem, q0, q1, q2, q3, askE, Key.v]) rfl ⟨rfl, HY⟩
end Go.Proofs.Ytfoflodgegehfaa.M
