/- Walk of nunciolaw07.WriteSpares. -/
import Derived.Test.YtbbeikdbioelgaaMAwake
import Derived.Test.YtbbeikdbioelgaaMRow
import Derived.Test.YtbbeikdbioelgaaMSparesPure
set_option linter.unusedVariables false
set_option linter.unusedSimpArgs false
namespace Go.Proofs.Ytbbeikdbioelgaa.M
open Go.RowKit Go.Maps Go.Proofs.YtbbeikdbioelgaaW.PrintWords Go.Proofs.YtbbeikdbioelgaaW.PrintLast Go.Proofs.YtbbeikdbioelgaaW.PrintMore
attribute [local go_sem] max2_int min2_int max_two min_two max_three min_three max_four min_four
attribute [local go_sem ↓] Go.wp_at_zero Go.wp_at_succ

section
variable {ops : Array Oper} {rest : List Oper} {o : Oper} {a : Act} {Q : Exit → Act → World → Prop}
theorem appR {w0 W : World} {base : Nat} {ok : Nat → Prop} (hgd : o.guard = none) (s x : Operand) (ho : o.op = .call { callee := .builtin .append, args := #[s, x], argTypes := #[24, 24] })
    {v : Value} {xs ys : List (List Value)} {A : Option Addr} {m c : Nat} (hs : a.eval s = v) (hx : a.eval x = .slice A m c)
    (HO : Kd.R (kRaw 7) 44 W base ok v xs) (HR : (kRaw 7).C W A m ys) (HB : Below base w0 W) (hbase : base ≤ W.heap.size) (hfresh : ∀ k, W.heap.size ≤ k → ok k) (hl : (xs.length + m) * 96 ≤ 140737488355328)
    (h : ∀ v1 w1, Kd.R (kRaw 7) 44 w1 base ok v1 (xs ++ ys) → Below base w0 w1 → W.grownBy w1 v.ownBlock → wpList Try.prog ops Q rest (a.put o.dst v1) w1) :
    wpList Try.prog ops Q (o :: rest) a W :=
  Kd.R_append_rows (kRaw 7) (w0 := w0) base hgd s x 24 44 _ 96 ho Try.underlying24 infoRec rfl (by decide) (by decide) v xs ys A m c ok (fun _ => False) hs hx HO HR (fun _ _ hk => hk) (fun _ hk => hk.elim) hfresh HB hbase hl
    (fun v1 w1 h1 h2 h3 _ => h v1 w1 h1 h2 h3)
end
theorem RR_empty {w0 w : World} {ok : Nat → Prop} (hb : w0.heap.size ≤ w.heap.size) (hok : ok w.heap.size) : Kd.R (kRaw 7) 44 (w.alloc (.cells #[] 44)) w0.heap.size ok (.slice (some ⟨w.heap.size, 0, none⟩) 0 0) [] :=
  ⟨fun k hk => by obtain rfl : w.heap.size = k := Option.some.inj hk
                  exact hok, [], by have h2 := World.ownsRow_lit (base := w0.heap.size) (e := 44) (size := 7) w #[] 0 hb (by decide) rfl; exact h2, Reps.none _ _⟩
/-- The message that grows, and the record that is added. -/
structure SpAt (w wr : World) (B : Nat) (c0 c1 c2 c3 c4 : Value) (q : ByteArray) (zs : List (List Value)) : Prop where
  more : ∃ A c, wr.heap[B + 1 + 1]? = some (.cells #[c0, c1, c2, c3, c4, .slice A zs.length c] 26 (0, 0)) ∧ Kd.R (kRaw 7) 44 wr w.heap.size (fun k => k ≠ B + 1) (.slice A zs.length c) zs
  one : wr.heap[B + 1]? = some (.cells #[.string q, .int .u16 1, .int .u16 1, .int .u32 0, .slice none 0 0, .slice none 0 0, .slice (some ⟨B, 0, none⟩) 1 1] 44 (0, 0))
  txt : wr.heap[B]? = some (.cells #[.string ⟨#[97, 98, 99, 100]⟩] 9 (0, 0))
  base : Below w.heap.size w wr
  above : w.heap.size ≤ B
theorem spAt_put {w W : World} {B : Nat} {c0 c1 c2 c3 c4 x : Value} {q : ByteArray} {zs : List (List Value)} {A : Option Addr} {c : Nat}
    (hm : W.heap[B + 1 + 1]? = some (.cells #[c0, c1, c2, c3, c4, x] 26 (0, 0))) (hr : Kd.R (kRaw 7) 44 W w.heap.size (fun k => k ≠ B + 1) (.slice A zs.length c) zs)
    (h1 : W.heap[B + 1]? = some (.cells #[.string q, .int .u16 1, .int .u16 1, .int .u32 0, .slice none 0 0, .slice none 0 0, .slice (some ⟨B, 0, none⟩) 1 1] 44 (0, 0))) (h2 : W.heap[B]? = some (.cells #[.string ⟨#[97, 98, 99, 100]⟩] 9 (0, 0))) (hb : Below w.heap.size w W) (ha : w.heap.size ≤ B) :
    SpAt w (W.setCell ⟨B + 1 + 1, 5, none⟩ (.slice A zs.length c)) B c0 c1 c2 c3 c4 q zs :=
  ⟨⟨A, c, blk_put hm 5 _ rfl, Kd.R_set hr hm (by decide) 5 _⟩, blk_far h1 (p := ⟨B + 1 + 1, 5, none⟩) (by show _ ≠ B + 1 + 1; omega) _, blk_far h2 (p := ⟨B + 1 + 1, 5, none⟩) (by show _ ≠ B + 1 + 1; omega) _, hb.setCell (by simp; omega) _, ha⟩
theorem sp_match {w wr : World} {B k : Nat} {q : ByteArray} {ys : List Rec} {zs : List (List Value)} (hm : Match w ys zs) (hb : Below w.heap.size w wr) (h2 : wr.heap[B]? = some (.cells #[.string ⟨#[97, 98, 99, 100]⟩] 9 (0, 0))) :
    Match wr (ys ++ List.replicate k (spare q)) (zs ++ List.replicate k ([.string q, .int .u16 1, .int .u16 1, .int .u32 0, .slice none 0 0, .slice none 0 0, .slice (some ⟨B, 0, none⟩) 1 1] : List Value)) := by
  refine (hm.below hb).append ⟨by simp, fun j y z hy hz => ?_⟩
  rw [List.getElem?_replicate] at hy hz
  by_cases hj : j < k
  · rw [if_pos hj] at hy hz
    obtain rfl := Option.some.inj hy
    obtain rfl := Option.some.inj hz
    exact kRec_mk wr (spare q) (Nat.le_refl _) (Kd.C_nil _ wr) (Nat.le_refl _) (Kd.C_nil _ wr) (Nat.le_refl 1) (C_one h2 rfl rfl)
  · rw [if_neg hj] at hy
    exact absurd hy (by simp)
set_option maxHeartbeats 4000000 in
set_option maxRecDepth 100000 in
theorem spares_calls (m : Msg) (n : Nat) (v : Value) (w : World) (hv : MsgAt w v m) (hin : MsgIn m) (hn : n ≤ 255) :
    Calls Try.prog 5 #[v, .int .u8 n] w fun e w' => e = .returned (.bool true) ∧ Below w.heap.size w w' := by
  have HV := Aside0.mk hv
  have HIn := Aside0.mk hin
  have HN := Aside0.mk hn
  obtain ⟨A2, c2, A3, c3, A4, c4, A5, c5, rfl, l2, g2, l3, g3, l4, g4, l5, g5⟩ := hv
  have G2 := Aside0.mk g2
  have G3 := Aside0.mk g3
  have G4 := Aside0.mk g4
  obtain ⟨z5s, r5, m5⟩ := raw_of g5
  have R5 := Aside0.mk r5
  have M5 := Aside0.mk m5
  clear r5 m5
  clear g2 g3 g4 g5 hin hn
  go_enter Try.func5, Try.ntmps5
  go_wp2_with (((with_reducible refine gate_dst (N := 2) rfl ?_); refine box_event rfl (N := 2) rfl (cs := #[.int .u16 m.id, .int .u16 m.flags, .slice A2 m.qs.length c2, .slice A3 m.ans.length c3, .slice A4 m.auth.length c4, .slice A5 m.add.length c5]) (t := 26) (by first | (go_simp; done) | (go_simp; rfl)) ?_; intro g hg w1 hbox hb); have HX := Aside0.mk hbox; have HB := Aside0.mk hb; have HGe := Aside0.mk hg; clear hb hg; have z0 : w1.cell? ⟨g, 0, none⟩ = some (.int .u16 m.id) := (blk_cell HX.out 0).trans rfl; have z1 : w1.cell? ⟨g, 1, none⟩ = some (.int .u16 m.flags) := (blk_cell HX.out 1).trans rfl; have z2 : w1.cell? ⟨g, 2, none⟩ = some (.slice A2 m.qs.length c2) := (blk_cell HX.out 2).trans rfl; have z3 : w1.cell? ⟨g, 3, none⟩ = some (.slice A3 m.ans.length c3) := (blk_cell HX.out 3).trans rfl; have z4 : w1.cell? ⟨g, 4, none⟩ = some (.slice A4 m.auth.length c4) := (blk_cell HX.out 4).trans rfl; have z5 : w1.cell? ⟨g, 5, none⟩ = some (.slice A5 m.add.length c5) := (blk_cell HX.out 5).trans rfl; have hlt : g < w1.heap.size := blk_lt hbox; have hlne : ¬ g = w1.heap.size := Nat.ne_of_lt hlt; clear hbox)
  refine (awake_calls _).mono ?_
  rintro e w2 ⟨rfl, hb⟩
  have HX2 := Aside0.mk (blk_below HX.out hb)
  have HB2 := Aside0.mk (below_step HB.out hb)
  have HBa := Aside0.mk hb
  clear hb z0 z1 z2 z3 z4 z5
  have z0 : w2.cell? ⟨g, 0, none⟩ = some (.int .u16 m.id) := (blk_cell HX2.out 0).trans rfl
  have z1 : w2.cell? ⟨g, 1, none⟩ = some (.int .u16 m.flags) := (blk_cell HX2.out 1).trans rfl
  have z2 : w2.cell? ⟨g, 2, none⟩ = some (.slice A2 m.qs.length c2) := (blk_cell HX2.out 2).trans rfl
  have z3 : w2.cell? ⟨g, 3, none⟩ = some (.slice A3 m.ans.length c3) := (blk_cell HX2.out 3).trans rfl
  have z4 : w2.cell? ⟨g, 4, none⟩ = some (.slice A4 m.auth.length c4) := (blk_cell HX2.out 4).trans rfl
  have z5 : w2.cell? ⟨g, 5, none⟩ = some (.slice A5 m.add.length c5) := (blk_cell HX2.out 5).trans rfl
  go_wp2_with fail
  refine (few7_calls m _ _ (HV.out.below HB2.out) HIn.out.sized).mono ?_
  rintro e w3 ⟨b, rfl, h7, hb⟩
  have H7 := Lib.hid h7
  have HX3 := Aside0.mk (blk_below HX2.out hb)
  have HB3 := Aside0.mk (below_step HB2.out hb)
  clear hb h7 z0 z1 z2 z3 z4 z5
  have z0 : w3.cell? ⟨g, 0, none⟩ = some (.int .u16 m.id) := (blk_cell HX3.out 0).trans rfl
  have z1 : w3.cell? ⟨g, 1, none⟩ = some (.int .u16 m.flags) := (blk_cell HX3.out 1).trans rfl
  have z2 : w3.cell? ⟨g, 2, none⟩ = some (.slice A2 m.qs.length c2) := (blk_cell HX3.out 2).trans rfl
  have z3 : w3.cell? ⟨g, 3, none⟩ = some (.slice A3 m.ans.length c3) := (blk_cell HX3.out 3).trans rfl
  have z4 : w3.cell? ⟨g, 4, none⟩ = some (.slice A4 m.auth.length c4) := (blk_cell HX3.out 4).trans rfl
  have z5 : w3.cell? ⟨g, 5, none⟩ = some (.slice A5 m.add.length c5) := (blk_cell HX3.out 5).trans rfl
  cases b with
  | false =>
    go_wp2_with fail
    go_ret
    exact ⟨rfl, HB3.out⟩
  | true =>
    by_cases hq : m.qs.length = 1
    case neg =>
      have d0 : ((m.qs.length : Int) != 1) = true := by rw [bne_iff_ne]; omega
      clear hq
      go_wp2_with fail
      go_ret
      exact ⟨rfl, HB3.out⟩
    obtain ⟨ad, qq, hA, hqq, e0, e1, e2⟩ := at_ques (Kd.C_below G2.out HB3.out) 0 (by omega)
    subst hA
    have e3 : w3.cell? ad = some (.string qq.f0) := by
      have ha : ad.add (0 * 3) = ad := by obtain ⟨b, o, q⟩ := ad; cases q <;> simp [Addr.add]
      rwa [ha] at e0
    clear e0 e1 e2
    have HV1 := Aside0.mk (show MsgAt w (.agg #[.int .u16 m.id, .int .u16 m.flags, .slice (some ad) 1 c2, .slice A3 m.ans.length c3, .slice A4 m.auth.length c4, .slice A5 m.add.length c5]) m by
      have := HV.out
      rwa [hq] at this)
    have HQ := Aside0.mk (And.intro hq hqq)
    clear hqq
    by_cases h2 : qq.f0.size < 2
    · have d0 : decide ((qq.f0.size : Int) < 2) = true := decide_eq_true (by omega)
      have d0' : decide (qq.f0.size < 2) = true := decide_eq_true h2
      clear h2
      go_wp2_with fail
      go_ret
      exact ⟨rfl, HB3.out⟩
    have d0 : decide ((qq.f0.size : Int) < 2) = false := decide_eq_false (by omega)
    have d0' : decide (qq.f0.size < 2) = false := decide_eq_false h2
    have H2q := Aside0.mk (show 2 ≤ qq.f0.size by omega)
    have HF7 := Aside0.mk (H7.out rfl)
    have HOk := Aside0.mk (HIn.out.ok HF7.out)
    clear h2
    go_wp2_with fail
    refine (write_calls m _ _ (HV1.out.below HB3.out) HOk.out).mono ?_
    rintro e w4 ⟨rfl, hb⟩
    have HX4 := Aside0.mk (blk_below HX3.out hb)
    have HB4 := Aside0.mk (below_step HB3.out hb)
    have e4 : w4.cell? ad = some (.string qq.f0) := by
      rw [← e3]
      exact hb.cell (World.block_lt_of_cell? _ _ e3)
    obtain ⟨S, hS⟩ : ∃ S, (writeM m).1 = S := ⟨_, rfl⟩
    obtain ⟨co, hco⟩ : ∃ co, (writeM m).2 = co := ⟨_, rfl⟩
    rw [hS, hco]
    have HS := Aside0.mk (And.intro hS hco)
    clear hb hS hco z0 z1 z2 z3 z4 z5 e3 d0 d0'
    have z0 : w4.cell? ⟨g, 0, none⟩ = some (.int .u16 m.id) := (blk_cell HX4.out 0).trans rfl
    have z1 : w4.cell? ⟨g, 1, none⟩ = some (.int .u16 m.flags) := (blk_cell HX4.out 1).trans rfl
    have z2 : w4.cell? ⟨g, 2, none⟩ = some (.slice (some ad) 1 c2) := by rw [← HQ.out.1]; exact (blk_cell HX4.out 2).trans rfl
    have z3 : w4.cell? ⟨g, 3, none⟩ = some (.slice A3 m.ans.length c3) := (blk_cell HX4.out 3).trans rfl
    have z4 : w4.cell? ⟨g, 4, none⟩ = some (.slice A4 m.auth.length c4) := (blk_cell HX4.out 4).trans rfl
    have z5 : w4.cell? ⟨g, 5, none⟩ = some (.slice A5 m.add.length c5) := (blk_cell HX4.out 5).trans rfl
    have HXe := Aside0.mk (blk_alloc (blk_alloc HX4.out (.cells #[.string ⟨#[97, 98, 99, 100]⟩] 9)) (.cells #[.string qq.f0, .int .u16 1, .int .u16 1, .int .u32 0, .slice none 0 0, .slice none 0 0, .slice (some ⟨w4.heap.size, 0, none⟩) 1 1] 44))
    have HXf := Aside0.mk (blk_alloc (blk_alloc HXe.out (.cells #[.int .u16 m.id, .int .u16 m.flags, .slice (some ad) 1 c2, .slice A3 m.ans.length c3, .slice A4 m.auth.length c4, .slice A5 m.add.length c5] 26)) (.cells #[] 44))
    have y0 : ((w4.alloc (.cells #[.string ⟨#[97, 98, 99, 100]⟩] 9)).alloc (.cells #[.string qq.f0, .int .u16 1, .int .u16 1, .int .u32 0, .slice none 0 0, .slice none 0 0, .slice (some ⟨w4.heap.size, 0, none⟩) 1 1] 44)).cell? ⟨g, 0, none⟩ = some (.int .u16 m.id) := (blk_cell HXe.out 0).trans rfl
    have y1 : ((w4.alloc (.cells #[.string ⟨#[97, 98, 99, 100]⟩] 9)).alloc (.cells #[.string qq.f0, .int .u16 1, .int .u16 1, .int .u32 0, .slice none 0 0, .slice none 0 0, .slice (some ⟨w4.heap.size, 0, none⟩) 1 1] 44)).cell? ⟨g, 1, none⟩ = some (.int .u16 m.flags) := (blk_cell HXe.out 1).trans rfl
    have y2 : ((w4.alloc (.cells #[.string ⟨#[97, 98, 99, 100]⟩] 9)).alloc (.cells #[.string qq.f0, .int .u16 1, .int .u16 1, .int .u32 0, .slice none 0 0, .slice none 0 0, .slice (some ⟨w4.heap.size, 0, none⟩) 1 1] 44)).cell? ⟨g, 2, none⟩ = some (.slice (some ad) 1 c2) := (blk_cell HXe.out 2).trans (congrArg (fun k => some (Value.slice (some ad) k c2)) HQ.out.1)
    have y3 : ((w4.alloc (.cells #[.string ⟨#[97, 98, 99, 100]⟩] 9)).alloc (.cells #[.string qq.f0, .int .u16 1, .int .u16 1, .int .u32 0, .slice none 0 0, .slice none 0 0, .slice (some ⟨w4.heap.size, 0, none⟩) 1 1] 44)).cell? ⟨g, 3, none⟩ = some (.slice A3 m.ans.length c3) := (blk_cell HXe.out 3).trans rfl
    have y4 : ((w4.alloc (.cells #[.string ⟨#[97, 98, 99, 100]⟩] 9)).alloc (.cells #[.string qq.f0, .int .u16 1, .int .u16 1, .int .u32 0, .slice none 0 0, .slice none 0 0, .slice (some ⟨w4.heap.size, 0, none⟩) 1 1] 44)).cell? ⟨g, 4, none⟩ = some (.slice A4 m.auth.length c4) := (blk_cell HXe.out 4).trans rfl
    have y5 : ((w4.alloc (.cells #[.string ⟨#[97, 98, 99, 100]⟩] 9)).alloc (.cells #[.string qq.f0, .int .u16 1, .int .u16 1, .int .u32 0, .slice none 0 0, .slice none 0 0, .slice (some ⟨w4.heap.size, 0, none⟩) 1 1] 44)).cell? ⟨g, 5, none⟩ = some (.slice A5 m.add.length c5) := (blk_cell HXe.out 5).trans rfl
    have x5 : ((((w4.alloc (.cells #[.string ⟨#[97, 98, 99, 100]⟩] 9)).alloc (.cells #[.string qq.f0, .int .u16 1, .int .u16 1, .int .u32 0, .slice none 0 0, .slice none 0 0, .slice (some ⟨w4.heap.size, 0, none⟩) 1 1] 44)).alloc (.cells #[.int .u16 m.id, .int .u16 m.flags, .slice (some ad) 1 c2, .slice A3 m.ans.length c3, .slice A4 m.auth.length c4, .slice A5 m.add.length c5] 26)).alloc (.cells #[] 44)).cell? ⟨g, 5, none⟩ = some (.slice A5 m.add.length c5) := (blk_cell HXf.out 5).trans rfl
    have hbr := RR_empty (w0 := w) (w := (((w4.alloc (.cells #[.string ⟨#[97, 98, 99, 100]⟩] 9)).alloc (.cells #[.string qq.f0, .int .u16 1, .int .u16 1, .int .u32 0, .slice none 0 0, .slice none 0 0, .slice (some ⟨w4.heap.size, 0, none⟩) 1 1] 44)).alloc (.cells #[.int .u16 m.id, .int .u16 m.flags, .slice (some ad) 1 c2, .slice A3 m.ans.length c3, .slice A4 m.auth.length c4, .slice A5 m.add.length c5] 26))) (ok := fun k => k ≠ w4.heap.size + 1) (by rw [World.size_alloc, World.size_alloc, World.size_alloc]; have := HB4.out.size; omega) (by rw [World.size_alloc, World.size_alloc, World.size_alloc]; omega)
    rw [World.size_alloc, World.size_alloc, World.size_alloc] at hbr
    have HBr := Aside0.mk hbr
    have HBe := Aside0.mk (below_alloc (below_alloc (below_alloc (below_alloc HB4.out (.cells #[.string ⟨#[97, 98, 99, 100]⟩] 9)) (.cells #[.string qq.f0, .int .u16 1, .int .u16 1, .int .u32 0, .slice none 0 0, .slice none 0 0, .slice (some ⟨w4.heap.size, 0, none⟩) 1 1] 44)) (.cells #[.int .u16 m.id, .int .u16 m.flags, .slice (some ad) 1 c2, .slice A3 m.ans.length c3, .slice A4 m.auth.length c4, .slice A5 m.add.length c5] 26)) (.cells #[] 44))
    have hlk : (E : World) → E = ((((w4.alloc (.cells #[.string ⟨#[97, 98, 99, 100]⟩] 9)).alloc (.cells #[.string qq.f0, .int .u16 1, .int .u16 1, .int .u32 0, .slice none 0 0, .slice none 0 0, .slice (some ⟨w4.heap.size, 0, none⟩) 1 1] 44)).alloc (.cells #[.int .u16 m.id, .int .u16 m.flags, .slice (some ad) 1 c2, .slice A3 m.ans.length c3, .slice A4 m.auth.length c4, .slice A5 m.add.length c5] 26)).alloc (.cells #[] 44)) → E.heap.size = w4.heap.size + 1 + 1 + 1 + 1 := by rintro E rfl; simp only [World.size_alloc]
    have HLk := Aside0.mk hlk
    have hbm := blk_alloc (blk_new ((w4.alloc (.cells #[.string ⟨#[97, 98, 99, 100]⟩] 9)).alloc (.cells #[.string qq.f0, .int .u16 1, .int .u16 1, .int .u32 0, .slice none 0 0, .slice none 0 0, .slice (some ⟨w4.heap.size, 0, none⟩) 1 1] 44)) (.cells #[.int .u16 m.id, .int .u16 m.flags, .slice (some ad) 1 c2, .slice A3 m.ans.length c3, .slice A4 m.auth.length c4, .slice A5 m.add.length c5] 26)) (.cells #[] 44)
    have hbx := blk_alloc (blk_alloc (blk_new (w4.alloc (.cells #[.string ⟨#[97, 98, 99, 100]⟩] 9)) (.cells #[.string qq.f0, .int .u16 1, .int .u16 1, .int .u32 0, .slice none 0 0, .slice none 0 0, .slice (some ⟨w4.heap.size, 0, none⟩) 1 1] 44)) (.cells #[.int .u16 m.id, .int .u16 m.flags, .slice (some ad) 1 c2, .slice A3 m.ans.length c3, .slice A4 m.auth.length c4, .slice A5 m.add.length c5] 26)) (.cells #[] 44)
    have hbt := blk_alloc (blk_alloc (blk_alloc (blk_new w4 (.cells #[.string ⟨#[97, 98, 99, 100]⟩] 9)) (.cells #[.string qq.f0, .int .u16 1, .int .u16 1, .int .u32 0, .slice none 0 0, .slice none 0 0, .slice (some ⟨w4.heap.size, 0, none⟩) 1 1] 44)) (.cells #[.int .u16 m.id, .int .u16 m.flags, .slice (some ad) 1 c2, .slice A3 m.ans.length c3, .slice A4 m.auth.length c4, .slice A5 m.add.length c5] 26)) (.cells #[] 44)
    rw [World.size_alloc, World.size_alloc] at hbm
    rw [World.size_alloc] at hbx
    have HBm := Aside0.mk hbm
    have HBx := Aside0.mk hbx
    have HBt := Aside0.mk hbt
    have HLa := Aside0.mk (show m.add.length ≤ 300 from HF7.out.n3)
    clear hbr hlk hbm hbx hbt
    go_wp2_with ((with_reducible refine gate_builtin (b := .append) (xs := #[.tmp 45, .tmp 47]) rfl ?_); at_builtin; refine appR (w0 := w) (base := w.heap.size) rfl (.tmp 45) (.tmp 47) rfl rfl rfl HBr.out (Kd.C_below R5.out HBe.out) HBe.out HBe.out.size (fun k hk => by have := HLk.out _ rfl; omega) (by have := HLa.out; simp; omega) ?_; intro va wa hoa hba hga; obtain ⟨Aa, ca, rfl⟩ := Kd.R_slice hoa; have hga2 : ((((w4.alloc (.cells #[.string ⟨#[97, 98, 99, 100]⟩] 9)).alloc (.cells #[.string qq.f0, .int .u16 1, .int .u16 1, .int .u32 0, .slice none 0 0, .slice none 0 0, .slice (some ⟨w4.heap.size, 0, none⟩) 1 1] 44)).alloc (.cells #[.int .u16 m.id, .int .u16 m.flags, .slice (some ad) 1 c2, .slice A3 m.ans.length c3, .slice A4 m.auth.length c4, .slice A5 m.add.length c5] 26)).alloc (.cells #[] 44)).grownBy wa (some (w4.heap.size + 1 + 1 + 1)) := hga; have hma := blk_grown HBm.out hga2 (by simp); have fma : wa.frozen? ⟨w4.heap.size + 1 + 1, 5, none⟩ = false := blk_frozen hma 5; have zma : wa.cell? ⟨w4.heap.size + 1 + 1, 5, none⟩ = some (.slice A5 m.add.length c5) := (blk_cell hma 5).trans rfl; have HMa := Aside0.mk hma; have HGa := Aside0.mk hga2; have HOa := Aside0.mk hoa; have HBa := Aside0.mk hba; clear hma hga hga2 hoa hba)
    have hsp := spAt_put (w := w) (W := wa) (B := w4.heap.size) (q := qq.f0) HMa.out HOa.out (blk_grown HBx.out HGa.out (by simp)) (blk_grown HBt.out HGa.out (by simp; omega)) HBa.out HB4.out.size
    have hz5 : ([] ++ z5s).length = z5s.length := rfl
    rw [hz5] at hsp
    have HSp := Aside0.mk hsp
    clear hsp hz5 fma zma y0 y1 y2 y3 y4 y5 x5 e4 z0 z1 z2 z3 z4 z5 hlt hlne
    generalize wa.setCell ⟨w4.heap.size + 1 + 1, 5, none⟩ (Value.slice Aa z5s.length ca) = ws at *
    have hB := HSp.out.above
    generalize w4.heap.size = B at *
    go_loopw [9] (fun t wr => ∃ k : Nat, t = .int .i64 k ∧ Aside0 (k ≤ n % 9) ∧ Aside0 (SpAt w wr B (.int .u16 m.id) (.int .u16 m.flags) (.slice (some ad) 1 c2) (.slice A3 m.ans.length c3) (.slice A4 m.auth.length c4) qq.f0 (z5s ++ List.replicate k [.string qq.f0, .int .u16 1, .int .u16 1, .int .u32 0, .slice none 0 0, .slice none 0 0, .slice (some ⟨B, 0, none⟩) 1 1]))) (fun t _ => n % 9 - (intOf t).toNat)
    case atStart => exact ⟨0, rfl, ⟨Nat.zero_le _⟩, ⟨by simpa using HSp.out⟩⟩
    case round =>
      obtain ⟨k, rfl, HK, HS⟩ := hrel
      have hs := HS.out
      obtain ⟨zs, hzs⟩ : ∃ zs : List (List Value), z5s ++ List.replicate k [.string qq.f0, .int .u16 1, .int .u16 1, .int .u32 0, .slice none 0 0, .slice none 0 0, .slice (some ⟨B, 0, none⟩) 1 1] = zs := ⟨_, rfl⟩
      rw [hzs] at hs
      have HZ := Aside0.mk hzs
      clear hzs HS
      obtain ⟨⟨A, c, hm, hr⟩, h1, h2, hb, hab⟩ := hs
      have HM := Aside0.mk hm
      have HR := Aside0.mk hr
      have H1 := Aside0.mk h1
      have H2 := Aside0.mk h2
      have HB := Aside0.mk hb
      have q0 : wr.cell? ⟨B + 1, 0, none⟩ = some (.string qq.f0) := (blk_cell h1 0).trans rfl
      have q1 : wr.cell? ⟨B + 1, 1, none⟩ = some (.int .u16 1) := (blk_cell h1 1).trans rfl
      have q2 : wr.cell? ⟨B + 1, 2, none⟩ = some (.int .u16 1) := (blk_cell h1 2).trans rfl
      have q3 : wr.cell? ⟨B + 1, 3, none⟩ = some (.int .u32 0) := (blk_cell h1 3).trans rfl
      have q4 : wr.cell? ⟨B + 1, 4, none⟩ = some (.slice none 0 0) := (blk_cell h1 4).trans rfl
      have q5 : wr.cell? ⟨B + 1, 5, none⟩ = some (.slice none 0 0) := (blk_cell h1 5).trans rfl
      have q6 : wr.cell? ⟨B + 1, 6, none⟩ = some (.slice (some ⟨B, 0, none⟩) 1 1) := (blk_cell h1 6).trans rfl
      have q7 : wr.cell? ⟨B + 1 + 1, 5, none⟩ = some (.slice A zs.length c) := (blk_cell hm 5).trans rfl
      clear hm hr h1 h2 hb
      have hkn := HK.out
      have hn := HN.out
      by_cases hk : k < n % 9
      · have d1 : decide ((k : Int) < (n : Int) % 9) = true := decide_eq_true (by omega)
        have d2 : (k : Int) < (n : Int) % 9 := by omega
        have hcx := C_one (K := kRaw 7) (x := [.string qq.f0, .int .u16 1, .int .u16 1, .int .u32 0, .slice none 0 0, .slice none 0 0, .slice (some ⟨B, 0, none⟩) 1 1]) (blk_new wr (.cells #[.string qq.f0, .int .u16 1, .int .u16 1, .int .u32 0, .slice none 0 0, .slice none 0 0, .slice (some ⟨B, 0, none⟩) 1 1] 44)) rfl ⟨rfl, rfl, by simp [Value.oneCell']⟩
        have HCx := Aside0.mk hcx
        have HBx := Aside0.mk (below_alloc HB.out (.cells #[.string qq.f0, .int .u16 1, .int .u16 1, .int .u32 0, .slice none 0 0, .slice none 0 0, .slice (some ⟨B, 0, none⟩) 1 1] 44))
        have HRx := Aside0.mk (Kd.R_alloc HR.out (.cells #[.string qq.f0, .int .u16 1, .int .u16 1, .int .u32 0, .slice none 0 0, .slice none 0 0, .slice (some ⟨B, 0, none⟩) 1 1] 44))
        have HMx := Aside0.mk (blk_alloc HM.out (.cells #[.string qq.f0, .int .u16 1, .int .u16 1, .int .u32 0, .slice none 0 0, .slice none 0 0, .slice (some ⟨B, 0, none⟩) 1 1] 44))
        have H1x := Aside0.mk (blk_alloc H1.out (.cells #[.string qq.f0, .int .u16 1, .int .u16 1, .int .u32 0, .slice none 0 0, .slice none 0 0, .slice (some ⟨B, 0, none⟩) 1 1] 44))
        have H2x := Aside0.mk (blk_alloc H2.out (.cells #[.string qq.f0, .int .u16 1, .int .u16 1, .int .u32 0, .slice none 0 0, .slice none 0 0, .slice (some ⟨B, 0, none⟩) 1 1] 44))
        have HLz := Aside0.mk (show zs.length ≤ 400 by
          rw [← HZ.out, List.length_append, List.length_replicate]
          have := HLa.out
          have := M5.out.1
          omega)
        have p3 : (k : Int) + 1 ≤ 9223372036854775807 := by omega
        clear hcx hkn hn
        go_wp2_with ((with_reducible refine gate_builtin (b := .append) (xs := #[.tmp 58, .tmp 60]) rfl ?_); at_builtin; refine appR (w0 := w) (base := w.heap.size) rfl (.tmp 58) (.tmp 60) rfl rfl rfl HRx.out HCx.out HBx.out HBx.out.size (fun j hj => by have := blk_lt H1x.out; omega) (by have := HLz.out; omega) ?_; intro va wa hoa hba hga; obtain ⟨Aa, ca, rfl⟩ := Kd.R_slice hoa; have hma := blk_grown HMx.out hga (Kd.R_ne HRx.out HMx.out (by decide)); have h1a := blk_grown H1x.out hga (Kd.R_away HRx.out (fun _ h => h)); have h2a := blk_grown H2x.out hga (Kd.R_ne HRx.out H2x.out (by decide)); have fma : wa.frozen? ⟨B + 1 + 1, 5, none⟩ = false := blk_frozen hma 5; have zma : wa.cell? ⟨B + 1 + 1, 5, none⟩ = some (.slice A zs.length c) := (blk_cell hma 5).trans rfl; have HSa := Aside0.mk (spAt_put hma hoa h1a h2a hba hB); clear hma h1a h2a hga hoa hba)
        go_roundw
        case rel =>
          refine ⟨k + 1, by go_num, ⟨hk⟩, ⟨?_⟩⟩
          have h := HSa.out
          have e1 : (zs ++ ([[.string qq.f0, .int .u16 1, .int .u16 1, .int .u32 0, .slice none 0 0, .slice none 0 0, .slice (some ⟨B, 0, none⟩) 1 1]] : List (List Value))).length = zs.length + 1 := by simp
          have e2 : z5s ++ List.replicate (k + 1) ([.string qq.f0, .int .u16 1, .int .u16 1, .int .u32 0, .slice none 0 0, .slice none 0 0, .slice (some ⟨B, 0, none⟩) 1 1] : List Value) = zs ++ ([[.string qq.f0, .int .u16 1, .int .u16 1, .int .u32 0, .slice none 0 0, .slice none 0 0, .slice (some ⟨B, 0, none⟩) 1 1]] : List (List Value)) := by rw [← HZ.out, List.replicate_succ', List.append_assoc]
          rw [e1] at h
          rw [e2]
          exact h
        case measure => simp [intOf]; omega
      · have d1 : decide ((k : Int) < (n : Int) % 9) = false := decide_eq_false (by omega)
        have hk9 : k = n % 9 := by omega
        have d2 : (n : Int) % 9 ≤ (k : Int) := by omega
        have q8 : wr.cell? ⟨B + 1 + 1, 0, none⟩ = some (.int .u16 m.id) := (blk_cell HM.out 0).trans rfl
        have q9 : wr.cell? ⟨B + 1 + 1, 1, none⟩ = some (.int .u16 m.flags) := (blk_cell HM.out 1).trans rfl
        have q10 : wr.cell? ⟨B + 1 + 1, 2, none⟩ = some (.slice (some ad) 1 c2) := (blk_cell HM.out 2).trans rfl
        have q11 : wr.cell? ⟨B + 1 + 1, 3, none⟩ = some (.slice A3 m.ans.length c3) := (blk_cell HM.out 3).trans rfl
        have q12 : wr.cell? ⟨B + 1 + 1, 4, none⟩ = some (.slice A4 m.auth.length c4) := (blk_cell HM.out 4).trans rfl
        have hma := Kd.R_reads' HR.out
        have hz : zs.length = (m.add ++ List.replicate k (spare qq.f0)).length := by
          rw [← HZ.out, List.length_append, List.length_append, List.length_replicate, List.length_replicate, M5.out.1]
        have HMa := Aside0.mk (show MsgAt wr (.agg #[.int .u16 m.id, .int .u16 m.flags, .slice (some ad) 1 c2, .slice A3 m.ans.length c3, .slice A4 m.auth.length c4, .slice A zs.length c]) (moreM m k qq.f0) from by
          have hc := of_raw hma.2.2 (by rw [← HZ.out]; exact sp_match M5.out HB.out H2.out)
          have hl := hma.2.1
          rw [hz] at hc hl ⊢
          have hg := Kd.C_below G2.out HB.out
          rw [← HQ.out.1]
          exact ⟨some ad, c2, A3, c3, A4, c4, A, c, rfl, l2, hg, l3, Kd.C_below G3.out HB.out, l4, Kd.C_below G4.out HB.out, hl, hc⟩)
        have HOm := Aside0.mk (more_ok HOk.out HLa.out k (by omega) qq.f0)
        have HK9 := Aside0.mk hk9
        clear hma hz hkn hn hk hk9
        go_wp2_with fail
        refine (write_calls (moreM m k qq.f0) _ _ HMa.out HOm.out).mono ?_
        rintro e w6 ⟨rfl, hb⟩
        have HB6 := Aside0.mk (below_step HB.out hb)
        obtain ⟨S2, hS⟩ : ∃ S, (writeM (moreM m k qq.f0)).1 = S := ⟨_, rfl⟩
        obtain ⟨co2, hco⟩ : ∃ co, (writeM (moreM m k qq.f0)).2 = co := ⟨_, rfl⟩
        rw [hS, hco]
        have HS2 := Aside0.mk (And.intro hS hco)
        clear hb hS hco q0 q1 q2 q3 q4 q5 q6 q7 q8 q9 q10 q11 q12
        by_cases k1 : co = 0
        · by_cases k2 : co2 = 0
          · have hp := spares_pure HQ.out.1 HQ.out.2 H2q.out (Prod.ext_iff.2 ⟨HS.out.1, HS.out.2.trans k1⟩) (Prod.ext_iff.2 ⟨HS2.out.1, HS2.out.2.trans k2⟩)
            rw [HK9.out] at hp
            have s1 : S.size ≤ 65535 := hp.2
            have HP := Aside0.mk (show ((S2.size : Int) == (S.size : Int) + 16 * ((n : Int) % 9)) = true by rw [beq_iff_eq]; omega)
            have d3 : (co != 0) = false := by rw [k1]; rfl
            have d4 : (co2 != 0) = false := by rw [k2]; rfl
            clear k1 k2 hp
            go_wp2_with fail
            go_ret
            exact ⟨congrArg (fun b => Ending.returned (.bool b)) HP.out, HB6.out⟩
          · have d4 : (co2 != 0) = true := by rw [bne_iff_ne]; exact k2
            have d3 : (co != 0) = false := by rw [k1]; rfl
            clear k1 k2
            go_wp2_with fail
            go_ret
            exact ⟨rfl, HB6.out⟩
        · have d3 : (co != 0) = true := by rw [bne_iff_ne]; exact k1
          clear k1
          go_wp2_with fail
          go_ret
          exact ⟨rfl, HB6.out⟩
/-- The same, as the row asks for it. -/
theorem spares_row (W : World) (v : Value) (m : Msg) (hv : MsgAt W v m) (hin : MsgIn m) (n : Int) (hn : (Lit.int .u8 n).wf = true) :
    Calls Try.prog 5 #[v, .int .u8 n] W fun e w' => e = .returned (.bool true) ∧ Below W.heap.size W w' := by
  have h := wf_u8 hn
  obtain ⟨k, rfl⟩ : ∃ k : Nat, n = k := ⟨n.toNat, by omega⟩
  exact spares_calls m k v W hv hin (by omega)
end Go.Proofs.Ytbbeikdbioelgaa.M
