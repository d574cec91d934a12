/- Walks of the laws' own bounds: nunciolaw04.Few, nunciolaw05.Few, nunciolaw07.Few. -/
import Derived.Test.YtbbeikdbioelgaaMRaw
set_option linter.unusedVariables false
set_option linter.unusedSimpArgs false
namespace Go.Proofs.Ytbbeikdbioelgaa.M
open Go.RowKit Go.Maps Go.Proofs.YtbbeikdbioelgaaW.PrintWords Go.Proofs.YtbbeikdbioelgaaW.PrintLast Go.Proofs.YtbbeikdbioelgaaW.PrintMore
attribute [local go_sem] max2_int min2_int max_two min_two max_three min_three max_four min_four
attribute [local go_sem ↓] Go.wp_at_zero Go.wp_at_succ

/-- A bool is returned; P holds where it is true. -/
def SomeB (P : Prop) (F : World → Prop) (e : Ending) (w' : World) : Prop := ∃ b : Bool, e = .returned (.bool b) ∧ (b = true → P) ∧ F w'
def capS (l : List ByteArray) : Nat := (l.map fun s => min s.size 5000).sum
theorem capS_cons (s : ByteArray) (l : List ByteArray) : capS (s :: l) = min s.size 5000 + capS l := by simp [capS]
theorem capS_sum (l : List ByteArray) (h : capS l < 5000) : sumS l = capS l := by
  induction l with
  | nil => rfl
  | cons s l ih =>
    rw [capS_cons] at h ⊢
    rw [sumS_cons, ih (by omega)]
    omega
theorem size_le_sumS (l : List ByteArray) : ∀ j, j < l.length → (l.getD j ⟨#[]⟩).size ≤ sumS l := by
  induction l with
  | nil => intro j h; exact absurd h (by simp)
  | cons s l ih =>
    intro j h
    rw [sumS_cons]
    cases j with
    | zero => simp
    | succ j =>
      have := ih j (by simpa using h)
      simp only [List.getD_cons_succ]
      omega
set_option maxHeartbeats 2000000 in
set_option maxRecDepth 100000 in
theorem few4_calls (A : Option Addr) (c : Nat) (l : List ByteArray) (w : World) (hr : Kd.string.C w A l.length l) (hm : ∀ j, j < l.length → (l.getD j ⟨#[]⟩).size ≤ 140737488351232) :
    Calls Try.prog 55 #[.slice A l.length c] w fun e w' => SomeB (l.length < 5000 ∧ sumS l < 5000) (fun w' => w = w') e w' := by
  have HC := Aside0.mk hr
  have HM := Lib.hid hm
  have hM := hr.2.1
  clear hr hm
  obtain ⟨n0, hn0⟩ : ∃ n : Nat, min l.length 5000 = n := ⟨_, rfl⟩
  have hmin : (if (5000 : Int) < (l.length : Int) then 5000 else (l.length : Int)) = (n0 : Int) := by split <;> omega
  have HN0 := Aside0.mk (show min l.length 5000 = n0 from hn0)
  have hn1 : n0 ≤ 5000 := by omega
  clear hn0
  go_enter Try.func55, Try.ntmps55
  go_wp2
  go_loop [3, 4] (fun v t => ∃ (k n : Nat), t = .int .i64 k ∧ v = .int .i64 n ∧ Aside0 (k ≤ l.length) ∧ Aside0 (n ≤ 10000) ∧ Aside0 (n + capS (l.drop k) = n0 + capS l)) (fun _ t => l.length - (intOf t).toNat)
  case atStart => exact ⟨0, n0, rfl, by simp, ⟨Nat.zero_le _⟩, ⟨by omega⟩, ⟨rfl⟩⟩
  case round =>
    obtain ⟨k, n, rfl, rfl, HK, HN, HE⟩ := hrel
    by_cases hk : k < l.length
    · by_cases hn : n < 5000
      · obtain ⟨ad, rfl, hcell⟩ := at_str HC.out k hk
        have he := HE.out
        rw [drop_get ⟨#[]⟩ l k hk, capS_cons] at he
        obtain ⟨s, hs⟩ : ∃ s, l.getD k ⟨#[]⟩ = s := ⟨_, rfl⟩
        rw [hs] at hcell he
        obtain ⟨u, hu⟩ : ∃ u : Nat, min s.size 5000 = u := ⟨_, rfl⟩
        have hmu : (if (5000 : Int) < (s.size : Int) then 5000 else (s.size : Int)) = (u : Int) := by split <;> omega
        rw [hu] at he
        have hul : u ≤ 5000 := by omega
        have HE1 := Aside0.mk (show (n + u) + capS (l.drop (k + 1)) = n0 + capS l by omega)
        have d1 : decide ((k : Int) < (l.length : Int)) = true := decide_eq_true (by omega)
        have d1' : decide (k < l.length) = true := decide_eq_true hk
        have d2 : decide ((n : Int) < 5000) = true := decide_eq_true (by omega)
        have d2' : decide (n < 5000) = true := decide_eq_true hn
        have p1 : (0 : Int) ≤ (k : Int) := by omega
        have p2 : (k : Int) < (l.length : Int) := by omega
        have p3 : (n : Int) + (u : Int) ≤ 10000 := by omega
        clear he hs hu HE hn
        go_wp2
        go_round
        case rel => exact ⟨k + 1, n + u, by go_num, by go_num, ⟨hk⟩, ⟨by omega⟩, HE1⟩
        case measure => simp [intOf]; omega
      · have d1 : decide ((k : Int) < (l.length : Int)) = true := decide_eq_true (by omega)
        have d1' : decide (k < l.length) = true := decide_eq_true hk
        have d2 : decide ((n : Int) < 5000) = false := decide_eq_false (by omega)
        have d2' : decide (n < 5000) = false := decide_eq_false hn
        clear hn
        go_wp2
        go_ret
        exact ⟨false, rfl, fun h => absurd h (by decide), rfl⟩
    · have hk' : k = l.length := by have := HK.out; omega
      have d1 : decide ((k : Int) < (l.length : Int)) = false := decide_eq_false (by omega)
      have d1' : decide (k < l.length) = false := decide_eq_false hk
      have he := HE.out
      rw [hk', List.drop_length] at he
      have HE1 := Aside0.mk he
      clear he hk'
      by_cases hn : n < 5000
      · have d2 : decide ((n : Int) < 5000) = true := decide_eq_true (by omega)
        have d2' : decide (n < 5000) = true := decide_eq_true hn
        have HT := Lib.hid (show l.length < 5000 ∧ sumS l < 5000 by
          have h1 := HE1.out
          have h2 := HN0.out
          have h3 : capS [] = 0 := rfl
          have h4 : capS l < 5000 := by omega
          rw [capS_sum l h4]
          omega)
        clear hn
        go_wp2
        go_ret
        exact ⟨true, rfl, fun _ => HT.out, rfl⟩
      · have d2 : decide ((n : Int) < 5000) = false := decide_eq_false (by omega)
        have d2' : decide (n < 5000) = false := decide_eq_false hn
        clear hn
        go_wp2
        go_ret
        exact ⟨false, rfl, fun h => absurd h (by decide), rfl⟩
/-- A record that is small. -/
structure Few5 (r : Rec) : Prop where
  names : r.f4.length < 5000 ∧ sumS r.f4 < 5000
  texts : r.f6.length < 5000 ∧ sumS r.f6 < 5000
  nums : r.f5.length ≤ 5000
  name : r.f0.size ≤ 5000
/-- Texts of a record are none longer than may be. -/
def Sized (r : Rec) : Prop := (∀ j, j < r.f4.length → (r.f4.getD j ⟨#[]⟩).size ≤ 140737488351232) ∧ ∀ j, j < r.f6.length → (r.f6.getD j ⟨#[]⟩).size ≤ 140737488351232
set_option maxHeartbeats 2000000 in
set_option maxRecDepth 100000 in
theorem few5_calls (r : Rec) (v : Value) (w : World) (hv : RecAt w v r) (hs : Sized r) :
    Calls Try.prog 30 #[v] w fun e w' => SomeB (Few5 r) (fun w' => Below w.heap.size w w') e w' := by
  obtain ⟨A4, c4, A5, c5, A6, c6, rfl, l4, g4, l5, g5, l6, g6⟩ := hv
  have G4 := Aside0.mk g4
  have G6 := Aside0.mk g6
  have HS := Aside0.mk hs
  have m4 := g4.2.1
  have m5 := g5.2.1
  have m6 := g6.2.1
  clear g4 g5 g6 hs
  by_cases k5 : r.f5.length ≤ 5000
  · by_cases k0 : r.f0.size ≤ 5000
    · have d5 : decide ((r.f5.length : Int) ≤ 5000) = true := decide_eq_true (by omega)
      have d5' : decide (r.f5.length ≤ 5000) = true := decide_eq_true k5
      have d0 : decide ((r.f0.size : Int) ≤ 5000) = true := decide_eq_true (by omega)
      have d0' : decide (r.f0.size ≤ 5000) = true := decide_eq_true k0
      have K := Aside0.mk (And.intro k5 k0)
      clear k5 k0
      go_enter Try.func30, Try.ntmps30
      go_wp2_with (((with_reducible refine gate_dst (N := 1) rfl ?_); refine box_event rfl (N := 1) rfl (cs := #[.string r.f0, .int .u16 r.f1, .int .u16 r.f2, .int .u32 r.f3, .slice A4 r.f4.length c4, .slice A5 r.f5.length c5, .slice A6 r.f6.length c6]) (t := 44) (by first | (go_simp; done) | (go_simp; rfl)) ?_; intro g hg w1 hbox hb); have HX := Aside0.mk hbox; have HB := Aside0.mk hb; have HGe := Aside0.mk hg; clear hb hg; have z0 : w1.cell? ⟨g, 0, none⟩ = some (.string r.f0) := (blk_cell HX.out 0).trans rfl; clear hbox; have z1 : w1.cell? ⟨g, 1, none⟩ = some (.int .u16 r.f1) := (blk_cell HX.out 1).trans rfl; have z2 : w1.cell? ⟨g, 2, none⟩ = some (.int .u16 r.f2) := (blk_cell HX.out 2).trans rfl; have z3 : w1.cell? ⟨g, 3, none⟩ = some (.int .u32 r.f3) := (blk_cell HX.out 3).trans rfl; have z4 : w1.cell? ⟨g, 4, none⟩ = some (.slice A4 r.f4.length c4) := (blk_cell HX.out 4).trans rfl; have z5 : w1.cell? ⟨g, 5, none⟩ = some (.slice A5 r.f5.length c5) := (blk_cell HX.out 5).trans rfl; have z6 : w1.cell? ⟨g, 6, none⟩ = some (.slice A6 r.f6.length c6) := (blk_cell HX.out 6).trans rfl)
      refine (few4_calls A4 c4 r.f4 _ (Kd.C_below G4.out HB.out) HS.out.1).mono ?_
      rintro e w2 ⟨b1, rfl, h1, rfl⟩
      have H1 := Lib.hid h1
      clear h1
      cases b1 with
      | false =>
        go_wp2_with fail
        go_ret
        exact ⟨false, rfl, fun h => absurd h (by decide), HB.out⟩
      | true =>
        go_wp2_with fail
        refine (few4_calls A6 c6 r.f6 _ (Kd.C_below G6.out HB.out) HS.out.2).mono ?_
        rintro e w2 ⟨b2, rfl, h2, rfl⟩
        have H2 := Lib.hid h2
        clear h2
        cases b2 with
        | false =>
          go_wp2_with fail
          go_ret
          exact ⟨false, rfl, fun h => absurd h (by decide), HB.out⟩
        | true =>
          go_wp2_with fail
          go_ret
          exact ⟨true, rfl, (fun _ => ⟨H1.out (by simp), H2.out (by simp), K.out.1, K.out.2⟩), HB.out⟩
    · have d5 : decide ((r.f5.length : Int) ≤ 5000) = true := decide_eq_true (by omega)
      have d5' : decide (r.f5.length ≤ 5000) = true := decide_eq_true k5
      have d0 : decide ((r.f0.size : Int) ≤ 5000) = false := decide_eq_false (by omega)
      have d0' : decide (r.f0.size ≤ 5000) = false := decide_eq_false k0
      clear k5 k0
      go_enter Try.func30, Try.ntmps30
      go_wp2_with (((with_reducible refine gate_dst (N := 1) rfl ?_); refine box_event rfl (N := 1) rfl (cs := #[.string r.f0, .int .u16 r.f1, .int .u16 r.f2, .int .u32 r.f3, .slice A4 r.f4.length c4, .slice A5 r.f5.length c5, .slice A6 r.f6.length c6]) (t := 44) (by first | (go_simp; done) | (go_simp; rfl)) ?_; intro g hg w1 hbox hb); have HX := Aside0.mk hbox; have HB := Aside0.mk hb; have HGe := Aside0.mk hg; clear hb hg; have z0 : w1.cell? ⟨g, 0, none⟩ = some (.string r.f0) := (blk_cell HX.out 0).trans rfl; clear hbox; have z1 : w1.cell? ⟨g, 1, none⟩ = some (.int .u16 r.f1) := (blk_cell HX.out 1).trans rfl; have z2 : w1.cell? ⟨g, 2, none⟩ = some (.int .u16 r.f2) := (blk_cell HX.out 2).trans rfl; have z3 : w1.cell? ⟨g, 3, none⟩ = some (.int .u32 r.f3) := (blk_cell HX.out 3).trans rfl; have z4 : w1.cell? ⟨g, 4, none⟩ = some (.slice A4 r.f4.length c4) := (blk_cell HX.out 4).trans rfl; have z5 : w1.cell? ⟨g, 5, none⟩ = some (.slice A5 r.f5.length c5) := (blk_cell HX.out 5).trans rfl; have z6 : w1.cell? ⟨g, 6, none⟩ = some (.slice A6 r.f6.length c6) := (blk_cell HX.out 6).trans rfl)
      refine (few4_calls A4 c4 r.f4 _ (Kd.C_below G4.out HB.out) HS.out.1).mono ?_
      rintro e w2 ⟨b1, rfl, h1, rfl⟩
      have H1 := Lib.hid h1
      clear h1
      cases b1 with
      | false =>
        go_wp2_with fail
        go_ret
        exact ⟨false, rfl, fun h => absurd h (by decide), HB.out⟩
      | true =>
        go_wp2_with fail
        refine (few4_calls A6 c6 r.f6 _ (Kd.C_below G6.out HB.out) HS.out.2).mono ?_
        rintro e w2 ⟨b2, rfl, h2, rfl⟩
        have H2 := Lib.hid h2
        clear h2
        cases b2 with
        | false =>
          go_wp2_with fail
          go_ret
          exact ⟨false, rfl, fun h => absurd h (by decide), HB.out⟩
        | true =>
          go_wp2_with fail
          go_ret
          exact ⟨false, rfl, (fun h => absurd h (by decide)), HB.out⟩
  · have d5 : decide ((r.f5.length : Int) ≤ 5000) = false := decide_eq_false (by omega)
    have d5' : decide (r.f5.length ≤ 5000) = false := decide_eq_false k5
    clear k5
    go_enter Try.func30, Try.ntmps30
    go_wp2_with (((with_reducible refine gate_dst (N := 1) rfl ?_); refine box_event rfl (N := 1) rfl (cs := #[.string r.f0, .int .u16 r.f1, .int .u16 r.f2, .int .u32 r.f3, .slice A4 r.f4.length c4, .slice A5 r.f5.length c5, .slice A6 r.f6.length c6]) (t := 44) (by first | (go_simp; done) | (go_simp; rfl)) ?_; intro g hg w1 hbox hb); have HX := Aside0.mk hbox; have HB := Aside0.mk hb; have HGe := Aside0.mk hg; clear hb hg; have z0 : w1.cell? ⟨g, 0, none⟩ = some (.string r.f0) := (blk_cell HX.out 0).trans rfl; clear hbox; have z1 : w1.cell? ⟨g, 1, none⟩ = some (.int .u16 r.f1) := (blk_cell HX.out 1).trans rfl; have z2 : w1.cell? ⟨g, 2, none⟩ = some (.int .u16 r.f2) := (blk_cell HX.out 2).trans rfl; have z3 : w1.cell? ⟨g, 3, none⟩ = some (.int .u32 r.f3) := (blk_cell HX.out 3).trans rfl; have z4 : w1.cell? ⟨g, 4, none⟩ = some (.slice A4 r.f4.length c4) := (blk_cell HX.out 4).trans rfl; have z5 : w1.cell? ⟨g, 5, none⟩ = some (.slice A5 r.f5.length c5) := (blk_cell HX.out 5).trans rfl; have z6 : w1.cell? ⟨g, 6, none⟩ = some (.slice A6 r.f6.length c6) := (blk_cell HX.out 6).trans rfl)
    refine (few4_calls A4 c4 r.f4 _ (Kd.C_below G4.out HB.out) HS.out.1).mono ?_
    rintro e w2 ⟨b1, rfl, h1, rfl⟩
    have H1 := Lib.hid h1
    clear h1
    cases b1 with
    | false =>
      go_wp2_with fail
      go_ret
      exact ⟨false, rfl, fun h => absurd h (by decide), HB.out⟩
    | true =>
      go_wp2_with fail
      refine (few4_calls A6 c6 r.f6 _ (Kd.C_below G6.out HB.out) HS.out.2).mono ?_
      rintro e w2 ⟨b2, rfl, h2, rfl⟩
      have H2 := Lib.hid h2
      clear h2
      cases b2 with
      | false =>
        go_wp2_with fail
        go_ret
        exact ⟨false, rfl, fun h => absurd h (by decide), HB.out⟩
      | true =>
        go_wp2_with fail
        go_ret
        exact ⟨false, rfl, (fun h => absurd h (by decide)), HB.out⟩

/-- A message that is small enough to go through it. -/
structure Few7 (m : Msg) : Prop where
  nq : m.qs.length ≤ 300
  n1 : m.ans.length ≤ 300
  n2 : m.auth.length ≤ 300
  n3 : m.add.length ≤ 300
  recs : ∀ r, r ∈ m.ans ++ m.auth ++ m.add → Few5 r
/-- Texts of a message are none longer than may be. -/
structure SizedM (m : Msg) : Prop where
  qs : ∀ q, q ∈ m.qs → q.f0.size ≤ 140737488351232
  recs : ∀ r, r ∈ m.ans ++ m.auth ++ m.add → Sized r
set_option maxHeartbeats 8000000 in
set_option maxRecDepth 100000 in
theorem few7_calls (m : Msg) (v : Value) (w : World) (hv : MsgAt w v m) (hs : SizedM m) :
    Calls Try.prog 14 #[v] w fun e w' => SomeB (Few7 m) (fun w' => Below w.heap.size w w') e w' := by
  have HV := Aside0.mk hv
  obtain ⟨A2, c2, A3, c3, A4, c4, A5, c5, rfl, l2, g2, l3, g3, l4, g4, l5, g5⟩ := hv
  have G2 := Aside0.mk g2
  have HS := Aside0.mk hs
  clear g2 g3 g4 g5 hs
  by_cases k2 : m.qs.length ≤ 300
  case neg =>
    have d2 : decide ((300 : Int) < (m.qs.length : Int)) = true := decide_eq_true (by omega)
    have d2' : decide (300 < m.qs.length) = true := decide_eq_true (by omega)
    clear k2
    go_enter Try.func14, Try.ntmps14
    go_wp2_with (((with_reducible refine gate_dst (N := 1) rfl ?_); refine box_event rfl (N := 1) rfl (cs := #[.int .u16 m.id, .int .u16 m.flags, .slice A2 m.qs.length c2, .slice A3 m.ans.length c3, .slice A4 m.auth.length c4, .slice A5 m.add.length c5]) (t := 26) (by first | (go_simp; done) | (go_simp; rfl)) ?_; intro g hg w1 hbox hb); have HX := Aside0.mk hbox; have HB := Aside0.mk hb; have HGe := Aside0.mk hg; clear hb hg; have z0 : w1.cell? ⟨g, 0, none⟩ = some (.int .u16 m.id) := (blk_cell HX.out 0).trans rfl; have z1 : w1.cell? ⟨g, 1, none⟩ = some (.int .u16 m.flags) := (blk_cell HX.out 1).trans rfl; have z2 : w1.cell? ⟨g, 2, none⟩ = some (.slice A2 m.qs.length c2) := (blk_cell HX.out 2).trans rfl; have z3 : w1.cell? ⟨g, 3, none⟩ = some (.slice A3 m.ans.length c3) := (blk_cell HX.out 3).trans rfl; have z4 : w1.cell? ⟨g, 4, none⟩ = some (.slice A4 m.auth.length c4) := (blk_cell HX.out 4).trans rfl; have z5 : w1.cell? ⟨g, 5, none⟩ = some (.slice A5 m.add.length c5) := (blk_cell HX.out 5).trans rfl; have hlt : g < w1.heap.size := blk_lt hbox; have hlne : ¬ g = w1.heap.size := Nat.ne_of_lt hlt; clear hbox)
    go_ret
    exact ⟨false, rfl, fun h => absurd h (by decide), HB.out⟩
  have d2 : decide ((300 : Int) < (m.qs.length : Int)) = false := decide_eq_false (by omega)
  have d2' : decide (300 < m.qs.length) = false := decide_eq_false (by omega)
  by_cases k3 : m.ans.length ≤ 300
  case neg =>
    have d3 : decide ((300 : Int) < (m.ans.length : Int)) = true := decide_eq_true (by omega)
    have d3' : decide (300 < m.ans.length) = true := decide_eq_true (by omega)
    clear k3
    go_enter Try.func14, Try.ntmps14
    go_wp2_with (((with_reducible refine gate_dst (N := 1) rfl ?_); refine box_event rfl (N := 1) rfl (cs := #[.int .u16 m.id, .int .u16 m.flags, .slice A2 m.qs.length c2, .slice A3 m.ans.length c3, .slice A4 m.auth.length c4, .slice A5 m.add.length c5]) (t := 26) (by first | (go_simp; done) | (go_simp; rfl)) ?_; intro g hg w1 hbox hb); have HX := Aside0.mk hbox; have HB := Aside0.mk hb; have HGe := Aside0.mk hg; clear hb hg; have z0 : w1.cell? ⟨g, 0, none⟩ = some (.int .u16 m.id) := (blk_cell HX.out 0).trans rfl; have z1 : w1.cell? ⟨g, 1, none⟩ = some (.int .u16 m.flags) := (blk_cell HX.out 1).trans rfl; have z2 : w1.cell? ⟨g, 2, none⟩ = some (.slice A2 m.qs.length c2) := (blk_cell HX.out 2).trans rfl; have z3 : w1.cell? ⟨g, 3, none⟩ = some (.slice A3 m.ans.length c3) := (blk_cell HX.out 3).trans rfl; have z4 : w1.cell? ⟨g, 4, none⟩ = some (.slice A4 m.auth.length c4) := (blk_cell HX.out 4).trans rfl; have z5 : w1.cell? ⟨g, 5, none⟩ = some (.slice A5 m.add.length c5) := (blk_cell HX.out 5).trans rfl; have hlt : g < w1.heap.size := blk_lt hbox; have hlne : ¬ g = w1.heap.size := Nat.ne_of_lt hlt; clear hbox)
    go_ret
    exact ⟨false, rfl, fun h => absurd h (by decide), HB.out⟩
  have d3 : decide ((300 : Int) < (m.ans.length : Int)) = false := decide_eq_false (by omega)
  have d3' : decide (300 < m.ans.length) = false := decide_eq_false (by omega)
  by_cases k4 : m.auth.length ≤ 300
  case neg =>
    have d4 : decide ((300 : Int) < (m.auth.length : Int)) = true := decide_eq_true (by omega)
    have d4' : decide (300 < m.auth.length) = true := decide_eq_true (by omega)
    clear k4
    go_enter Try.func14, Try.ntmps14
    go_wp2_with (((with_reducible refine gate_dst (N := 1) rfl ?_); refine box_event rfl (N := 1) rfl (cs := #[.int .u16 m.id, .int .u16 m.flags, .slice A2 m.qs.length c2, .slice A3 m.ans.length c3, .slice A4 m.auth.length c4, .slice A5 m.add.length c5]) (t := 26) (by first | (go_simp; done) | (go_simp; rfl)) ?_; intro g hg w1 hbox hb); have HX := Aside0.mk hbox; have HB := Aside0.mk hb; have HGe := Aside0.mk hg; clear hb hg; have z0 : w1.cell? ⟨g, 0, none⟩ = some (.int .u16 m.id) := (blk_cell HX.out 0).trans rfl; have z1 : w1.cell? ⟨g, 1, none⟩ = some (.int .u16 m.flags) := (blk_cell HX.out 1).trans rfl; have z2 : w1.cell? ⟨g, 2, none⟩ = some (.slice A2 m.qs.length c2) := (blk_cell HX.out 2).trans rfl; have z3 : w1.cell? ⟨g, 3, none⟩ = some (.slice A3 m.ans.length c3) := (blk_cell HX.out 3).trans rfl; have z4 : w1.cell? ⟨g, 4, none⟩ = some (.slice A4 m.auth.length c4) := (blk_cell HX.out 4).trans rfl; have z5 : w1.cell? ⟨g, 5, none⟩ = some (.slice A5 m.add.length c5) := (blk_cell HX.out 5).trans rfl; have hlt : g < w1.heap.size := blk_lt hbox; have hlne : ¬ g = w1.heap.size := Nat.ne_of_lt hlt; clear hbox)
    go_ret
    exact ⟨false, rfl, fun h => absurd h (by decide), HB.out⟩
  have d4 : decide ((300 : Int) < (m.auth.length : Int)) = false := decide_eq_false (by omega)
  have d4' : decide (300 < m.auth.length) = false := decide_eq_false (by omega)
  by_cases k5 : m.add.length ≤ 300
  case neg =>
    have d5 : decide ((300 : Int) < (m.add.length : Int)) = true := decide_eq_true (by omega)
    have d5' : decide (300 < m.add.length) = true := decide_eq_true (by omega)
    clear k5
    go_enter Try.func14, Try.ntmps14
    go_wp2_with (((with_reducible refine gate_dst (N := 1) rfl ?_); refine box_event rfl (N := 1) rfl (cs := #[.int .u16 m.id, .int .u16 m.flags, .slice A2 m.qs.length c2, .slice A3 m.ans.length c3, .slice A4 m.auth.length c4, .slice A5 m.add.length c5]) (t := 26) (by first | (go_simp; done) | (go_simp; rfl)) ?_; intro g hg w1 hbox hb); have HX := Aside0.mk hbox; have HB := Aside0.mk hb; have HGe := Aside0.mk hg; clear hb hg; have z0 : w1.cell? ⟨g, 0, none⟩ = some (.int .u16 m.id) := (blk_cell HX.out 0).trans rfl; have z1 : w1.cell? ⟨g, 1, none⟩ = some (.int .u16 m.flags) := (blk_cell HX.out 1).trans rfl; have z2 : w1.cell? ⟨g, 2, none⟩ = some (.slice A2 m.qs.length c2) := (blk_cell HX.out 2).trans rfl; have z3 : w1.cell? ⟨g, 3, none⟩ = some (.slice A3 m.ans.length c3) := (blk_cell HX.out 3).trans rfl; have z4 : w1.cell? ⟨g, 4, none⟩ = some (.slice A4 m.auth.length c4) := (blk_cell HX.out 4).trans rfl; have z5 : w1.cell? ⟨g, 5, none⟩ = some (.slice A5 m.add.length c5) := (blk_cell HX.out 5).trans rfl; have hlt : g < w1.heap.size := blk_lt hbox; have hlne : ¬ g = w1.heap.size := Nat.ne_of_lt hlt; clear hbox)
    go_ret
    exact ⟨false, rfl, fun h => absurd h (by decide), HB.out⟩
  have d5 : decide ((300 : Int) < (m.add.length : Int)) = false := decide_eq_false (by omega)
  have d5' : decide (300 < m.add.length) = false := decide_eq_false (by omega)
  have HK := Aside0.mk (And.intro k2 (And.intro k3 (And.intro k4 k5)))
  clear k2 k3 k4 k5
  go_enter Try.func14, Try.ntmps14
  go_wp2_with (((with_reducible refine gate_dst (N := 1) rfl ?_); refine box_event rfl (N := 1) rfl (cs := #[.int .u16 m.id, .int .u16 m.flags, .slice A2 m.qs.length c2, .slice A3 m.ans.length c3, .slice A4 m.auth.length c4, .slice A5 m.add.length c5]) (t := 26) (by first | (go_simp; done) | (go_simp; rfl)) ?_; intro g hg w1 hbox hb); have HX := Aside0.mk hbox; have HB := Aside0.mk hb; have HGe := Aside0.mk hg; clear hb hg; have z0 : w1.cell? ⟨g, 0, none⟩ = some (.int .u16 m.id) := (blk_cell HX.out 0).trans rfl; have z1 : w1.cell? ⟨g, 1, none⟩ = some (.int .u16 m.flags) := (blk_cell HX.out 1).trans rfl; have z2 : w1.cell? ⟨g, 2, none⟩ = some (.slice A2 m.qs.length c2) := (blk_cell HX.out 2).trans rfl; have z3 : w1.cell? ⟨g, 3, none⟩ = some (.slice A3 m.ans.length c3) := (blk_cell HX.out 3).trans rfl; have z4 : w1.cell? ⟨g, 4, none⟩ = some (.slice A4 m.auth.length c4) := (blk_cell HX.out 4).trans rfl; have z5 : w1.cell? ⟨g, 5, none⟩ = some (.slice A5 m.add.length c5) := (blk_cell HX.out 5).trans rfl; have hlt : g < w1.heap.size := blk_lt hbox; have hlne : ¬ g = w1.heap.size := Nat.ne_of_lt hlt; clear hbox)
  have HG := Aside0.mk (show w1.heap[g]? = w1.heap[g]? from rfl)
  go_loop [3, 4] (fun v t => ∃ (k n : Nat), t = .int .i64 k ∧ v = .int .i64 n ∧ Aside0 (k ≤ m.qs.length) ∧ Aside0 (n ≤ 70000)) (fun _ t => m.qs.length - (intOf t).toNat)
  case atStart => exact ⟨0, 0, rfl, rfl, ⟨Nat.zero_le _⟩, ⟨by decide⟩⟩
  case round =>
    obtain ⟨k, n, rfl, rfl, HKk, HN⟩ := hrel
    have hn := HN.out
    have hkk := HK.out.1
    by_cases hk : k < m.qs.length
    · obtain ⟨ad, qq, hA, hqq, e0, e1, e2⟩ := at_ques (Kd.C_below G2.out HB.out) k hk
      subst hA
      have p1 : (0 : Int) ≤ (k : Int) := by omega
      have p2 : (k : Int) < (m.qs.length : Int) := by omega
      obtain ⟨u, hu⟩ : ∃ u : Nat, min qq.f0.size 60000 = u := ⟨_, rfl⟩
      have hmu : (if (60000 : Int) < (qq.f0.size : Int) then 60000 else (qq.f0.size : Int)) = (u : Int) := by split <;> omega
      have hul : u ≤ 60000 := by omega
      have p3 : (n : Int) + (u : Int) ≤ 130000 := by omega
      clear hu hqq
      by_cases hbig : 70000 < n + u
      · have d6 : decide ((70000 : Int) < (n : Int) + (u : Int)) = true := decide_eq_true (by omega)
        clear hbig
        go_wp2
        go_ret
        exact ⟨false, rfl, fun h => absurd h (by decide), HB.out⟩
      · have d6 : decide ((70000 : Int) < (n : Int) + (u : Int)) = false := decide_eq_false (by omega)
        have hn' : n + u ≤ 70000 := by omega
        clear hbig
        go_wp2
        go_round
        case rel => exact ⟨k + 1, n + u, by go_num, by go_num, ⟨hk⟩, ⟨hn'⟩⟩
        case measure => simp [intOf]; omega
    · go_wp2_with fail
      refine (Records_calls m _ _ (HV.out.below HB.out) (by have := HK.out; omega) (by have := HK.out; omega) (by have := HK.out; omega)).mono ?_
      rintro e w2 ⟨A, c, rfl, hlc, hrc, hb⟩
      have HRc := Aside0.mk hrc
      have HB2 := Aside0.mk (below_step HB.out hb)
      have hln : (m.ans ++ m.auth ++ m.add).length ≤ 900 := by have := HK.out; simp; omega
      obtain ⟨L, hL⟩ : ∃ L, m.ans ++ m.auth ++ m.add = L := ⟨_, rfl⟩
      rw [hL] at hlc HRc hln ⊢
      have HL := Aside0.mk hL
      have HN2 := Aside0.mk (show n ≤ 70000 from hn)
      clear hrc hb z0 z1 z2 z3 z4 z5 hL hn hkk HN HKk HB hk
      go_wp2_with fail
      go_loopw [3, 6] (fun v t wr => ∃ (i n : Nat), t = .int .i64 i ∧ v = .int .i64 n ∧ Aside0 (i ≤ L.length) ∧ Aside0 (n ≤ 70000) ∧ Aside0 (∀ j, j < i → Few5 (L.getD j zRec)) ∧ Aside0 (Below w.heap.size w wr) ∧ Aside0 (Below w2.heap.size w2 wr)) (fun _ t _ => L.length - (intOf t).toNat)
      case atStart => exact ⟨0, n, rfl, rfl, ⟨Nat.zero_le _⟩, HN2, ⟨fun j h => absurd h (by omega)⟩, HB2, ⟨Below.refl _ _⟩⟩
      case round =>
        clear HN2 HB2
        obtain ⟨i, n, rfl, rfl, HI, HN, HF, HB, HBo⟩ := hrel
        have hn := HN.out
        by_cases hi : i < L.length
        · obtain ⟨ad, A4', c4', A5', c5', A6, c6, r, hA, hr, e0, e1, e2, e3, e4, e5, e6, hrec⟩ := at_rec (Kd.C_below HRc.out HBo.out) i hi
          subst hA
          have p1 : (0 : Int) ≤ (i : Int) := by omega
          have p2 : (i : Int) < (L.length : Int) := by omega
          have HSz := Aside0.mk (show Sized r by rw [← hr]; exact HS.out.recs _ (by rw [HL.out]; exact getD_mem zRec hi))
          have HRec := Aside0.mk hrec
          have HR := Aside0.mk hr
          clear hrec hr
          go_wp2_with fail
          refine (few5_calls r _ _ HRec.out HSz.out).mono ?_
          rintro e w6 ⟨b, rfl, h5, hb6⟩
          have H5 := Lib.hid h5
          have HB6 := Aside0.mk (below_step HB.out hb6)
          have HBo6 := Aside0.mk (below_step HBo.out hb6)
          clear h5 hb6 e0 e1 e2 e3 e4 e5 e6 HRec
          cases b with
          | false =>
            go_wp2_with fail
            go_ret
            exact ⟨false, rfl, fun h => absurd h (by decide), HB6.out⟩
          | true =>
            have HFr := Aside0.mk (H5.out rfl)
            obtain ⟨ad', A4', c4', A5', c5', A6', c6', r', hA, hr', e0, e1, e2, e3, e4, e5, e6, hrec⟩ := at_rec (Kd.C_below HRc.out HBo6.out) i hi
            obtain rfl : r = r' := HR.out.symm.trans hr'
            obtain rfl := Option.some.inj hA
            have HRec := Aside0.mk hrec
            obtain ⟨B4, b4, B5, b5, B6, b6, hagg, l4, g4, l5, g5, l6, g6⟩ := hrec
            simp only [Value.agg.injEq, Array.mk.injEq, List.cons.injEq, Value.slice.injEq, true_and, and_true] at hagg
            obtain ⟨⟨rfl, rfl⟩, ⟨rfl, rfl⟩, rfl, rfl⟩ := hagg
            have G4 := Aside0.mk g4
            have G6 := Aside0.mk g6
            have q4 := HFr.out.names
            have q6 := HFr.out.texts
            have q5 := HFr.out.nums
            have q0 := HFr.out.name
            have HQ4 := Aside0.mk q4
            have HQ6 := Aside0.mk q6
            clear hr' g4 g5 g6 H5 q4 q6
            go_wp2_with fail
            have HNa := Aside0.mk (show n ≤ 70000 from hn)
            go_loop [3, 7] (fun v t => ∃ (j n : Nat), t = .int .i64 j ∧ v = .int .i64 n ∧ Aside0 (j ≤ r.f4.length) ∧ Aside0 (n ≤ 70000 + j * 5000)) (fun _ t => r.f4.length - (intOf t).toNat)
            case atStart => exact ⟨0, n, rfl, rfl, ⟨Nat.zero_le _⟩, HNa⟩
            case round =>
              clear HNa hn HN
              obtain ⟨j, n, rfl, rfl, HJ, HN⟩ := hrel
              have hn := HN.out
              have hj' := HJ.out
              by_cases hj : j < r.f4.length
              · obtain ⟨ae, rfl, hcell⟩ := at_str G4.out j hj
                have hz := size_le_sumS r.f4 j hj
                have hq := HQ4.out
                obtain ⟨s, hs⟩ : ∃ s, r.f4.getD j ⟨#[]⟩ = s := ⟨_, rfl⟩
                rw [hs] at hcell hz
                have d1 : decide ((j : Int) < (r.f4.length : Int)) = true := decide_eq_true (by omega)
                have d1' : decide (j < r.f4.length) = true := decide_eq_true hj
                have p3 : (0 : Int) ≤ (j : Int) := by omega
                have p4 : (j : Int) < (r.f4.length : Int) := by omega
                have p6 : (j : Int) + 1 ≤ 9223372036854775807 := by omega
                have p5 : (n : Int) + (s.size : Int) ≤ 9223372036854775807 := by omega
                have HN1 := Aside0.mk (show n + s.size ≤ 70000 + (j + 1) * 5000 by omega)
                clear hz hq hs hn HN hj'
                go_wp2
                go_round
                case rel => exact ⟨j + 1, n + s.size, by go_num, by go_num, ⟨hj⟩, HN1⟩
                case measure => simp [intOf]; omega
              · have d1 : decide ((j : Int) < (r.f4.length : Int)) = false := decide_eq_false (by omega)
                have d1' : decide (j < r.f4.length) = false := decide_eq_false hj
                have hn2 : n ≤ 30000000 := by have := HQ4.out; omega
                clear hn HN hj hj' HJ
                go_wp2_with fail
                have HNb := Aside0.mk (show n ≤ 30000000 from hn2)
                go_loop [3, 8] (fun v t => ∃ (j n : Nat), t = .int .i64 j ∧ v = .int .i64 n ∧ Aside0 (j ≤ r.f6.length) ∧ Aside0 (n ≤ 30000000 + j * 5000)) (fun _ t => r.f6.length - (intOf t).toNat)
                case atStart => exact ⟨0, n, rfl, rfl, ⟨Nat.zero_le _⟩, HNb⟩
                case round =>
                  clear HNb hn2
                  obtain ⟨j, n, rfl, rfl, HJ, HN⟩ := hrel
                  have hn := HN.out
                  have hj' := HJ.out
                  by_cases hj : j < r.f6.length
                  · obtain ⟨ae, rfl, hcell⟩ := at_str G6.out j hj
                    have hz := size_le_sumS r.f6 j hj
                    have hq := HQ6.out
                    obtain ⟨s, hs⟩ : ∃ s, r.f6.getD j ⟨#[]⟩ = s := ⟨_, rfl⟩
                    rw [hs] at hcell hz
                    have d1 : decide ((j : Int) < (r.f6.length : Int)) = true := decide_eq_true (by omega)
                    have d1' : decide (j < r.f6.length) = true := decide_eq_true hj
                    have p3 : (0 : Int) ≤ (j : Int) := by omega
                    have p4 : (j : Int) < (r.f6.length : Int) := by omega
                    have p6 : (j : Int) + 1 ≤ 9223372036854775807 := by omega
                    have p5 : (n : Int) + (s.size : Int) ≤ 9223372036854775807 := by omega
                    have HN1 := Aside0.mk (show n + s.size ≤ 30000000 + (j + 1) * 5000 by omega)
                    clear hz hq hs hn HN hj'
                    go_wp2
                    go_round
                    case rel => exact ⟨j + 1, n + s.size, by go_num, by go_num, ⟨hj⟩, HN1⟩
                    case measure => simp [intOf]; omega
                  · have d1 : decide ((j : Int) < (r.f6.length : Int)) = false := decide_eq_false (by omega)
                    have d1' : decide (j < r.f6.length) = false := decide_eq_false hj
                    have hn2 : n ≤ 60000000 := by have := HQ6.out; omega
                    clear hn HN hj hj' HJ
                    go_wp2_with fail
                    refine start_ (n := 16) (S := fun w' => w'.cell? (ad.add (i * 7)) = some (.string r.f0) ∧ w'.cell? ⟨(ad.add (i * 7)).block, (ad.add (i * 7)).off + 5, none⟩ = some (.slice A5' r.f5.length c5')) (ds := []) (Array.replicate 16 false) (by kernel_rfl) (by kernel_rfl) rfl ⟨e0, e5⟩ (fun hS => ?_)
                    refine dpure 0 (some 106) rfl rfl (by kernel_rfl) (fun _ _ _ h => h) (by rfl) (v := ?_) (a' := ?_) ?_ ?_ ?_
                    rotate_left 2
                    · intro w'; go_simp; with_reducible rfl
                    · simp only [Act.put, List.setIfInBounds_toArray, List.set_cons_zero, List.set_cons_succ]; rfl
                    refine dpure 1 (some 107) rfl rfl (by kernel_rfl) (fun _ _ _ h => h) (by rfl) (v := ?_) (a' := ?_) ?_ ?_ ?_
                    rotate_left 2
                    · intro w'; go_simp; with_reducible rfl
                    · simp only [Act.put, List.setIfInBounds_toArray, List.set_cons_zero, List.set_cons_succ]; rfl
                    refine dpure 2 (some 108) rfl rfl (by kernel_rfl) (fun _ _ _ h => h) (by rfl) (v := ?_) (a' := ?_) ?_ ?_ ?_
                    rotate_left 2
                    · intro w'; go_simp; with_reducible rfl
                    · simp only [Act.put, List.setIfInBounds_toArray, List.set_cons_zero, List.set_cons_succ]; rfl
                    refine dpure 3 (some 109) rfl rfl (by kernel_rfl) (fun _ _ _ h => h) (by rfl) (v := ?_) (a' := ?_) ?_ ?_ ?_
                    rotate_left 2
                    · intro w'; go_simp; with_reducible rfl
                    · simp only [Act.put, List.setIfInBounds_toArray, List.set_cons_zero, List.set_cons_succ]; rfl
                    refine dpure 4 (some 110) rfl rfl (by kernel_rfl) (fun _ _ _ h => h) (by rfl) (v := ?_) (a' := ?_) ?_ ?_ ?_
                    rotate_left 2
                    · intro w'; go_simp; with_reducible rfl
                    · simp only [Act.put, List.setIfInBounds_toArray, List.set_cons_zero, List.set_cons_succ]; rfl
                    refine dtake 5 (some 111) rfl rfl (by kernel_rfl) (fun _ _ _ h => h) (by rfl) hS (v := ?_) (a' := ?_) ?_ ?_ ?_
                    rotate_left 2
                    · rintro w' ⟨s0,s1⟩; go_simp; with_reducible rfl
                    · simp only [Act.put, List.setIfInBounds_toArray, List.set_cons_zero, List.set_cons_succ]; rfl
                    refine dpure 6 (some 112) rfl rfl (by kernel_rfl) (fun _ _ _ h => h) (by rfl) (v := ?_) (a' := ?_) ?_ ?_ ?_
                    rotate_left 2
                    · intro w'; go_simp; with_reducible rfl
                    · simp only [Act.put, List.setIfInBounds_toArray, List.set_cons_zero, List.set_cons_succ]; rfl
                    refine dpure 7 (some 113) rfl rfl (by kernel_rfl) (fun _ _ _ h => h) (by rfl) (v := ?_) (a' := ?_) ?_ ?_ ?_
                    rotate_left 2
                    · intro w'; go_simp; with_reducible rfl
                    · simp only [Act.put, List.setIfInBounds_toArray, List.set_cons_zero, List.set_cons_succ]; rfl
                    refine dpure 8 (some 114) rfl rfl (by kernel_rfl) (fun _ _ _ h => h) (by rfl) (v := ?_) (a' := ?_) ?_ ?_ ?_
                    rotate_left 2
                    · intro w'; go_simp; with_reducible rfl
                    · simp only [Act.put, List.setIfInBounds_toArray, List.set_cons_zero, List.set_cons_succ]; rfl
                    refine dpure 9 (some 115) rfl rfl (by kernel_rfl) (fun _ _ _ h => h) (by rfl) (v := ?_) (a' := ?_) ?_ ?_ ?_
                    rotate_left 2
                    · intro w'; go_simp; with_reducible rfl
                    · simp only [Act.put, List.setIfInBounds_toArray, List.set_cons_zero, List.set_cons_succ]; rfl
                    refine dpure 10 (some 116) rfl rfl (by kernel_rfl) (fun _ _ _ h => h) (by rfl) (v := ?_) (a' := ?_) ?_ ?_ ?_
                    rotate_left 2
                    · intro w'; go_simp; with_reducible rfl
                    · simp only [Act.put, List.setIfInBounds_toArray, List.set_cons_zero, List.set_cons_succ]; rfl
                    refine dpure 11 (some 117) rfl rfl (by kernel_rfl) (fun _ _ _ h => h) (by rfl) (v := ?_) (a' := ?_) ?_ ?_ ?_
                    rotate_left 2
                    · intro w'; go_simp; with_reducible rfl
                    · simp only [Act.put, List.setIfInBounds_toArray, List.set_cons_zero, List.set_cons_succ]; rfl
                    refine dtake 12 (some 118) rfl rfl (by kernel_rfl) (fun _ _ _ h => h) (by rfl) hS (v := ?_) (a' := ?_) ?_ ?_ ?_
                    rotate_left 2
                    · rintro w' ⟨s0,s1⟩; go_simp; with_reducible rfl
                    · simp only [Act.put, List.setIfInBounds_toArray, List.set_cons_zero, List.set_cons_succ]; rfl
                    refine dpure 13 (some 119) rfl rfl (by kernel_rfl) (fun _ _ _ h => h) (by rfl) (v := ?_) (a' := ?_) ?_ ?_ ?_
                    rotate_left 2
                    · intro w'; go_simp; with_reducible rfl
                    · simp only [Act.put, List.setIfInBounds_toArray, List.set_cons_zero, List.set_cons_succ]; rfl
                    refine dpure 14 (some 120) rfl rfl (by kernel_rfl) (fun _ _ _ h => h) (by rfl) (v := ?_) (a' := ?_) ?_ ?_ ?_
                    rotate_left 2
                    · intro w'; go_simp; with_reducible rfl
                    · simp only [Act.put, List.setIfInBounds_toArray, List.set_cons_zero, List.set_cons_succ]; rfl
                    refine dpure 15 (some 3) rfl rfl (by kernel_rfl) (fun _ _ _ h => h) (by rfl) (v := ?_) (a' := ?_) ?_ ?_ ?_
                    rotate_left 2
                    · intro w'; go_simp; with_reducible rfl
                    · simp only [Act.put, List.setIfInBounds_toArray, List.set_cons_zero, List.set_cons_succ]; rfl
                    refine done_ (by kernel_rfl) ?_
                    have HF1 := Aside0.mk (show ∀ j, j < i + 1 → Few5 (L.getD j zRec) by
                      intro j hj
                      rcases Nat.lt_or_ge j i with h | h
                      · exact HF.out j h
                      · obtain rfl : j = i := by omega
                        rw [HR.out]; exact HFr.out)
                    have hk : ∀ n : Int, 0 ≤ n → n < 2 ^ 60 → IntKind.i64.wrap n = n := by
                      intro n h0 h1
                      rw [IntKind.wrap_i64]
                      omega
                    obtain ⟨n3, hn3⟩ : ∃ n3, n + r.f0.size + r.f5.length = n3 := ⟨_, rfl⟩
                    have hw : IntKind.i64.wrap (IntKind.i64.wrap ((n : Int) + (r.f0.size : Int)) + (r.f5.length : Int)) = (n3 : Int) := by
                      rw [hk ((n : Int) + (r.f0.size : Int)) (by omega) (by omega), hk _ (by omega) (by omega)]
                      omega
                    rw [hw]
                    have HBd := Aside0.mk (below_drew HB6.out)
                    have HBod := Aside0.mk (below_drew HBo6.out)
                    clear hw hk hn3 hn2 q5 q0
                    by_cases hbig : 70000 < n3
                    · have d6 : decide ((70000 : Int) < (n3 : Int)) = true := decide_eq_true (by omega)
                      have d6' : decide (70000 < n3) = true := decide_eq_true (by omega)
                      clear hbig
                      go_wp2_with fail
                      go_ret
                      exact ⟨false, rfl, fun h => absurd h (by decide), HBd.out⟩
                    · have d6 : decide ((70000 : Int) < (n3 : Int)) = false := decide_eq_false (by omega)
                      have d6' : decide (70000 < n3) = false := decide_eq_false (by omega)
                      have HN3 := Aside0.mk (show n3 ≤ 70000 by omega)
                      clear hbig
                      go_wp2_with fail
                      go_roundw
                      case rel => exact ⟨i + 1, n3, by go_num, rfl, ⟨hi⟩, HN3, HF1, HBd, HBod⟩
                      case measure => simp [intOf]; omega
        · have hi' : i = L.length := by have := HI.out; omega
          have HT := Aside0.mk (show Few7 m from ⟨HK.out.1, HK.out.2.1, HK.out.2.2.1, HK.out.2.2.2, fun r hr => by
            rw [HL.out] at hr
            obtain ⟨j, hj, rfl⟩ := List.getElem_of_mem hr
            have := HF.out j (by omega)
            rwa [List.getD_eq_getElem?_getD, List.getElem?_eq_getElem hj] at this⟩)
          clear hi'
          go_wp2_with fail
          go_ret
          exact ⟨true, rfl, fun _ => HT.out, HB.out⟩
end Go.Proofs.Ytbbeikdbioelgaa.M
