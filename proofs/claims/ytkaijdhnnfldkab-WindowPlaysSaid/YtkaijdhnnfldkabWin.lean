/- The laws of windows: what they share: rows of acts, the law's first look. -/
import Derived.Test.YtkaijdhnnfldkabBook
set_option linter.unusedVariables false
set_option linter.unusedSimpArgs false
namespace Go.Proofs.Ytkaijdhnnfldkab.Win
open Go.RowKit Go.Maps Go.Proofs.YtkaijdhnnfldkabW.PrintMore Go.Proofs.YtkaijdhnnfldkabW.PrintWords Go.Proofs.Ytkaijdhnnfldkab.Book

/-- An act: its kind, its stream, its number, how many bytes are wanted. -/
structure Act4 where
  k : Int
  id : Int
  n : Int
  want : Int
structure ActOk (x : Act4) : Prop where
  id0 : 0 ≤ x.id
  id1 : x.id < 4294967296
  n0 : 0 ≤ x.n
  n1 : x.n < 4294967296
  wf : (Lit.int .i64 x.want).wf = true
/-- A row of acts that came in. -/
structure Acts (w : World) (A : Option Addr) (l : List Act4) : Prop where
  len : l.length ≤ 9223372036854775807
  ok : ∀ x ∈ l, ActOk x
  cell : ∀ i x, l[i]? = some x → ∃ ad, A = some ad ∧ ad.block < w.heap.size ∧ w.cell? (ad.add (i * 4)) = some (.int .i64 x.k) ∧ w.cell? ⟨(ad.add (i * 4)).block, (ad.add (i * 4)).off + 1, none⟩ = some (.int .u32 x.id) ∧ w.cell? ⟨(ad.add (i * 4)).block, (ad.add (i * 4)).off + 2, none⟩ = some (.int .u32 x.n) ∧ w.cell? ⟨(ad.add (i * 4)).block, (ad.add (i * 4)).off + 3, none⟩ = some (.int .i64 x.want)

theorem below_only {w0 w w' : World} {g b B : Nat} (hb : Below B w0 w) (h : Only w w' g b) (hg : B ≤ g) (hbb : B ≤ b) (hs : B ≤ w.heap.size) : Below B w0 w' := h.below hb hg hbb hs

theorem take1 : takeR 65535 (upd (fun _ => none) 1 65535) 1 60000 = (60000, 5535, upd (upd (fun _ => none) 1 65535) 1 5535) := by
  unfold takeR takeK upd wrap64
  simp
theorem take3 (m : Int → Option Int) (h : m 3 = some 65535) : takeR 5535 m 3 10000 = (5535, 0, upd m 3 60000) := by
  unfold takeR takeK wrap64
  simp [h]

set_option maxHeartbeats 1600000 in
theorem awake_calls (w : World) : Calls Try.prog 13 #[] w fun e w' => e = .returned (.bool true) ∧ Below w.heap.size w w' := by
  go_enter Try.func13, Try.ntmps13
  go_wp2_with fail
  refine (new_calls _).mono ?_
  rintro e w1 ⟨g, b, rfl, hb1, hg, hbb, hB1⟩
  have H1 := Lib.hid hb1
  have HB1 := Lib.hid hB1
  have HG := Lib.hid (show w.heap.size ≤ g ∧ w.heap.size ≤ b from ⟨hg, hbb⟩)
  clear hb1 hB1 hg hbb
  go_wp2_with fail
  refine (open_calls H1.out 1 (by omega) (by omega) (by omega)).mono ?_
  rintro e w2 ⟨rfl, hb2, ho2⟩
  have H2 := Lib.hid hb2
  have HB2 := Lib.hid (below_only HB1.out ho2 HG.out.1 HG.out.2 HB1.out.size)
  clear hb2 ho2 H1 HB1
  go_wp2_with fail
  refine (take_calls H2.out 1 60000 (by omega) (by omega) (by omega)).mono ?_
  rw [take1]
  rintro e w3 ⟨rfl, hb3, ho3⟩
  have H3 := Lib.hid hb3
  have HB3 := Lib.hid (below_only HB2.out ho3 HG.out.1 HG.out.2 HB2.out.size)
  clear hb3 ho3 H2 HB2
  go_wp2_with fail
  refine (open_calls H3.out 3 (by omega) (by omega) (by omega)).mono ?_
  rintro e w4 ⟨rfl, hb4, ho4⟩
  have H4 := Lib.hid hb4
  have HB4 := Lib.hid (below_only HB3.out ho4 HG.out.1 HG.out.2 HB3.out.size)
  clear hb4 ho4 H3 HB3
  go_wp2_with fail
  refine (take_calls H4.out 3 10000 (by omega) (by omega) (by omega)).mono ?_
  rw [take3 _ rfl]
  rintro e w5 ⟨rfl, hb5, ho5⟩
  have H5 := Lib.hid hb5
  have HB5 := Lib.hid (below_only HB4.out ho5 HG.out.1 HG.out.2 HB4.out.size)
  clear hb5 ho5 H4 HB4
  go_wp2_with fail
  refine (initial_calls H5.out 0 (by omega) (by omega) (by omega)).mono ?_
  intro e w6 h6
  rcases h6 with ⟨rfl, _, _, h | ⟨id, v, _, _, hv, hbig⟩⟩ | ⟨b', rfl, hb6, ho6, hb', _, _⟩
  · exact absurd h (by omega)
  · exfalso
    unfold upd at hv
    unfold wrap64 at hbig
    repeat' split at hv
    all_goals first | (have := Option.some.inj hv; omega) | exact absurd hv (by simp)
  · have H6 := Lib.hid hb6
    have HB6 := Lib.hid (below_only HB5.out ho6 HG.out.1 HG.out.2 HB5.out.size)
    have HG' := Lib.hid (show w.heap.size ≤ b' from Nat.le_trans HB5.out.size hb')
    clear hb6 ho6 H5 HB5 hb'
    go_wp2_with fail
    refine (of_calls H6.out 1 (by omega) (by omega)).mono ?_
    rintro e w7 ⟨rfl, rfl⟩
    have e1 : ((Option.map (fun v => wrap64 (v + wrap64 (0 - 65535))) (upd (upd (upd (upd (fun _ => none) 1 65535) 1 5535) 3 65535) 3 60000 1)).getD 0) = -60000 := by
      unfold upd wrap64
      simp
    have e2 : (Option.map (fun v => wrap64 (v + wrap64 (0 - 65535))) (upd (upd (upd (upd (fun _ => none) 1 65535) 1 5535) 3 65535) 3 60000 1)).isSome = true := by
      unfold upd
      simp
    rw [e1, e2]
    clear e1 e2
    go_wp2_with fail
    refine (grow_calls H6.out 1 70000 (by omega) (by omega) (by omega) (by omega) (by omega)).mono ?_
    have e3 : growR 0 (fun id => Option.map (fun v => wrap64 (v + wrap64 (0 - 65535))) (upd (upd (upd (upd (fun _ => none) 1 65535) 1 5535) 3 65535) 3 60000 id)) 1 70000 = (0, 0, upd (fun id => Option.map (fun v => wrap64 (v + wrap64 (0 - 65535))) (upd (upd (upd (upd (fun _ => none) 1 65535) 1 5535) 3 65535) 3 60000 id)) 1 10000) := by
      simp [growR, upd, wrap64]
    rw [e3]
    clear e3
    rintro e w8 ⟨rfl, hb8, ho8⟩
    have H8 := Lib.hid hb8
    have HB8 := Lib.hid (below_only HB6.out ho8 HG.out.1 HG'.out HB6.out.size)
    clear hb8 ho8 H6 HB6
    go_wp2_with fail
    refine (conn_calls H8.out).mono ?_
    rintro e w9 ⟨rfl, rfl⟩
    go_wp2_with fail
    go_ret
    exact ⟨by first | rfl | (simp; done), HB8.out⟩

end Go.Proofs.Ytkaijdhnnfldkab.Win
