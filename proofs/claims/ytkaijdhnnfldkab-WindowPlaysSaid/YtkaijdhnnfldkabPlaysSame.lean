/- The walk of same: a book that tells what the document's rows tell. -/
import Derived.Test.YtkaijdhnnfldkabPlaysPure
import Derived.Test.YtkaijdhnnfldkabWin
import Derived.Deep.QuietTactic
import Derived.BigQuiet
import Derived.Deep.DeepMust
set_option linter.unusedVariables false
set_option linter.unusedSimpArgs false
namespace Go.Proofs.Ytkaijdhnnfldkab.PlaysSame
open Go.RowKit Go.Maps Go.Proofs.YtkaijdhnnfldkabW.PrintWords Go.Proofs.YtkaijdhnnfldkabW.PrintMore Go.Proofs.Ytkaijdhnnfldkab.PWindowPlays Go.Proofs.Ytkaijdhnnfldkab.Book Go.Proofs.Ytkaijdhnnfldkab.Win Go.Proofs.Ytkaijdhnnfldkab.PlaysPure

theorem BookAt.below {w w' : World} {g b N : Nat} {c f : Int} {m : Int → Option Int} (h : BookAt w g b c f m N) (hb : Below w.heap.size w w') : BookAt w' g b c f m N :=
  h.kept (hb.block g h.lt.1) (hb.block b h.lt.2)
theorem BookAt.drewN {w : World} {g b N : Nat} {c f : Int} {m : Int → Option Int} (h : BookAt w g b c f m N) (n : Nat) : BookAt (w.drewN n) g b c f m N := h.kept rfl rfl

theorem below_drewN_ (w : World) (n : Nat) : Below w.heap.size w (w.drewN n) := ⟨rfl, rfl, rfl, Nat.le_refl _, fun _ _ => rfl⟩
theorem conn_quiet {w : World} {g b N : Nat} {c f : Int} {m : Int → Option Int} (h : BookAt w g b c f m N) (n : Nat) :
    Calls Try.prog 19 #[.pointer (some ⟨g, 0, none⟩)] (w.drewN n) fun e w'' => e = .returned (.int .i64 c) ∧ ∃ k, w'' = w.drewN k :=
  Calls.quiet_of_same ((conn_calls (BookAt.drewN h n)).mono (fun _ _ ⟨h1, h2⟩ => ⟨h1, h2.symm⟩))

set_option maxHeartbeats 3200000 in
set_option maxRecDepth 100000 in
theorem same_calls {w : World} {g b N B : Nat} {c f : Int} {m : Int → Option Int} {P : Nat → Prop} {u : Value} {rows : List S66} (hb : BookAt w g b c f m N) (hR : Kd.R k66 66 w B P u rows) (hrel : Rel rows m) (hl : rows.length < 500000) (id : Int) (h0 : 0 ≤ id) (h1 : id < 4294967296) :
    Calls Try.prog 32 #[.pointer (some ⟨g, 0, none⟩), .agg #[.int .i64 c, .int .i64 f, u], .int .u32 id] w fun e w' => e = .returned (.bool true) ∧ Below w.heap.size w w' := by
  obtain ⟨A, cap, rfl⟩ := Kd.R_slice hR
  obtain ⟨_, hcap, hC⟩ := Kd.R_reads' hR
  have HC := Lib.hid hC
  have HB := Lib.hid hb
  have HR := Lib.hid hrel
  clear hC hb hR hrel
  have hB1 := (Below.refl w.heap.size w).alloc (Nat.le_refl _) (.cells #[.int .i64 c, .int .i64 f, .slice A rows.length cap] 44)
  have HB1 := Lib.hid hB1
  have HK1 := Lib.hid (BookAt.below HB.out hB1)
  have HC1 := Lib.hid (Kd.C_below HC.out hB1)
  obtain ⟨W, hW⟩ : ∃ W, w.alloc (.cells #[.int .i64 c, .int .i64 f, .slice A rows.length cap] 44) = W := ⟨_, rfl⟩
  have hcell : W.heap[w.heap.size]? = some (.cells #[.int .i64 c, .int .i64 f, .slice A rows.length cap] 44 (0, 0)) := by rw [← hW]; exact Array.getElem?_push_size
  rw [hW] at HB1 HK1 HC1
  have HCE := Lib.hid hcell
  clear hcell hB1
  have HOF := Lib.hid (of_f (rows.length + 1) c f id rows m HR.out (by omega) hl)
  obtain ⟨x, hx⟩ : ∃ x, (m id).getD 0 = x := ⟨_, rfl⟩
  obtain ⟨y, hy⟩ : ∃ y, (m id).isSome = y := ⟨_, rfl⟩
  rw [hx, hy] at HOF
  have hcalls := fun (V : World) (h : BookAt V g b c f m N) => of_calls h id h0 h1
  rw [hx, hy] at hcalls
  have HOC := Lib.hid hcalls
  clear hcalls hx hy
  go_enter Try.func32, Try.ntmps32
  go_wp2_with fail
  refine (HOC.out _ HK1.out).mono ?_
  rintro e w1 ⟨rfl, rfl⟩
  have c0 : W.cell? ⟨w.heap.size, 0, none⟩ = some (.int .i64 c) := by simp [World.cell?, HCE.out]
  have c1 : W.cell? ⟨w.heap.size, 1, none⟩ = some (.int .i64 f) := by simp [World.cell?, HCE.out]
  have c2 : W.cell? ⟨w.heap.size, 2, none⟩ = some (.slice A rows.length cap) := by simp [World.cell?, HCE.out]
  go_wp2_with fail
  refine (nuncioref17_Of.calls (rows.length + 1) c f A cap rows id x y _ HC1.out hcap HOF.out).mono ?_
  rintro e w2 ⟨rfl, hB2⟩
  have HB2 := Lib.hid (HB1.out.trans (hB2.mono HB1.out.size))
  have HK2 := Lib.hid (BookAt.below HK1.out hB2)
  have HC2 := Lib.hid (Kd.C_below HC1.out hB2)
  have HCE2 := Lib.hid (show w2.heap[w.heap.size]? = some (.cells #[.int .i64 c, .int .i64 f, .slice A rows.length cap] 44 (0, 0)) from blk_below HCE.out hB2)
  clear c0 c1 c2 hB2
  have d0 : w2.cell? ⟨w.heap.size, 0, none⟩ = some (.int .i64 c) := by simp [World.cell?, HCE2.out]
  have d1 : w2.cell? ⟨w.heap.size, 1, none⟩ = some (.int .i64 f) := by simp [World.cell?, HCE2.out]
  have d2 : w2.cell? ⟨w.heap.size, 2, none⟩ = some (.slice A rows.length cap) := by simp [World.cell?, HCE2.out]
  go_wp2_with fail
  go_quiet ((go_at_call 19; exact conn_quiet HK2.out _))
  generalize hG : w2.drewN _ = w3
  have hB3 : Below w2.heap.size w2 w3 := by rw [← hG]; exact (below_drewN_ w2 _)
  have HB3 := Lib.hid (HB2.out.trans (hB3.mono HB2.out.size))
  have HK3 := Lib.hid (BookAt.below HK2.out hB3)
  have HC3 := Lib.hid (Kd.C_below HC2.out hB3)
  have HCE3 := Lib.hid (show w3.heap[w.heap.size]? = some (.cells #[.int .i64 c, .int .i64 f, .slice A rows.length cap] 44 (0, 0)) from blk_below HCE2.out hB3)
  clear d0 d1 d2 hB3 hG HB2 HK2 HC2 HCE2 HOC HOF HB1 HK1 HC1 HCE hW
  go_wp2_with fail
  go_loopg [11] rows.length (fun kq v11 w' => ∃ (j : Nat), v11 = .int .i64 j ∧ Aside0 (kq + j = rows.length) ∧ Aside0 (BookAt w' g b c f m N) ∧ Aside0 (Kd.C k66 w' A rows.length rows) ∧ Aside0 (w'.heap[w.heap.size]? = some (.cells #[.int .i64 c, .int .i64 f, .slice A rows.length cap] 44 (0, 0))) ∧ Aside0 (Below w.heap.size w w'))
  case atStart => exact ⟨0, rfl, ⟨by omega⟩, ⟨HK3.out⟩, ⟨HC3.out⟩, ⟨HCE3.out⟩, ⟨HB3.out⟩⟩
  case round =>
    clear HK3 HC3 HCE3 HB3
    obtain ⟨j, rfl, HK, HBk, HCr, HCe, HBe⟩ := hrel
    have d2 : wr.cell? ⟨w.heap.size, 2, none⟩ = some (.slice A rows.length cap) := by simp [World.cell?, HCe.out]
    by_cases hj : j < rows.length
    · obtain ⟨ad, rfl, x0, x1⟩ := at_T66 HCr.out (j : Int) (by omega) (by omega)
      rw [rd_eq rows j hj, Int.toNat_natCast] at x0 x1
      obtain ⟨q, hq⟩ : ∃ q, rows[j] = q := ⟨_, rfl⟩
      rw [hq] at x0 x1
      have hmem : q ∈ rows := by rw [← hq]; exact List.getElem_mem hj
      have HM := Lib.hid (HR.out.at_ q hmem)
      have HI := Lib.hid (HR.out.ids q hmem)
      have HJ := Lib.hid hj
      clear hq hmem
      go_wp2_with fail
      refine (of_calls HBk.out q.f0 HI.out.1 HI.out.2).mono ?_
      rw [HM.out, show (some q.f1).getD 0 = q.f1 from rfl, show (some q.f1).isSome = true from rfl]
      rintro e w4 ⟨rfl, rfl⟩
      go_wp2_with fail
      obtain ⟨k', rfl⟩ : ∃ q, gk = q + 1 := ⟨gk - 1, by have := HK.out; have := HJ.out; omega⟩
      go_roundg k'
      case measure => omega
      case rel => exact ⟨j + 1, by first | rfl | (simp; done), ⟨by have := HK.out; omega⟩, ⟨HBk.out⟩, ⟨HCr.out⟩, ⟨HCe.out⟩, ⟨HBe.out⟩⟩
    · go_wp2
      go_ret
      exact ⟨rfl, HBe.out⟩
end Go.Proofs.Ytkaijdhnnfldkab.PlaysSame
