/- The walk of play: one call on a book and on the document's rows. -/
import Derived.Test.YtkaijdhnnfldkabPlaysSame
import Derived.Deep.RegionHeld3
import Derived.Deep.DeepCutAuto
set_option linter.unusedVariables false
set_option linter.unusedSimpArgs false
namespace Go.Proofs.Ytkaijdhnnfldkab.PlaysPlay
open Go.RowKit Go.Maps Go.Proofs.YtkaijdhnnfldkabW.PrintWords Go.Proofs.YtkaijdhnnfldkabW.PrintMore Go.Proofs.Ytkaijdhnnfldkab.PWindowPlays Go.Proofs.Ytkaijdhnnfldkab.Book Go.Proofs.Ytkaijdhnnfldkab.Win Go.Proofs.Ytkaijdhnnfldkab.PlaysPure Go.Proofs.Ytkaijdhnnfldkab.PlaysSame

/-- Rows of the law's own, in none of S's blocks. -/
def RowsAt (B : Nat) (w : World) (S : Nat → Prop) (u : Value) (rows : List S66) : Prop := ∃ P, Kd.R k66 66 w B P u rows ∧ ∀ k, P k → ¬ S k

section
variable {B : Nat} {w w' : World} {S T : Nat → Prop} {u : Value} {rows : List S66}
theorem RowsAt.mono (h : RowsAt B w S u rows) (hS : ∀ k, T k → S k) : RowsAt B w T u rows := by
  obtain ⟨P, hR, hP⟩ := h
  exact ⟨P, hR, fun k hk ht => hP k hk (hS k ht)⟩
theorem RowsAt.below (h : RowsAt B w S u rows) (hb : Below w.heap.size w w') : RowsAt B w' S u rows := by
  obtain ⟨P, hR, hP⟩ := h
  exact ⟨P, Kd.R_below hR hb, hP⟩
theorem RowsAt.fresh (h : RowsAt B w S u rows) : RowsAt B w (fun k => S k ∨ w.heap.size ≤ k) u rows := by
  obtain ⟨P, hR, hP⟩ := h
  exact ⟨_, Kd.R_bound hR, fun k hk hs => hs.elim (hP k hk.1) (fun h2 => by have := hk.2.2.1; omega)⟩
theorem RowsAt.only (h : RowsAt B w S u rows) {g b : Nat} (ho : Only w w' g b) (hg : S g) (hb : S b) : RowsAt B w' S u rows := by
  obtain ⟨P, hR, hP⟩ := h
  refine ⟨P, Kd.R_kept (S := fun k => k = g ∨ k = b) hR ⟨ho.size, fun i hi hn => ho.block i hi (fun e => hn (.inl e)) (fun e => hn (.inr e))⟩ (fun k hk hs => ?_), hP⟩
  rcases hs with rfl | rfl
  · exact hP _ hk hg
  · exact hP _ hk hb
theorem RowsAt.set (h : RowsAt B w S u rows) {p : Addr} (hp : S p.block) (v : Value) : RowsAt B (w.setCell p v) S u rows := by
  obtain ⟨P, hR, hP⟩ := h
  exact ⟨P, Kd.R_far hR (fun k hk e => hP k hk (e ▸ hp)) v, hP⟩
theorem RowsAt.slice (h : RowsAt B w S u rows) : ∃ A cap, u = .slice A rows.length cap ∧ rows.length ≤ cap ∧ Kd.C k66 w A rows.length rows := by
  obtain ⟨P, hR, hP⟩ := h
  obtain ⟨A, cap, rfl⟩ := Kd.R_slice hR
  obtain ⟨_, h1, h2⟩ := Kd.R_reads' hR
  exact ⟨A, cap, rfl, h1, h2⟩
theorem RowsAt.made {W : World} {P : Nat → Prop} (hR : Kd.R k66 66 w W.heap.size P u rows) (hle : B ≤ W.heap.size) (hS : ∀ k, S k → k < W.heap.size) : RowsAt B w S u rows :=
  ⟨_, Kd.R_lower (Kd.R_bound hR) hle, fun k hk hs => by have := hk.2.1; have := hS k hs; omega⟩
end

theorem open_ref {w0 W : World} {S T : Nat → Prop} {u : Value} {rows rows' : List S66} {k : Nat} {c f c' f' id : Int} (h : RowsAt w0.heap.size W S u rows) (hB : Below w0.heap.size w0 W) (hf : nuncioref17_Open.f k c f rows id = some (c', f', rows')) (hT : ∀ k, T k → k < W.heap.size) :
    Calls Try.prog 27 #[.agg #[.int .i64 c, .int .i64 f, u], .int .u32 id] W fun e w' => ∃ u', e = .returned (.agg #[.int .i64 c', .int .i64 f', u']) ∧ RowsAt w0.heap.size w' T u' rows' ∧ Below w0.heap.size w0 w' ∧ (∀ k, T k → w'.heap[k]? = W.heap[k]?) := by
  obtain ⟨A, cap, rfl, hc, hC⟩ := h.slice
  refine (nuncioref17_Open.calls k c f A cap rows id c' f' rows' W hC hc hf).mono ?_
  rintro e w' ⟨v, rfl, hR, hb⟩
  exact ⟨v, rfl, RowsAt.made hR hB.size hT, hB.trans (hb.mono hB.size), fun k hk => hb.block k (hT k hk)⟩
theorem drop_ref {w0 W : World} {S T : Nat → Prop} {u : Value} {rows rows' : List S66} {k : Nat} {c f c' f' id : Int} (h : RowsAt w0.heap.size W S u rows) (hB : Below w0.heap.size w0 W) (hf : nuncioref17_Drop.f k c f rows id = some (c', f', rows')) (hT : ∀ k, T k → k < W.heap.size) :
    Calls Try.prog 28 #[.agg #[.int .i64 c, .int .i64 f, u], .int .u32 id] W fun e w' => ∃ u', e = .returned (.agg #[.int .i64 c', .int .i64 f', u']) ∧ RowsAt w0.heap.size w' T u' rows' ∧ Below w0.heap.size w0 w' ∧ (∀ k, T k → w'.heap[k]? = W.heap[k]?) := by
  obtain ⟨A, cap, rfl, hc, hC⟩ := h.slice
  refine (nuncioref17_Drop.calls k c f A cap rows id c' f' rows' W hC hc hf).mono ?_
  rintro e w' ⟨v, rfl, hR, hb⟩
  exact ⟨v, rfl, RowsAt.made hR hB.size hT, hB.trans (hb.mono hB.size), fun k hk => hb.block k (hT k hk)⟩
theorem rows_given {w0 W w' : World} {S T P : Nat → Prop} {u' : Value} {rows' : List S66} (hP : ∀ k, P k → ¬ S k) (hT : ∀ k, T k → S k ∧ k < W.heap.size) (hR : Kd.R k66 66 w' w0.heap.size (fun k => P k ∨ W.heap.size ≤ k) u' rows') (hK : Kept W w' P) : RowsAt w0.heap.size w' T u' rows' ∧ (∀ k, T k → w'.heap[k]? = W.heap[k]?) :=
  ⟨⟨_, hR, fun k hk ht => hk.elim (fun h => hP k h (hT k ht).1) (fun h => by have := (hT k ht).2; omega)⟩, fun k hk => hK.2 k (hT k hk).2 (fun h => hP k h (hT k hk).1)⟩
theorem grow_ref {w0 W : World} {S T : Nat → Prop} {u : Value} {rows rows' : List S66} {k : Nat} {c f c' f' id n r : Int} (h : RowsAt w0.heap.size W S u rows) (hB : Below w0.heap.size w0 W) (hf : nuncioref17_Grow.f k c f rows id n = some (c', f', rows', r)) (hT : ∀ k, T k → S k ∧ k < W.heap.size) :
    Calls Try.prog 29 #[.agg #[.int .i64 c, .int .i64 f, u], .int .u32 id, .int .u32 n] W fun e w' => ∃ u', e = .returned (.tuple #[.agg #[.int .i64 c', .int .i64 f', u'], .int .i64 r]) ∧ RowsAt w0.heap.size w' T u' rows' ∧ Below w0.heap.size w0 w' ∧ (∀ k, T k → w'.heap[k]? = W.heap[k]?) := by
  obtain ⟨P, hR, hP⟩ := h
  refine (nuncioref17_Grow.calls k c f P u rows id n c' f' rows' r w0 W hB hR hf).mono ?_
  rintro e w' ⟨v, rfl, hR', hb, hK⟩
  obtain ⟨h1, h2⟩ := rows_given hP hT hR' hK
  exact ⟨v, rfl, h1, hb, h2⟩
theorem take_ref {w0 W : World} {S T : Nat → Prop} {u : Value} {rows rows' : List S66} {k : Nat} {c f c' f' id n r : Int} (h : RowsAt w0.heap.size W S u rows) (hB : Below w0.heap.size w0 W) (hf : nuncioref17_Take.f k c f rows id n = some (c', f', rows', r)) (hT : ∀ k, T k → S k ∧ k < W.heap.size) :
    Calls Try.prog 31 #[.agg #[.int .i64 c, .int .i64 f, u], .int .u32 id, .int .i64 n] W fun e w' => ∃ u', e = .returned (.tuple #[.agg #[.int .i64 c', .int .i64 f', u'], .int .i64 r]) ∧ RowsAt w0.heap.size w' T u' rows' ∧ Below w0.heap.size w0 w' ∧ (∀ k, T k → w'.heap[k]? = W.heap[k]?) := by
  obtain ⟨P, hR, hP⟩ := h
  refine (nuncioref17_Take.calls k c f P u rows id n c' f' rows' r w0 W hB hR hf).mono ?_
  rintro e w' ⟨v, rfl, hR', hb, hK⟩
  obtain ⟨h1, h2⟩ := rows_given hP hT hR' hK
  exact ⟨v, rfl, h1, hb, h2⟩
theorem initial_ref {w0 W : World} {S T : Nat → Prop} {u : Value} {rows rows' : List S66} {k : Nat} {c f c' f' n r : Int} (h : RowsAt w0.heap.size W S u rows) (hB : Below w0.heap.size w0 W) (hf : nuncioref17_Initial.f k c f rows n = some (c', f', rows', r)) (hT : ∀ k, T k → S k ∧ k < W.heap.size) :
    Calls Try.prog 30 #[.agg #[.int .i64 c, .int .i64 f, u], .int .u32 n] W fun e w' => ∃ u', e = .returned (.tuple #[.agg #[.int .i64 c', .int .i64 f', u'], .int .i64 r]) ∧ RowsAt w0.heap.size w' T u' rows' ∧ Below w0.heap.size w0 w' ∧ (∀ k, T k → w'.heap[k]? = W.heap[k]?) := by
  obtain ⟨P, hR, hP⟩ := h
  refine (nuncioref17_Initial.calls k c f P u rows n c' f' rows' r w0 W hB hR hf).mono ?_
  rintro e w' ⟨v, rfl, hR', hb, hK⟩
  obtain ⟨h1, h2⟩ := rows_given hP hT hR' hK
  exact ⟨v, rfl, h1, hb, h2⟩
theorem same_ref {w : World} {g b N B : Nat} {c f : Int} {m : Int → Option Int} {S : Nat → Prop} {u : Value} {rows : List S66} (hb : BookAt w g b c f m N) (hR : RowsAt B w S u rows) (hrel : Rel rows m) (hl : rows.length < 500000) (id : Int) (h0 : 0 ≤ id) (h1 : id < 4294967296) :
    Calls Try.prog 32 #[.pointer (some ⟨g, 0, none⟩), .agg #[.int .i64 c, .int .i64 f, u], .int .u32 id] w fun e w' => e = .returned (.bool true) ∧ Below w.heap.size w w' := by
  obtain ⟨P, hR', _⟩ := hR
  exact same_calls hb hR' hrel hl id h0 h1

/-- What play hands back. -/
def PlayPost (w0 w : World) (S : Nat → Prop) (g b N : Nat) (e : Ending) (w' : World) : Prop := ∃ (b' : Nat) (c' f' : Int) (m' : Int → Option Int) (u' : Value) (rows' : List S66), e = .returned (.tuple #[.agg #[.int .i64 c', .int .i64 f', u'], .bool true]) ∧ BookAt w' g b' c' f' m' (N + 1) ∧ RowsAt w0.heap.size w' (fun k => k = b' ∨ (S k ∧ k < w.heap.size)) u' rows' ∧ Rel rows' m' ∧ rows'.length ≤ N + 1 ∧ w0.heap.size ≤ b' ∧ (b' = b ∨ w.heap.size ≤ b') ∧ Below w0.heap.size w0 w' ∧ w.heap.size ≤ w'.heap.size ∧ ∀ k, S k → k < w.heap.size → k ≠ g → k ≠ b → w'.heap[k]? = w.heap[k]?
theorem three0 (h : Array Obj) (a b c : Obj) : (((h.push a).push b).push c)[h.size]? = some a := by
  rw [Array.getElem?_push, if_neg (by simp; omega), Array.getElem?_push, if_neg (by simp), Array.getElem?_push, if_pos rfl]
theorem three1 (h : Array Obj) (a b c : Obj) : (((h.push a).push b).push c)[h.size + 1]? = some b := by
  rw [Array.getElem?_push, if_neg (by simp), Array.getElem?_push, if_pos (by simp)]
theorem three2 (h : Array Obj) (a b c : Obj) : (((h.push a).push b).push c)[h.size + 1 + 1]? = some c := by
  rw [Array.getElem?_push, if_pos (by simp)]
theorem far3 {w : World} {n : Nat} {x y z v : Value} {a : Addr} (h : a.block ≠ n) (hv : w.cell? a = some v) : (((w.setCell ⟨n, 0, none⟩ x).setCell ⟨n, 1, none⟩ y).setCell ⟨n, 2, none⟩ z).cell? a = some v := by
  rw [← hv]
  unfold World.cell?
  rw [Below.heap_setCell _ ⟨n, 2, none⟩ z a.block h, Below.heap_setCell _ ⟨n, 1, none⟩ y a.block h, Below.heap_setCell _ ⟨n, 0, none⟩ x a.block h]
theorem far3_heap {w : World} {n k : Nat} {x y z : Value} (h : k ≠ n) : (((w.setCell ⟨n, 0, none⟩ x).setCell ⟨n, 1, none⟩ y).setCell ⟨n, 2, none⟩ z).heap[k]? = w.heap[k]? := by
  rw [Below.heap_setCell _ ⟨n, 2, none⟩ z k h, Below.heap_setCell _ ⟨n, 1, none⟩ y k h, Below.heap_setCell _ ⟨n, 0, none⟩ x k h]
theorem self3_heap {w : World} {n : Nat} {x y z x0 y0 z0 : Value} (h : w.heap[n]? = some (.cells #[x0, y0, z0] 44 (0, 0))) : (((w.setCell ⟨n, 0, none⟩ x).setCell ⟨n, 1, none⟩ y).setCell ⟨n, 2, none⟩ z).heap[n]? = some (.cells #[x, y, z] 44 (0, 0)) :=
  blk_put (cs := #[x, y, z0]) (blk_put (cs := #[x, y0, z0]) (blk_put (cs := #[x0, y0, z0]) h 0 _ rfl) 1 _ rfl) 2 _ rfl
theorem book_far3 {w : World} {g b N n : Nat} {c f : Int} {m : Int → Option Int} {x y z : Value} (h : BookAt w g b c f m N) (h1 : g ≠ n) (h2 : b ≠ n) : BookAt (((w.setCell ⟨n, 0, none⟩ x).setCell ⟨n, 1, none⟩ y).setCell ⟨n, 2, none⟩ z) g b c f m N :=
  h.kept (far3_heap h1) (far3_heap h2)
theorem RowsAt.set3 {B : Nat} {w : World} {S : Nat → Prop} {u : Value} {rows : List S66} {n : Nat} {x y z : Value} (h : RowsAt B w S u rows) (hp : S n) : RowsAt B (((w.setCell ⟨n, 0, none⟩ x).setCell ⟨n, 1, none⟩ y).setCell ⟨n, 2, none⟩ z) S u rows :=
  ((h.set (p := ⟨n, 0, none⟩) hp x).set (p := ⟨n, 1, none⟩) hp y).set (p := ⟨n, 2, none⟩) hp z
theorem below_set3 {w0 w : World} {n : Nat} {x y z : Value} (h : Below w0.heap.size w0 w) (hn : w0.heap.size ≤ n) : Below w0.heap.size w0 (((w.setCell ⟨n, 0, none⟩ x).setCell ⟨n, 1, none⟩ y).setCell ⟨n, 2, none⟩ z) :=
  below_set (below_set (below_set h hn) hn) hn
theorem size3 {w : World} {n : Nat} {x y z : Value} : (((w.setCell ⟨n, 0, none⟩ x).setCell ⟨n, 1, none⟩ y).setCell ⟨n, 2, none⟩ z).heap.size = w.heap.size := by simp [World.setCell]
theorem grow_codes (c : Int) (m : Int → Option Int) (id n : Int) : (growR c m id n).1 = 0 ∨ (growR c m id n).1 = 3 := by
  unfold growR
  repeat' split
  all_goals simp
theorem drew_below (w : World) : Below w.heap.size w w.drew := ⟨rfl, rfl, rfl, Nat.le_refl _, fun _ _ => rfl⟩

set_option maxHeartbeats 12800000 in
set_option maxRecDepth 100000 in
theorem play_open {w0 w : World} {g b N : Nat} {c f : Int} {m : Int → Option Int} {u : Value} {rows : List S66} {q : Act4} (hB : Below w0.heap.size w0 w) (hb : BookAt w g b c f m N) {S : Nat → Prop} (hr : RowsAt w0.heap.size w S u rows) (hS : S g ∧ S b) (hrel : Rel rows m) (hlen : rows.length ≤ N) (hbB : w0.heap.size ≤ g ∧ w0.heap.size ≤ b) (hq : ActOk q) (hN : N < 100000) (hk : q.k = 0) :
    Calls Try.prog 22 #[.pointer (some ⟨g, 0, none⟩), .agg #[.int .i64 c, .int .i64 f, u], .agg #[.int .i64 q.k, .int .u32 q.id, .int .u32 q.n, .int .i64 q.want]] w (PlayPost w0 w S g b N) := by
  have kb0 : (q.k == 0) = true := by simp [hk]
  have kb1 : (q.k == 1) = false := by simp [hk]
  have kb2 : (q.k == 2) = false := by simp [hk]
  have kb3 : (q.k == 3) = false := by simp [hk]
  have kb4 : (q.k == 4) = false := by simp [hk]
  clear hk
  obtain ⟨A, cap, rfl, hcap, hC0⟩ := hr.slice
  have hR0 := (hr.fresh)
  have HK := Lib.hid hb
  have HQ := Lib.hid hq
  have HREL0 := Lib.hid hrel
  have HLEN0 := Lib.hid hlen
  have HBE := Lib.hid hB
  have HBB := Lib.hid hbB
  have HLT := Lib.hid hb.lt
  have HRR := Lib.hid hR0
  clear hC0 hR0 hr hb hq hrel hlen hB hbB
  obtain ⟨W, hW⟩ : ∃ W, ((w.alloc (.cells #[.int .i64 c, .int .i64 f, .slice A rows.length cap] 44)).alloc (.cells #[.int .i64 q.k, .int .u32 q.id, .int .u32 q.n, .int .i64 q.want] 33)).alloc (.cells #[.int .i64 0, .int .i64 0, .slice none 0 0] 44) = W := ⟨_, rfl⟩
  have hBW : Below w.heap.size w W := by rw [← hW]; exact (((Below.refl w.heap.size w).alloc (Nat.le_refl _) _).alloc (by simp) _).alloc (by simp; omega) _
  have hs : W.heap.size = w.heap.size + 3 := by rw [← hW]; simp
  have h0 : W.heap[w.heap.size]? = some (.cells #[.int .i64 c, .int .i64 f, .slice A rows.length cap] 44 (0, 0)) := by rw [← hW]; simp only [World.alloc]; exact three0 _ _ _ _
  have h1 : W.heap[w.heap.size + 1]? = some (.cells #[.int .i64 q.k, .int .u32 q.id, .int .u32 q.n, .int .i64 q.want] 33 (0, 0)) := by rw [← hW]; simp only [World.alloc]; exact three1 _ _ _ _
  have h2 : W.heap[w.heap.size + 1 + 1]? = some (.cells #[.int .i64 0, .int .i64 0, .slice none 0 0] 44 (0, 0)) := by rw [← hW]; simp only [World.alloc]; exact three2 _ _ _ _
  have HV := Lib.hid (show _ ∧ _ ∧ _ from ⟨h0, h1, h2⟩)
  have HKW := Lib.hid (BookAt.below HK.out hBW)
  have HRW := Lib.hid (RowsAt.below HRR.out hBW)
  have HBW := Lib.hid (HBE.out.trans (hBW.mono HBE.out.size))
  have HS := Lib.hid hs
  have HUW := Lib.hid (show ∀ k, S k → k < w.heap.size → k ≠ g → k ≠ b → W.heap[k]? = w.heap[k]? from fun k _ hk _ _ => hBW.block k hk)
  have HSS := Lib.hid hS
  clear hBW hs h0 h1 h2 HRR hS
  have t0 := (blk_cell HV.out.2.1 0).trans rfl
  have t1 := (blk_cell HV.out.2.1 1).trans rfl
  have t2 := (blk_cell HV.out.2.1 2).trans rfl
  have t3 := (blk_cell HV.out.2.1 3).trans rfl
  go_enter Try.func22, Try.ntmps22
  go_wp2_with fail
  refine (open_calls HKW.out q.id HQ.out.id0 HQ.out.id1 (by omega)).mono ?_
  rintro e w2 ⟨rfl, hb2, ho2⟩
  obtain ⟨l4, hf4, hrel4, hlen4⟩ : ∃ l4 : List S66, nuncioref17_Open.f (rows.length + 1) c f rows q.id = some (c, f, l4) ∧ Rel l4 (upd m q.id f) ∧ l4.length ≤ rows.length + 1 := ⟨_, open_f (rows.length + 1) c f q.id rows (by omega) (by have := HLEN0.out; omega), Rel.upd HREL0.out q.id f HQ.out.id0 HQ.out.id1, len_put rows q.id f⟩
  have HREL := Lib.hid hrel4
  have HLE0 := Lib.hid hlen4
  have HFF := Lib.hid hf4
  clear hrel4 hlen4 hf4
  have HNB := Lib.hid (show b < w.heap.size ∨ w.heap.size + 3 ≤ b from .inl HLT.out.2)
  have HBP := Lib.hid (show w0.heap.size ≤ b from HBB.out.2)
  have HB2 := Lib.hid hb2
  have HR2 := Lib.hid (RowsAt.only HRW.out ho2 (.inl HSS.out.1) (.inl HSS.out.2))
  have HBe2 := Lib.hid (below_only HBW.out ho2 HBB.out.1 HBB.out.2 HBW.out.size)
  have hlt := HLT.out
  have hsz : w.heap.size + 3 ≤ w2.heap.size := by have := ho2.size; have := HS.out; omega
  have HV2 := Lib.hid (show _ ∧ _ ∧ _ from ⟨(ho2.block w.heap.size (by have := HS.out; omega) (by omega) (by omega)).trans HV.out.1, (ho2.block (w.heap.size + 1) (by have := HS.out; omega) (by omega) (by omega)).trans HV.out.2.1, (ho2.block (w.heap.size + 1 + 1) (by have := HS.out; omega) (by omega) (by omega)).trans HV.out.2.2⟩)
  have hT : ∀ k, (fun k => k = g ∨ k = b ∨ k = w.heap.size ∨ k = w.heap.size + 1 ∨ k = w.heap.size + 1 + 1 ∨ (S k ∧ k < w.heap.size)) k → (S k ∨ w.heap.size ≤ k) ∧ k < w2.heap.size := by
    intro k hk
    have := hb2.lt
    have := HNB.out
    rcases hk with rfl | rfl | rfl | rfl | rfl | hk
    all_goals first | exact ⟨.inl HSS.out.1, by omega⟩ | exact ⟨.inl HSS.out.2, by omega⟩ | exact ⟨.inr (by omega), by omega⟩ | exact ⟨.inl hk.1, by omega⟩
  have HT := Lib.hid hT
  have HU2 := Lib.hid (show ∀ k, S k → k < w.heap.size → k ≠ g → k ≠ b → w2.heap[k]? = w.heap[k]? from fun k h1 h2 h3 h4 => (ho2.block k (by have := HS.out; omega) h3 h4).trans (HUW.out k h1 h2 h3 h4))
  clear t0 t1 t2 t3 hb2 ho2 hlt hsz hT HV
  have e0 := (blk_cell HV2.out.1 0).trans rfl
  have e1 := (blk_cell HV2.out.1 1).trans rfl
  have e2 := (blk_cell HV2.out.1 2).trans rfl
  have t1 := (blk_cell HV2.out.2.1 1).trans rfl
  have t2 := (blk_cell HV2.out.2.1 2).trans rfl
  have t3 := (blk_cell HV2.out.2.1 3).trans rfl
  go_wp2_with fail
  refine (open_ref (T := (fun k => k = g ∨ k = b ∨ k = w.heap.size ∨ k = w.heap.size + 1 ∨ k = w.heap.size + 1 + 1 ∨ (S k ∧ k < w.heap.size))) HR2.out HBe2.out (HFF.out) (fun k hk => (HT.out k hk).2)).mono ?_
  rintro e w3 ⟨u3, rfl, hr3, hbe3, hk3⟩
  obtain ⟨A, cap, rfl, _, _⟩ := hr3.slice
  have HB3 := Lib.hid (HB2.out.kept (hk3 g (by simp)) (hk3 b (by simp)))
  have HR3 := Lib.hid hr3
  have HU3 := Lib.hid (show ∀ k, S k → k < w.heap.size → k ≠ g → k ≠ b → w3.heap[k]? = w.heap[k]? from fun k h1 h2 h3 h4 => (hk3 k (.inr (.inr (.inr (.inr (.inr ⟨h1, h2⟩)))))).trans (HU2.out k h1 h2 h3 h4))
  have HBe3 := Lib.hid hbe3
  have HV3 := Lib.hid (show _ ∧ _ ∧ _ from ⟨(hk3 w.heap.size (by simp)).trans HV2.out.1, (hk3 (w.heap.size + 1) (by simp)).trans HV2.out.2.1, (hk3 (w.heap.size + 1 + 1) (by simp)).trans HV2.out.2.2⟩)
  clear e0 e1 e2 t1 t2 t3 hr3 hbe3 hk3 HV2 HB2 HR2 HBe2 HKW HRW HBW HT
  have e0 := (blk_cell HV3.out.1 0).trans rfl
  have e1 := (blk_cell HV3.out.1 1).trans rfl
  have e2 := (blk_cell HV3.out.1 2).trans rfl
  have y0 := blk_frozen HV3.out.1 0
  have y1 := blk_frozen HV3.out.1 1
  have y2 := blk_frozen HV3.out.1 2
  go_wp2_with fail
  have hlt := HLT.out
  have HB4 := Lib.hid (book_far3 HB3.out (n := w.heap.size) (x := .int .i64 (c)) (y := .int .i64 (f)) (z := .slice A l4.length cap) (by omega) (by have := HNB.out; omega))
  have HR4 := Lib.hid (HR3.out.set3 (n := w.heap.size) (x := .int .i64 (c)) (y := .int .i64 (f)) (z := .slice A l4.length cap) (by simp))
  have HBe4 := Lib.hid (below_set3 (n := w.heap.size) (x := .int .i64 (c)) (y := .int .i64 (f)) (z := .slice A l4.length cap) HBe3.out HBE.out.size)
  have hv0 := self3_heap (x := .int .i64 (c)) (y := .int .i64 (f)) (z := .slice A l4.length cap) HV3.out.1
  have hv1 := (far3_heap (n := w.heap.size) (x := .int .i64 (c)) (y := .int .i64 (f)) (z := .slice A l4.length cap) (by omega)).trans HV3.out.2.1
  have hv2 := (far3_heap (n := w.heap.size) (x := .int .i64 (c)) (y := .int .i64 (f)) (z := .slice A l4.length cap) (by omega)).trans HV3.out.2.2
  have HU := Lib.hid (show ∀ k, S k → k < w.heap.size → k ≠ g → k ≠ b → (((w3.setCell ⟨w.heap.size, 0, none⟩ (.int .i64 (c))).setCell ⟨w.heap.size, 1, none⟩ (.int .i64 (f))).setCell ⟨w.heap.size, 2, none⟩ (.slice A l4.length cap)).heap[k]? = w.heap[k]? from fun k h1 h2 h3 h4 => (far3_heap (by omega)).trans (HU3.out k h1 h2 h3 h4))
  clear e0 e1 e2 y0 y1 y2 HB3 HR3 HBe3 HV3 HU2 HU3 hlt
  have HLE := Lib.hid (Nat.le_trans HLE0.out (Nat.succ_le_succ HLEN0.out))
  have HLEN := Lib.hid (show _ < 500000 from Nat.lt_of_le_of_lt HLE.out (by omega))
  generalize hG : ((w3.setCell ⟨w.heap.size, 0, none⟩ _).setCell ⟨w.heap.size, 1, none⟩ _).setCell ⟨w.heap.size, 2, none⟩ _ = w4 at *
  have e0 := (blk_cell hv0 0).trans rfl
  have e1 := (blk_cell hv0 1).trans rfl
  have e2 := (blk_cell hv0 2).trans rfl
  have a1 := (blk_cell hv1 1).trans rfl
  have z0 := (blk_cell hv2 0).trans rfl
  have z1 := (blk_cell hv2 1).trans rfl
  have z2 := (blk_cell hv2 2).trans rfl
  have y0 := blk_frozen hv2 0
  have y1 := blk_frozen hv2 1
  have y2 := blk_frozen hv2 2
  have HV := Lib.hid (show w4.drew.heap[w.heap.size]? = _ ∧ w4.drew.heap[w.heap.size + 1]? = _ ∧ w4.drew.heap[w.heap.size + 1 + 1]? = _ from ⟨hv0, hv1, hv2⟩)
  clear hv0 hv1 hv2
  have HBd := Lib.hid (BookAt.below HB4.out (drew_below _))
  have HRd := Lib.hid (RowsAt.below HR4.out (drew_below _))
  go_region_held3 (fun w' => w'.cell? ⟨w.heap.size, 0, none⟩ = some (.int .i64 (c)) ∧ w'.cell? ⟨w.heap.size, 1, none⟩ = some (.int .i64 (f)) ∧ w'.cell? ⟨w.heap.size, 2, none⟩ = some (.slice A (l4).length cap) ∧ w'.cell? ⟨w.heap.size + 1, 1, none⟩ = some (.int .u32 q.id)) (first | exact ⟨e0, e1, e2, a1⟩ | exact ⟨d0, d1, d2, d3⟩ | exact ⟨far3 (by show w.heap.size ≠ w.heap.size + 1 + 1; omega) d0, far3 (by show w.heap.size ≠ w.heap.size + 1 + 1; omega) d1, far3 (by show w.heap.size ≠ w.heap.size + 1 + 1; omega) d2, far3 (by show w.heap.size + 1 ≠ w.heap.size + 1 + 1; omega) d3⟩ | go_keep)
    (first | (go_at_call 32; go_must (refine (same_ref HBd.out HRd.out HREL.out HLEN.out q.id HQ.out.id0 HQ.out.id1).mono ?_; rintro e w5 ⟨rfl, hB5⟩; have d0 := (hB5.cell (World.block_lt_of_cell? _ _ e0)).trans e0; have d1 := (hB5.cell (World.block_lt_of_cell? _ _ e1)).trans e1; have d2 := (hB5.cell (World.block_lt_of_cell? _ _ e2)).trans e2; have d3 := (hB5.cell (World.block_lt_of_cell? _ _ a1)).trans a1; have k0 := (blk_cell (blk_below HV.out.2.2 hB5) 0).trans rfl; have k1 := (blk_cell (blk_below HV.out.2.2 hB5) 1).trans rfl; have k2 := (blk_cell (blk_below HV.out.2.2 hB5) 2).trans rfl; have f0 := blk_frozen (blk_below HV.out.2.2 hB5) 0; have f1 := blk_frozen (blk_below HV.out.2.2 hB5) 1; have f2 := blk_frozen (blk_below HV.out.2.2 hB5) 2; have H5 := Lib.hid hB5; clear hB5)))
  go_wp2
  refine bodyPost_ret (results_ct rfl _ _ (w.heap.size + 1 + 1) 44 #[.int .i64 (c), .int .i64 (f), .slice A (l4).length cap] (0, 0) _ rfl (self3_heap (blk_below HV.out.2.2 H5.out)) Try.underlying44 rfl (by kernel_rfl)) rfl ?_
  have hlt := HLT.out
  have hbe5 : Below w0.heap.size w0 _ := (HBe4.out.trans ((drew_below _).mono HBe4.out.size)).trans (H5.out.mono HBe4.out.size)
  exact ⟨b, _, _, _, _, _, rfl, book_far3 ((BookAt.below HBd.out H5.out).more (n := N + 1) (by omega)) (by omega) (by have := HNB.out; omega), ((RowsAt.below HRd.out H5.out).set3 (by simp)).mono (by intro k hk; rcases hk with rfl | hk <;> first | exact .inr (.inl rfl) | exact .inr (.inr (.inr (.inr (.inr hk))))), HREL.out, HLE.out, HBP.out, .inl rfl, below_set3 hbe5 (by have := HBE.out.size; omega), by rw [size3]; have := H5.out.size; have := blk_lt HV.out.1; omega, fun k h1 h2 h3 h4 => (far3_heap (by omega)).trans ((H5.out.block k (by have := blk_lt HV.out.1; omega)).trans (HU.out k h1 h2 h3 h4))⟩

set_option maxHeartbeats 12800000 in
set_option maxRecDepth 100000 in
theorem play_drop {w0 w : World} {g b N : Nat} {c f : Int} {m : Int → Option Int} {u : Value} {rows : List S66} {q : Act4} (hB : Below w0.heap.size w0 w) (hb : BookAt w g b c f m N) {S : Nat → Prop} (hr : RowsAt w0.heap.size w S u rows) (hS : S g ∧ S b) (hrel : Rel rows m) (hlen : rows.length ≤ N) (hbB : w0.heap.size ≤ g ∧ w0.heap.size ≤ b) (hq : ActOk q) (hN : N < 100000) (hk : q.k = 1) :
    Calls Try.prog 22 #[.pointer (some ⟨g, 0, none⟩), .agg #[.int .i64 c, .int .i64 f, u], .agg #[.int .i64 q.k, .int .u32 q.id, .int .u32 q.n, .int .i64 q.want]] w (PlayPost w0 w S g b N) := by
  have kb0 : (q.k == 0) = false := by simp [hk]
  have kb1 : (q.k == 1) = true := by simp [hk]
  have kb2 : (q.k == 2) = false := by simp [hk]
  have kb3 : (q.k == 3) = false := by simp [hk]
  have kb4 : (q.k == 4) = false := by simp [hk]
  clear hk
  obtain ⟨A, cap, rfl, hcap, hC0⟩ := hr.slice
  have hR0 := (hr.fresh)
  have HK := Lib.hid hb
  have HQ := Lib.hid hq
  have HREL0 := Lib.hid hrel
  have HLEN0 := Lib.hid hlen
  have HBE := Lib.hid hB
  have HBB := Lib.hid hbB
  have HLT := Lib.hid hb.lt
  have HRR := Lib.hid hR0
  clear hC0 hR0 hr hb hq hrel hlen hB hbB
  obtain ⟨W, hW⟩ : ∃ W, ((w.alloc (.cells #[.int .i64 c, .int .i64 f, .slice A rows.length cap] 44)).alloc (.cells #[.int .i64 q.k, .int .u32 q.id, .int .u32 q.n, .int .i64 q.want] 33)).alloc (.cells #[.int .i64 0, .int .i64 0, .slice none 0 0] 44) = W := ⟨_, rfl⟩
  have hBW : Below w.heap.size w W := by rw [← hW]; exact (((Below.refl w.heap.size w).alloc (Nat.le_refl _) _).alloc (by simp) _).alloc (by simp; omega) _
  have hs : W.heap.size = w.heap.size + 3 := by rw [← hW]; simp
  have h0 : W.heap[w.heap.size]? = some (.cells #[.int .i64 c, .int .i64 f, .slice A rows.length cap] 44 (0, 0)) := by rw [← hW]; simp only [World.alloc]; exact three0 _ _ _ _
  have h1 : W.heap[w.heap.size + 1]? = some (.cells #[.int .i64 q.k, .int .u32 q.id, .int .u32 q.n, .int .i64 q.want] 33 (0, 0)) := by rw [← hW]; simp only [World.alloc]; exact three1 _ _ _ _
  have h2 : W.heap[w.heap.size + 1 + 1]? = some (.cells #[.int .i64 0, .int .i64 0, .slice none 0 0] 44 (0, 0)) := by rw [← hW]; simp only [World.alloc]; exact three2 _ _ _ _
  have HV := Lib.hid (show _ ∧ _ ∧ _ from ⟨h0, h1, h2⟩)
  have HKW := Lib.hid (BookAt.below HK.out hBW)
  have HRW := Lib.hid (RowsAt.below HRR.out hBW)
  have HBW := Lib.hid (HBE.out.trans (hBW.mono HBE.out.size))
  have HS := Lib.hid hs
  have HUW := Lib.hid (show ∀ k, S k → k < w.heap.size → k ≠ g → k ≠ b → W.heap[k]? = w.heap[k]? from fun k _ hk _ _ => hBW.block k hk)
  have HSS := Lib.hid hS
  clear hBW hs h0 h1 h2 HRR hS
  have t0 := (blk_cell HV.out.2.1 0).trans rfl
  have t1 := (blk_cell HV.out.2.1 1).trans rfl
  have t2 := (blk_cell HV.out.2.1 2).trans rfl
  have t3 := (blk_cell HV.out.2.1 3).trans rfl
  go_enter Try.func22, Try.ntmps22
  go_wp2_with fail
  refine (drop_calls HKW.out q.id HQ.out.id0 HQ.out.id1).mono ?_
  rintro e w2 ⟨rfl, hb2, ho2⟩
  obtain ⟨l4, hf4, hrel4, hlen4⟩ : ∃ l4 : List S66, nuncioref17_Drop.f (rows.length + 1) c f rows q.id = some (c, f, l4) ∧ Rel l4 (del m q.id) ∧ l4.length ≤ rows.length + 1 := ⟨_, drop_f (rows.length + 1) c f q.id rows (by omega) (by have := HLEN0.out; omega), Rel.del HREL0.out q.id, Nat.le_succ_of_le (List.length_filter_le _ rows)⟩
  have HREL := Lib.hid hrel4
  have HLE0 := Lib.hid hlen4
  have HFF := Lib.hid hf4
  clear hrel4 hlen4 hf4
  have HNB := Lib.hid (show b < w.heap.size ∨ w.heap.size + 3 ≤ b from .inl HLT.out.2)
  have HBP := Lib.hid (show w0.heap.size ≤ b from HBB.out.2)
  have HB2 := Lib.hid hb2
  have HR2 := Lib.hid (RowsAt.only HRW.out ho2 (.inl HSS.out.1) (.inl HSS.out.2))
  have HBe2 := Lib.hid (below_only HBW.out ho2 HBB.out.1 HBB.out.2 HBW.out.size)
  have hlt := HLT.out
  have hsz : w.heap.size + 3 ≤ w2.heap.size := by have := ho2.size; have := HS.out; omega
  have HV2 := Lib.hid (show _ ∧ _ ∧ _ from ⟨(ho2.block w.heap.size (by have := HS.out; omega) (by omega) (by omega)).trans HV.out.1, (ho2.block (w.heap.size + 1) (by have := HS.out; omega) (by omega) (by omega)).trans HV.out.2.1, (ho2.block (w.heap.size + 1 + 1) (by have := HS.out; omega) (by omega) (by omega)).trans HV.out.2.2⟩)
  have hT : ∀ k, (fun k => k = g ∨ k = b ∨ k = w.heap.size ∨ k = w.heap.size + 1 ∨ k = w.heap.size + 1 + 1 ∨ (S k ∧ k < w.heap.size)) k → (S k ∨ w.heap.size ≤ k) ∧ k < w2.heap.size := by
    intro k hk
    have := hb2.lt
    have := HNB.out
    rcases hk with rfl | rfl | rfl | rfl | rfl | hk
    all_goals first | exact ⟨.inl HSS.out.1, by omega⟩ | exact ⟨.inl HSS.out.2, by omega⟩ | exact ⟨.inr (by omega), by omega⟩ | exact ⟨.inl hk.1, by omega⟩
  have HT := Lib.hid hT
  have HU2 := Lib.hid (show ∀ k, S k → k < w.heap.size → k ≠ g → k ≠ b → w2.heap[k]? = w.heap[k]? from fun k h1 h2 h3 h4 => (ho2.block k (by have := HS.out; omega) h3 h4).trans (HUW.out k h1 h2 h3 h4))
  clear t0 t1 t2 t3 hb2 ho2 hlt hsz hT HV
  have e0 := (blk_cell HV2.out.1 0).trans rfl
  have e1 := (blk_cell HV2.out.1 1).trans rfl
  have e2 := (blk_cell HV2.out.1 2).trans rfl
  have t1 := (blk_cell HV2.out.2.1 1).trans rfl
  have t2 := (blk_cell HV2.out.2.1 2).trans rfl
  have t3 := (blk_cell HV2.out.2.1 3).trans rfl
  go_wp2_with fail
  refine (drop_ref (T := (fun k => k = g ∨ k = b ∨ k = w.heap.size ∨ k = w.heap.size + 1 ∨ k = w.heap.size + 1 + 1 ∨ (S k ∧ k < w.heap.size))) HR2.out HBe2.out (HFF.out) (fun k hk => (HT.out k hk).2)).mono ?_
  rintro e w3 ⟨u3, rfl, hr3, hbe3, hk3⟩
  obtain ⟨A, cap, rfl, _, _⟩ := hr3.slice
  have HB3 := Lib.hid (HB2.out.kept (hk3 g (by simp)) (hk3 b (by simp)))
  have HR3 := Lib.hid hr3
  have HU3 := Lib.hid (show ∀ k, S k → k < w.heap.size → k ≠ g → k ≠ b → w3.heap[k]? = w.heap[k]? from fun k h1 h2 h3 h4 => (hk3 k (.inr (.inr (.inr (.inr (.inr ⟨h1, h2⟩)))))).trans (HU2.out k h1 h2 h3 h4))
  have HBe3 := Lib.hid hbe3
  have HV3 := Lib.hid (show _ ∧ _ ∧ _ from ⟨(hk3 w.heap.size (by simp)).trans HV2.out.1, (hk3 (w.heap.size + 1) (by simp)).trans HV2.out.2.1, (hk3 (w.heap.size + 1 + 1) (by simp)).trans HV2.out.2.2⟩)
  clear e0 e1 e2 t1 t2 t3 hr3 hbe3 hk3 HV2 HB2 HR2 HBe2 HKW HRW HBW HT
  have e0 := (blk_cell HV3.out.1 0).trans rfl
  have e1 := (blk_cell HV3.out.1 1).trans rfl
  have e2 := (blk_cell HV3.out.1 2).trans rfl
  have y0 := blk_frozen HV3.out.1 0
  have y1 := blk_frozen HV3.out.1 1
  have y2 := blk_frozen HV3.out.1 2
  go_wp2_with fail
  have hlt := HLT.out
  have HB4 := Lib.hid (book_far3 HB3.out (n := w.heap.size) (x := .int .i64 (c)) (y := .int .i64 (f)) (z := .slice A l4.length cap) (by omega) (by have := HNB.out; omega))
  have HR4 := Lib.hid (HR3.out.set3 (n := w.heap.size) (x := .int .i64 (c)) (y := .int .i64 (f)) (z := .slice A l4.length cap) (by simp))
  have HBe4 := Lib.hid (below_set3 (n := w.heap.size) (x := .int .i64 (c)) (y := .int .i64 (f)) (z := .slice A l4.length cap) HBe3.out HBE.out.size)
  have hv0 := self3_heap (x := .int .i64 (c)) (y := .int .i64 (f)) (z := .slice A l4.length cap) HV3.out.1
  have hv1 := (far3_heap (n := w.heap.size) (x := .int .i64 (c)) (y := .int .i64 (f)) (z := .slice A l4.length cap) (by omega)).trans HV3.out.2.1
  have hv2 := (far3_heap (n := w.heap.size) (x := .int .i64 (c)) (y := .int .i64 (f)) (z := .slice A l4.length cap) (by omega)).trans HV3.out.2.2
  have HU := Lib.hid (show ∀ k, S k → k < w.heap.size → k ≠ g → k ≠ b → (((w3.setCell ⟨w.heap.size, 0, none⟩ (.int .i64 (c))).setCell ⟨w.heap.size, 1, none⟩ (.int .i64 (f))).setCell ⟨w.heap.size, 2, none⟩ (.slice A l4.length cap)).heap[k]? = w.heap[k]? from fun k h1 h2 h3 h4 => (far3_heap (by omega)).trans (HU3.out k h1 h2 h3 h4))
  clear e0 e1 e2 y0 y1 y2 HB3 HR3 HBe3 HV3 HU2 HU3 hlt
  have HLE := Lib.hid (Nat.le_trans HLE0.out (Nat.succ_le_succ HLEN0.out))
  have HLEN := Lib.hid (show _ < 500000 from Nat.lt_of_le_of_lt HLE.out (by omega))
  generalize hG : ((w3.setCell ⟨w.heap.size, 0, none⟩ _).setCell ⟨w.heap.size, 1, none⟩ _).setCell ⟨w.heap.size, 2, none⟩ _ = w4 at *
  have e0 := (blk_cell hv0 0).trans rfl
  have e1 := (blk_cell hv0 1).trans rfl
  have e2 := (blk_cell hv0 2).trans rfl
  have a1 := (blk_cell hv1 1).trans rfl
  have z0 := (blk_cell hv2 0).trans rfl
  have z1 := (blk_cell hv2 1).trans rfl
  have z2 := (blk_cell hv2 2).trans rfl
  have y0 := blk_frozen hv2 0
  have y1 := blk_frozen hv2 1
  have y2 := blk_frozen hv2 2
  have HV := Lib.hid (show w4.drew.heap[w.heap.size]? = _ ∧ w4.drew.heap[w.heap.size + 1]? = _ ∧ w4.drew.heap[w.heap.size + 1 + 1]? = _ from ⟨hv0, hv1, hv2⟩)
  clear hv0 hv1 hv2
  have HBd := Lib.hid (BookAt.below HB4.out (drew_below _))
  have HRd := Lib.hid (RowsAt.below HR4.out (drew_below _))
  go_region_held3 (fun w' => w'.cell? ⟨w.heap.size, 0, none⟩ = some (.int .i64 (c)) ∧ w'.cell? ⟨w.heap.size, 1, none⟩ = some (.int .i64 (f)) ∧ w'.cell? ⟨w.heap.size, 2, none⟩ = some (.slice A (l4).length cap) ∧ w'.cell? ⟨w.heap.size + 1, 1, none⟩ = some (.int .u32 q.id)) (first | exact ⟨e0, e1, e2, a1⟩ | exact ⟨d0, d1, d2, d3⟩ | exact ⟨far3 (by show w.heap.size ≠ w.heap.size + 1 + 1; omega) d0, far3 (by show w.heap.size ≠ w.heap.size + 1 + 1; omega) d1, far3 (by show w.heap.size ≠ w.heap.size + 1 + 1; omega) d2, far3 (by show w.heap.size + 1 ≠ w.heap.size + 1 + 1; omega) d3⟩ | go_keep)
    (first | (go_at_call 32; go_must (refine (same_ref HBd.out HRd.out HREL.out HLEN.out q.id HQ.out.id0 HQ.out.id1).mono ?_; rintro e w5 ⟨rfl, hB5⟩; have d0 := (hB5.cell (World.block_lt_of_cell? _ _ e0)).trans e0; have d1 := (hB5.cell (World.block_lt_of_cell? _ _ e1)).trans e1; have d2 := (hB5.cell (World.block_lt_of_cell? _ _ e2)).trans e2; have d3 := (hB5.cell (World.block_lt_of_cell? _ _ a1)).trans a1; have k0 := (blk_cell (blk_below HV.out.2.2 hB5) 0).trans rfl; have k1 := (blk_cell (blk_below HV.out.2.2 hB5) 1).trans rfl; have k2 := (blk_cell (blk_below HV.out.2.2 hB5) 2).trans rfl; have f0 := blk_frozen (blk_below HV.out.2.2 hB5) 0; have f1 := blk_frozen (blk_below HV.out.2.2 hB5) 1; have f2 := blk_frozen (blk_below HV.out.2.2 hB5) 2; have H5 := Lib.hid hB5; clear hB5)))
  go_wp2
  refine bodyPost_ret (results_ct rfl _ _ (w.heap.size + 1 + 1) 44 #[.int .i64 (c), .int .i64 (f), .slice A (l4).length cap] (0, 0) _ rfl (self3_heap (blk_below HV.out.2.2 H5.out)) Try.underlying44 rfl (by kernel_rfl)) rfl ?_
  have hlt := HLT.out
  have hbe5 : Below w0.heap.size w0 _ := (HBe4.out.trans ((drew_below _).mono HBe4.out.size)).trans (H5.out.mono HBe4.out.size)
  exact ⟨b, _, _, _, _, _, rfl, book_far3 ((BookAt.below HBd.out H5.out).more (n := N + 1) (by omega)) (by omega) (by have := HNB.out; omega), ((RowsAt.below HRd.out H5.out).set3 (by simp)).mono (by intro k hk; rcases hk with rfl | hk <;> first | exact .inr (.inl rfl) | exact .inr (.inr (.inr (.inr (.inr hk))))), HREL.out, HLE.out, HBP.out, .inl rfl, below_set3 hbe5 (by have := HBE.out.size; omega), by rw [size3]; have := H5.out.size; have := blk_lt HV.out.1; omega, fun k h1 h2 h3 h4 => (far3_heap (by omega)).trans ((H5.out.block k (by have := blk_lt HV.out.1; omega)).trans (HU.out k h1 h2 h3 h4))⟩

set_option maxHeartbeats 12800000 in
set_option maxRecDepth 100000 in
theorem play_grow {w0 w : World} {g b N : Nat} {c f : Int} {m : Int → Option Int} {u : Value} {rows : List S66} {q : Act4} (hB : Below w0.heap.size w0 w) (hb : BookAt w g b c f m N) {S : Nat → Prop} (hr : RowsAt w0.heap.size w S u rows) (hS : S g ∧ S b) (hrel : Rel rows m) (hlen : rows.length ≤ N) (hbB : w0.heap.size ≤ g ∧ w0.heap.size ≤ b) (hq : ActOk q) (hN : N < 100000) (hk : q.k = 2) :
    Calls Try.prog 22 #[.pointer (some ⟨g, 0, none⟩), .agg #[.int .i64 c, .int .i64 f, u], .agg #[.int .i64 q.k, .int .u32 q.id, .int .u32 q.n, .int .i64 q.want]] w (PlayPost w0 w S g b N) := by
  have kb0 : (q.k == 0) = false := by simp [hk]
  have kb1 : (q.k == 1) = false := by simp [hk]
  have kb2 : (q.k == 2) = true := by simp [hk]
  have kb3 : (q.k == 3) = false := by simp [hk]
  have kb4 : (q.k == 4) = false := by simp [hk]
  clear hk
  obtain ⟨A, cap, rfl, hcap, hC0⟩ := hr.slice
  have hR0 := (hr.fresh)
  have HK := Lib.hid hb
  have HQ := Lib.hid hq
  have HREL0 := Lib.hid hrel
  have HLEN0 := Lib.hid hlen
  have HBE := Lib.hid hB
  have HBB := Lib.hid hbB
  have HLT := Lib.hid hb.lt
  have HRR := Lib.hid hR0
  clear hC0 hR0 hr hb hq hrel hlen hB hbB
  obtain ⟨W, hW⟩ : ∃ W, ((w.alloc (.cells #[.int .i64 c, .int .i64 f, .slice A rows.length cap] 44)).alloc (.cells #[.int .i64 q.k, .int .u32 q.id, .int .u32 q.n, .int .i64 q.want] 33)).alloc (.cells #[.int .i64 0, .int .i64 0, .slice none 0 0] 44) = W := ⟨_, rfl⟩
  have hBW : Below w.heap.size w W := by rw [← hW]; exact (((Below.refl w.heap.size w).alloc (Nat.le_refl _) _).alloc (by simp) _).alloc (by simp; omega) _
  have hs : W.heap.size = w.heap.size + 3 := by rw [← hW]; simp
  have h0 : W.heap[w.heap.size]? = some (.cells #[.int .i64 c, .int .i64 f, .slice A rows.length cap] 44 (0, 0)) := by rw [← hW]; simp only [World.alloc]; exact three0 _ _ _ _
  have h1 : W.heap[w.heap.size + 1]? = some (.cells #[.int .i64 q.k, .int .u32 q.id, .int .u32 q.n, .int .i64 q.want] 33 (0, 0)) := by rw [← hW]; simp only [World.alloc]; exact three1 _ _ _ _
  have h2 : W.heap[w.heap.size + 1 + 1]? = some (.cells #[.int .i64 0, .int .i64 0, .slice none 0 0] 44 (0, 0)) := by rw [← hW]; simp only [World.alloc]; exact three2 _ _ _ _
  have HV := Lib.hid (show _ ∧ _ ∧ _ from ⟨h0, h1, h2⟩)
  have HKW := Lib.hid (BookAt.below HK.out hBW)
  have HRW := Lib.hid (RowsAt.below HRR.out hBW)
  have HBW := Lib.hid (HBE.out.trans (hBW.mono HBE.out.size))
  have HS := Lib.hid hs
  have HUW := Lib.hid (show ∀ k, S k → k < w.heap.size → k ≠ g → k ≠ b → W.heap[k]? = w.heap[k]? from fun k _ hk _ _ => hBW.block k hk)
  have HSS := Lib.hid hS
  clear hBW hs h0 h1 h2 HRR hS
  have t0 := (blk_cell HV.out.2.1 0).trans rfl
  have t1 := (blk_cell HV.out.2.1 1).trans rfl
  have t2 := (blk_cell HV.out.2.1 2).trans rfl
  have t3 := (blk_cell HV.out.2.1 3).trans rfl
  go_enter Try.func22, Try.ntmps22
  go_wp2_with fail
  obtain ⟨r, c2, m2, hr2⟩ : ∃ r c2 m2, growR c m q.id q.n = (r, c2, m2) := ⟨_, _, _, rfl⟩
  obtain ⟨l2, hf2, hrel2, hlen2⟩ := grow_f (rows.length + 1) c f q.id q.n rows m HREL0.out (by omega) (by have := HLEN0.out; omega) HQ.out.id0 HQ.out.id1 HQ.out.n0 HQ.out.n1
  have hrr : r = 0 ∨ r = 3 := by have := grow_codes c m q.id q.n; rw [hr2] at this; exact this
  have hrw : IntKind.i64.wrap r = r := by rcases hrr with rfl | rfl <;> rfl
  clear hrr
  have hcall := fun hN => grow_calls HKW.out q.id q.n HQ.out.id0 HQ.out.id1 HQ.out.n0 HQ.out.n1 hN
  rw [hr2] at hf2 hrel2 hcall
  have HF2 := Lib.hid hf2
  have HREL2 := Lib.hid hrel2
  have HL2 := Lib.hid hlen2
  clear hf2 hrel2 hlen2 hr2
  refine (hcall (by omega)).mono ?_
  clear hcall
  rintro e w2 ⟨rfl, hb2, ho2⟩
  obtain ⟨l4, hf4, hrel4, hlen4⟩ : ∃ l4 : List S66, nuncioref17_Grow.f (rows.length + 1) c f rows q.id q.n = some (c2, f, l4, r) ∧ Rel l4 (m2) ∧ l4.length ≤ rows.length + 1 := ⟨_, HF2.out, HREL2.out, HL2.out⟩
  have HREL := Lib.hid hrel4
  have HLE0 := Lib.hid hlen4
  have HFF := Lib.hid hf4
  clear hrel4 hlen4 hf4
  have HNB := Lib.hid (show b < w.heap.size ∨ w.heap.size + 3 ≤ b from .inl HLT.out.2)
  have HBP := Lib.hid (show w0.heap.size ≤ b from HBB.out.2)
  have HB2 := Lib.hid hb2
  have HR2 := Lib.hid (RowsAt.only HRW.out ho2 (.inl HSS.out.1) (.inl HSS.out.2))
  have HBe2 := Lib.hid (below_only HBW.out ho2 HBB.out.1 HBB.out.2 HBW.out.size)
  have hlt := HLT.out
  have hsz : w.heap.size + 3 ≤ w2.heap.size := by have := ho2.size; have := HS.out; omega
  have HV2 := Lib.hid (show _ ∧ _ ∧ _ from ⟨(ho2.block w.heap.size (by have := HS.out; omega) (by omega) (by omega)).trans HV.out.1, (ho2.block (w.heap.size + 1) (by have := HS.out; omega) (by omega) (by omega)).trans HV.out.2.1, (ho2.block (w.heap.size + 1 + 1) (by have := HS.out; omega) (by omega) (by omega)).trans HV.out.2.2⟩)
  have hT : ∀ k, (fun k => k = g ∨ k = b ∨ k = w.heap.size ∨ k = w.heap.size + 1 ∨ k = w.heap.size + 1 + 1 ∨ (S k ∧ k < w.heap.size)) k → (S k ∨ w.heap.size ≤ k) ∧ k < w2.heap.size := by
    intro k hk
    have := hb2.lt
    have := HNB.out
    rcases hk with rfl | rfl | rfl | rfl | rfl | hk
    all_goals first | exact ⟨.inl HSS.out.1, by omega⟩ | exact ⟨.inl HSS.out.2, by omega⟩ | exact ⟨.inr (by omega), by omega⟩ | exact ⟨.inl hk.1, by omega⟩
  have HT := Lib.hid hT
  have HU2 := Lib.hid (show ∀ k, S k → k < w.heap.size → k ≠ g → k ≠ b → w2.heap[k]? = w.heap[k]? from fun k h1 h2 h3 h4 => (ho2.block k (by have := HS.out; omega) h3 h4).trans (HUW.out k h1 h2 h3 h4))
  clear t0 t1 t2 t3 hb2 ho2 hlt hsz hT HV
  have e0 := (blk_cell HV2.out.1 0).trans rfl
  have e1 := (blk_cell HV2.out.1 1).trans rfl
  have e2 := (blk_cell HV2.out.1 2).trans rfl
  have t1 := (blk_cell HV2.out.2.1 1).trans rfl
  have t2 := (blk_cell HV2.out.2.1 2).trans rfl
  have t3 := (blk_cell HV2.out.2.1 3).trans rfl
  go_wp2_with fail
  refine (grow_ref (T := (fun k => k = g ∨ k = b ∨ k = w.heap.size ∨ k = w.heap.size + 1 ∨ k = w.heap.size + 1 + 1 ∨ (S k ∧ k < w.heap.size))) HR2.out HBe2.out (HFF.out) HT.out).mono ?_
  rintro e w3 ⟨u3, rfl, hr3, hbe3, hk3⟩
  obtain ⟨A, cap, rfl, _, _⟩ := hr3.slice
  have HB3 := Lib.hid (HB2.out.kept (hk3 g (by simp)) (hk3 b (by simp)))
  have HR3 := Lib.hid hr3
  have HU3 := Lib.hid (show ∀ k, S k → k < w.heap.size → k ≠ g → k ≠ b → w3.heap[k]? = w.heap[k]? from fun k h1 h2 h3 h4 => (hk3 k (.inr (.inr (.inr (.inr (.inr ⟨h1, h2⟩)))))).trans (HU2.out k h1 h2 h3 h4))
  have HBe3 := Lib.hid hbe3
  have HV3 := Lib.hid (show _ ∧ _ ∧ _ from ⟨(hk3 w.heap.size (by simp)).trans HV2.out.1, (hk3 (w.heap.size + 1) (by simp)).trans HV2.out.2.1, (hk3 (w.heap.size + 1 + 1) (by simp)).trans HV2.out.2.2⟩)
  clear e0 e1 e2 t1 t2 t3 hr3 hbe3 hk3 HV2 HB2 HR2 HBe2 HKW HRW HBW HT
  have e0 := (blk_cell HV3.out.1 0).trans rfl
  have e1 := (blk_cell HV3.out.1 1).trans rfl
  have e2 := (blk_cell HV3.out.1 2).trans rfl
  have y0 := blk_frozen HV3.out.1 0
  have y1 := blk_frozen HV3.out.1 1
  have y2 := blk_frozen HV3.out.1 2
  go_wp2_with fail
  have hlt := HLT.out
  have HB4 := Lib.hid (book_far3 HB3.out (n := w.heap.size) (x := .int .i64 (c2)) (y := .int .i64 (f)) (z := .slice A l4.length cap) (by omega) (by have := HNB.out; omega))
  have HR4 := Lib.hid (HR3.out.set3 (n := w.heap.size) (x := .int .i64 (c2)) (y := .int .i64 (f)) (z := .slice A l4.length cap) (by simp))
  have HBe4 := Lib.hid (below_set3 (n := w.heap.size) (x := .int .i64 (c2)) (y := .int .i64 (f)) (z := .slice A l4.length cap) HBe3.out HBE.out.size)
  have hv0 := self3_heap (x := .int .i64 (c2)) (y := .int .i64 (f)) (z := .slice A l4.length cap) HV3.out.1
  have hv1 := (far3_heap (n := w.heap.size) (x := .int .i64 (c2)) (y := .int .i64 (f)) (z := .slice A l4.length cap) (by omega)).trans HV3.out.2.1
  have hv2 := (far3_heap (n := w.heap.size) (x := .int .i64 (c2)) (y := .int .i64 (f)) (z := .slice A l4.length cap) (by omega)).trans HV3.out.2.2
  have HU := Lib.hid (show ∀ k, S k → k < w.heap.size → k ≠ g → k ≠ b → (((w3.setCell ⟨w.heap.size, 0, none⟩ (.int .i64 (c2))).setCell ⟨w.heap.size, 1, none⟩ (.int .i64 (f))).setCell ⟨w.heap.size, 2, none⟩ (.slice A l4.length cap)).heap[k]? = w.heap[k]? from fun k h1 h2 h3 h4 => (far3_heap (by omega)).trans (HU3.out k h1 h2 h3 h4))
  clear e0 e1 e2 y0 y1 y2 HB3 HR3 HBe3 HV3 HU2 HU3 hlt
  have HLE := Lib.hid (Nat.le_trans HLE0.out (Nat.succ_le_succ HLEN0.out))
  have HLEN := Lib.hid (show _ < 500000 from Nat.lt_of_le_of_lt HLE.out (by omega))
  generalize hG : ((w3.setCell ⟨w.heap.size, 0, none⟩ _).setCell ⟨w.heap.size, 1, none⟩ _).setCell ⟨w.heap.size, 2, none⟩ _ = w4 at *
  have e0 := (blk_cell hv0 0).trans rfl
  have e1 := (blk_cell hv0 1).trans rfl
  have e2 := (blk_cell hv0 2).trans rfl
  have a1 := (blk_cell hv1 1).trans rfl
  have z0 := (blk_cell hv2 0).trans rfl
  have z1 := (blk_cell hv2 1).trans rfl
  have z2 := (blk_cell hv2 2).trans rfl
  have y0 := blk_frozen hv2 0
  have y1 := blk_frozen hv2 1
  have y2 := blk_frozen hv2 2
  have HV := Lib.hid (show w4.drew.heap[w.heap.size]? = _ ∧ w4.drew.heap[w.heap.size + 1]? = _ ∧ w4.drew.heap[w.heap.size + 1 + 1]? = _ from ⟨hv0, hv1, hv2⟩)
  clear hv0 hv1 hv2
  have HBd := Lib.hid (BookAt.below HB4.out (drew_below _))
  have HRd := Lib.hid (RowsAt.below HR4.out (drew_below _))
  go_region_held3 (fun w' => w'.cell? ⟨w.heap.size, 0, none⟩ = some (.int .i64 (c2)) ∧ w'.cell? ⟨w.heap.size, 1, none⟩ = some (.int .i64 (f)) ∧ w'.cell? ⟨w.heap.size, 2, none⟩ = some (.slice A (l4).length cap) ∧ w'.cell? ⟨w.heap.size + 1, 1, none⟩ = some (.int .u32 q.id)) (first | exact ⟨e0, e1, e2, a1⟩ | exact ⟨d0, d1, d2, d3⟩ | exact ⟨far3 (by show w.heap.size ≠ w.heap.size + 1 + 1; omega) d0, far3 (by show w.heap.size ≠ w.heap.size + 1 + 1; omega) d1, far3 (by show w.heap.size ≠ w.heap.size + 1 + 1; omega) d2, far3 (by show w.heap.size + 1 ≠ w.heap.size + 1 + 1; omega) d3⟩ | go_keep)
    (first | (go_at_call 32; go_must (refine (same_ref HBd.out HRd.out HREL.out HLEN.out q.id HQ.out.id0 HQ.out.id1).mono ?_; rintro e w5 ⟨rfl, hB5⟩; have d0 := (hB5.cell (World.block_lt_of_cell? _ _ e0)).trans e0; have d1 := (hB5.cell (World.block_lt_of_cell? _ _ e1)).trans e1; have d2 := (hB5.cell (World.block_lt_of_cell? _ _ e2)).trans e2; have d3 := (hB5.cell (World.block_lt_of_cell? _ _ a1)).trans a1; have k0 := (blk_cell (blk_below HV.out.2.2 hB5) 0).trans rfl; have k1 := (blk_cell (blk_below HV.out.2.2 hB5) 1).trans rfl; have k2 := (blk_cell (blk_below HV.out.2.2 hB5) 2).trans rfl; have f0 := blk_frozen (blk_below HV.out.2.2 hB5) 0; have f1 := blk_frozen (blk_below HV.out.2.2 hB5) 1; have f2 := blk_frozen (blk_below HV.out.2.2 hB5) 2; have H5 := Lib.hid hB5; clear hB5)))
  go_wp2
  refine bodyPost_ret (results_ct rfl _ _ (w.heap.size + 1 + 1) 44 #[.int .i64 (c2), .int .i64 (f), .slice A (l4).length cap] (0, 0) _ rfl (self3_heap (blk_below HV.out.2.2 H5.out)) Try.underlying44 rfl (by kernel_rfl)) rfl ?_
  have hlt := HLT.out
  have hbe5 : Below w0.heap.size w0 _ := (HBe4.out.trans ((drew_below _).mono HBe4.out.size)).trans (H5.out.mono HBe4.out.size)
  exact ⟨b, _, _, _, _, _, rfl, book_far3 ((BookAt.below HBd.out H5.out).more (n := N + 1) (by omega)) (by omega) (by have := HNB.out; omega), ((RowsAt.below HRd.out H5.out).set3 (by simp)).mono (by intro k hk; rcases hk with rfl | hk <;> first | exact .inr (.inl rfl) | exact .inr (.inr (.inr (.inr (.inr hk))))), HREL.out, HLE.out, HBP.out, .inl rfl, below_set3 hbe5 (by have := HBE.out.size; omega), by rw [size3]; have := H5.out.size; have := blk_lt HV.out.1; omega, fun k h1 h2 h3 h4 => (far3_heap (by omega)).trans ((H5.out.block k (by have := blk_lt HV.out.1; omega)).trans (HU.out k h1 h2 h3 h4))⟩

set_option maxHeartbeats 12800000 in
set_option maxRecDepth 100000 in
theorem play_initial {w0 w : World} {g b N : Nat} {c f : Int} {m : Int → Option Int} {u : Value} {rows : List S66} {q : Act4} (hB : Below w0.heap.size w0 w) (hb : BookAt w g b c f m N) {S : Nat → Prop} (hr : RowsAt w0.heap.size w S u rows) (hS : S g ∧ S b) (hrel : Rel rows m) (hlen : rows.length ≤ N) (hbB : w0.heap.size ≤ g ∧ w0.heap.size ≤ b) (hq : ActOk q) (hN : N < 100000) (hk : q.k = 3) :
    Calls Try.prog 22 #[.pointer (some ⟨g, 0, none⟩), .agg #[.int .i64 c, .int .i64 f, u], .agg #[.int .i64 q.k, .int .u32 q.id, .int .u32 q.n, .int .i64 q.want]] w (PlayPost w0 w S g b N) := by
  have kb0 : (q.k == 0) = false := by simp [hk]
  have kb1 : (q.k == 1) = false := by simp [hk]
  have kb2 : (q.k == 2) = false := by simp [hk]
  have kb3 : (q.k == 3) = true := by simp [hk]
  have kb4 : (q.k == 4) = false := by simp [hk]
  clear hk
  obtain ⟨A, cap, rfl, hcap, hC0⟩ := hr.slice
  have hR0 := (hr.fresh)
  have HK := Lib.hid hb
  have HQ := Lib.hid hq
  have HREL0 := Lib.hid hrel
  have HLEN0 := Lib.hid hlen
  have HBE := Lib.hid hB
  have HBB := Lib.hid hbB
  have HLT := Lib.hid hb.lt
  have HRR := Lib.hid hR0
  clear hC0 hR0 hr hb hq hrel hlen hB hbB
  obtain ⟨W, hW⟩ : ∃ W, ((w.alloc (.cells #[.int .i64 c, .int .i64 f, .slice A rows.length cap] 44)).alloc (.cells #[.int .i64 q.k, .int .u32 q.id, .int .u32 q.n, .int .i64 q.want] 33)).alloc (.cells #[.int .i64 0, .int .i64 0, .slice none 0 0] 44) = W := ⟨_, rfl⟩
  have hBW : Below w.heap.size w W := by rw [← hW]; exact (((Below.refl w.heap.size w).alloc (Nat.le_refl _) _).alloc (by simp) _).alloc (by simp; omega) _
  have hs : W.heap.size = w.heap.size + 3 := by rw [← hW]; simp
  have h0 : W.heap[w.heap.size]? = some (.cells #[.int .i64 c, .int .i64 f, .slice A rows.length cap] 44 (0, 0)) := by rw [← hW]; simp only [World.alloc]; exact three0 _ _ _ _
  have h1 : W.heap[w.heap.size + 1]? = some (.cells #[.int .i64 q.k, .int .u32 q.id, .int .u32 q.n, .int .i64 q.want] 33 (0, 0)) := by rw [← hW]; simp only [World.alloc]; exact three1 _ _ _ _
  have h2 : W.heap[w.heap.size + 1 + 1]? = some (.cells #[.int .i64 0, .int .i64 0, .slice none 0 0] 44 (0, 0)) := by rw [← hW]; simp only [World.alloc]; exact three2 _ _ _ _
  have HV := Lib.hid (show _ ∧ _ ∧ _ from ⟨h0, h1, h2⟩)
  have HKW := Lib.hid (BookAt.below HK.out hBW)
  have HRW := Lib.hid (RowsAt.below HRR.out hBW)
  have HBW := Lib.hid (HBE.out.trans (hBW.mono HBE.out.size))
  have HS := Lib.hid hs
  have HUW := Lib.hid (show ∀ k, S k → k < w.heap.size → k ≠ g → k ≠ b → W.heap[k]? = w.heap[k]? from fun k _ hk _ _ => hBW.block k hk)
  have HSS := Lib.hid hS
  clear hBW hs h0 h1 h2 HRR hS
  have t0 := (blk_cell HV.out.2.1 0).trans rfl
  have t1 := (blk_cell HV.out.2.1 1).trans rfl
  have t2 := (blk_cell HV.out.2.1 2).trans rfl
  have t3 := (blk_cell HV.out.2.1 3).trans rfl
  go_enter Try.func22, Try.ntmps22
  go_wp2_with fail
  refine (initial_calls HKW.out q.n HQ.out.n0 HQ.out.n1 (by omega)).mono ?_
  intro e w2 h6
  rcases h6 with ⟨rfl, hb2, ho2, hbad⟩ | ⟨b2, rfl, hb2, ho2, hb3, hn, hall⟩
  · as_aux_lemma =>
      have HF2 := Lib.hid (init_f_bad (rows.length + 1) c f q.n rows m HREL0.out (by omega) (by have := HLEN0.out; omega) HQ.out.n0 HQ.out.n1 hbad)
      clear hbad
      obtain ⟨l4, hf4, hrel4, hlen4⟩ : ∃ l4 : List S66, nuncioref17_Initial.f (rows.length + 1) c f rows q.n = some (c, f, l4, 3) ∧ Rel l4 (m) ∧ l4.length ≤ rows.length + 1 := ⟨_, HF2.out, HREL0.out, Nat.le_succ _⟩
      have HREL := Lib.hid hrel4
      have HLE0 := Lib.hid hlen4
      have HFF := Lib.hid hf4
      clear hrel4 hlen4 hf4
      have HNB := Lib.hid (show b < w.heap.size ∨ w.heap.size + 3 ≤ b from .inl HLT.out.2)
      have HBP := Lib.hid (show w0.heap.size ≤ b from HBB.out.2)
      have HB2 := Lib.hid hb2
      have HR2 := Lib.hid (RowsAt.only HRW.out ho2 (.inl HSS.out.1) (.inl HSS.out.2))
      have HBe2 := Lib.hid (below_only HBW.out ho2 HBB.out.1 HBB.out.2 HBW.out.size)
      have hlt := HLT.out
      have hsz : w.heap.size + 3 ≤ w2.heap.size := by have := ho2.size; have := HS.out; omega
      have HV2 := Lib.hid (show _ ∧ _ ∧ _ from ⟨(ho2.block w.heap.size (by have := HS.out; omega) (by omega) (by omega)).trans HV.out.1, (ho2.block (w.heap.size + 1) (by have := HS.out; omega) (by omega) (by omega)).trans HV.out.2.1, (ho2.block (w.heap.size + 1 + 1) (by have := HS.out; omega) (by omega) (by omega)).trans HV.out.2.2⟩)
      have hT : ∀ k, (fun k => k = g ∨ k = b ∨ k = w.heap.size ∨ k = w.heap.size + 1 ∨ k = w.heap.size + 1 + 1 ∨ (S k ∧ k < w.heap.size)) k → (S k ∨ w.heap.size ≤ k) ∧ k < w2.heap.size := by
        intro k hk
        have := hb2.lt
        have := HNB.out
        rcases hk with rfl | rfl | rfl | rfl | rfl | hk
        all_goals first | exact ⟨.inl HSS.out.1, by omega⟩ | exact ⟨.inl HSS.out.2, by omega⟩ | exact ⟨.inr (by omega), by omega⟩ | exact ⟨.inl hk.1, by omega⟩
      have HT := Lib.hid hT
      have HU2 := Lib.hid (show ∀ k, S k → k < w.heap.size → k ≠ g → k ≠ b → w2.heap[k]? = w.heap[k]? from fun k h1 h2 h3 h4 => (ho2.block k (by have := HS.out; omega) h3 h4).trans (HUW.out k h1 h2 h3 h4))
      clear t0 t1 t2 t3 hb2 ho2 hlt hsz hT HV
      have e0 := (blk_cell HV2.out.1 0).trans rfl
      have e1 := (blk_cell HV2.out.1 1).trans rfl
      have e2 := (blk_cell HV2.out.1 2).trans rfl
      have t1 := (blk_cell HV2.out.2.1 1).trans rfl
      have t2 := (blk_cell HV2.out.2.1 2).trans rfl
      have t3 := (blk_cell HV2.out.2.1 3).trans rfl
      go_wp2_with fail
      refine (initial_ref (T := (fun k => k = g ∨ k = b ∨ k = w.heap.size ∨ k = w.heap.size + 1 ∨ k = w.heap.size + 1 + 1 ∨ (S k ∧ k < w.heap.size))) HR2.out HBe2.out (HFF.out) HT.out).mono ?_
      rintro e w3 ⟨u3, rfl, hr3, hbe3, hk3⟩
      obtain ⟨A, cap, rfl, _, _⟩ := hr3.slice
      have HB3 := Lib.hid (HB2.out.kept (hk3 g (by simp)) (hk3 b (by simp)))
      have HR3 := Lib.hid hr3
      have HU3 := Lib.hid (show ∀ k, S k → k < w.heap.size → k ≠ g → k ≠ b → w3.heap[k]? = w.heap[k]? from fun k h1 h2 h3 h4 => (hk3 k (.inr (.inr (.inr (.inr (.inr ⟨h1, h2⟩)))))).trans (HU2.out k h1 h2 h3 h4))
      have HBe3 := Lib.hid hbe3
      have HV3 := Lib.hid (show _ ∧ _ ∧ _ from ⟨(hk3 w.heap.size (by simp)).trans HV2.out.1, (hk3 (w.heap.size + 1) (by simp)).trans HV2.out.2.1, (hk3 (w.heap.size + 1 + 1) (by simp)).trans HV2.out.2.2⟩)
      clear e0 e1 e2 t1 t2 t3 hr3 hbe3 hk3 HV2 HB2 HR2 HBe2 HKW HRW HBW HT
      have e0 := (blk_cell HV3.out.1 0).trans rfl
      have e1 := (blk_cell HV3.out.1 1).trans rfl
      have e2 := (blk_cell HV3.out.1 2).trans rfl
      have y0 := blk_frozen HV3.out.1 0
      have y1 := blk_frozen HV3.out.1 1
      have y2 := blk_frozen HV3.out.1 2
      go_wp2_with fail
      have hlt := HLT.out
      have HB4 := Lib.hid (book_far3 HB3.out (n := w.heap.size) (x := .int .i64 (c)) (y := .int .i64 (f)) (z := .slice A l4.length cap) (by omega) (by have := HNB.out; omega))
      have HR4 := Lib.hid (HR3.out.set3 (n := w.heap.size) (x := .int .i64 (c)) (y := .int .i64 (f)) (z := .slice A l4.length cap) (by simp))
      have HBe4 := Lib.hid (below_set3 (n := w.heap.size) (x := .int .i64 (c)) (y := .int .i64 (f)) (z := .slice A l4.length cap) HBe3.out HBE.out.size)
      have hv0 := self3_heap (x := .int .i64 (c)) (y := .int .i64 (f)) (z := .slice A l4.length cap) HV3.out.1
      have hv1 := (far3_heap (n := w.heap.size) (x := .int .i64 (c)) (y := .int .i64 (f)) (z := .slice A l4.length cap) (by omega)).trans HV3.out.2.1
      have hv2 := (far3_heap (n := w.heap.size) (x := .int .i64 (c)) (y := .int .i64 (f)) (z := .slice A l4.length cap) (by omega)).trans HV3.out.2.2
      have HU := Lib.hid (show ∀ k, S k → k < w.heap.size → k ≠ g → k ≠ b → (((w3.setCell ⟨w.heap.size, 0, none⟩ (.int .i64 (c))).setCell ⟨w.heap.size, 1, none⟩ (.int .i64 (f))).setCell ⟨w.heap.size, 2, none⟩ (.slice A l4.length cap)).heap[k]? = w.heap[k]? from fun k h1 h2 h3 h4 => (far3_heap (by omega)).trans (HU3.out k h1 h2 h3 h4))
      clear e0 e1 e2 y0 y1 y2 HB3 HR3 HBe3 HV3 HU2 HU3 hlt
      have HLE := Lib.hid (Nat.le_trans HLE0.out (Nat.succ_le_succ HLEN0.out))
      have HLEN := Lib.hid (show _ < 500000 from Nat.lt_of_le_of_lt HLE.out (by omega))
      generalize hG : ((w3.setCell ⟨w.heap.size, 0, none⟩ _).setCell ⟨w.heap.size, 1, none⟩ _).setCell ⟨w.heap.size, 2, none⟩ _ = w4 at *
      have e0 := (blk_cell hv0 0).trans rfl
      have e1 := (blk_cell hv0 1).trans rfl
      have e2 := (blk_cell hv0 2).trans rfl
      have a1 := (blk_cell hv1 1).trans rfl
      have z0 := (blk_cell hv2 0).trans rfl
      have z1 := (blk_cell hv2 1).trans rfl
      have z2 := (blk_cell hv2 2).trans rfl
      have y0 := blk_frozen hv2 0
      have y1 := blk_frozen hv2 1
      have y2 := blk_frozen hv2 2
      have HV := Lib.hid (show w4.drew.heap[w.heap.size]? = _ ∧ w4.drew.heap[w.heap.size + 1]? = _ ∧ w4.drew.heap[w.heap.size + 1 + 1]? = _ from ⟨hv0, hv1, hv2⟩)
      clear hv0 hv1 hv2
      have HBd := Lib.hid (BookAt.below HB4.out (drew_below _))
      have HRd := Lib.hid (RowsAt.below HR4.out (drew_below _))
      go_region_held3 (fun w' => w'.cell? ⟨w.heap.size, 0, none⟩ = some (.int .i64 (c)) ∧ w'.cell? ⟨w.heap.size, 1, none⟩ = some (.int .i64 (f)) ∧ w'.cell? ⟨w.heap.size, 2, none⟩ = some (.slice A (l4).length cap) ∧ w'.cell? ⟨w.heap.size + 1, 1, none⟩ = some (.int .u32 q.id)) (first | exact ⟨e0, e1, e2, a1⟩ | exact ⟨d0, d1, d2, d3⟩ | exact ⟨far3 (by show w.heap.size ≠ w.heap.size + 1 + 1; omega) d0, far3 (by show w.heap.size ≠ w.heap.size + 1 + 1; omega) d1, far3 (by show w.heap.size ≠ w.heap.size + 1 + 1; omega) d2, far3 (by show w.heap.size + 1 ≠ w.heap.size + 1 + 1; omega) d3⟩ | go_keep)
        (first | (go_at_call 32; go_must (refine (same_ref HBd.out HRd.out HREL.out HLEN.out q.id HQ.out.id0 HQ.out.id1).mono ?_; rintro e w5 ⟨rfl, hB5⟩; have d0 := (hB5.cell (World.block_lt_of_cell? _ _ e0)).trans e0; have d1 := (hB5.cell (World.block_lt_of_cell? _ _ e1)).trans e1; have d2 := (hB5.cell (World.block_lt_of_cell? _ _ e2)).trans e2; have d3 := (hB5.cell (World.block_lt_of_cell? _ _ a1)).trans a1; have k0 := (blk_cell (blk_below HV.out.2.2 hB5) 0).trans rfl; have k1 := (blk_cell (blk_below HV.out.2.2 hB5) 1).trans rfl; have k2 := (blk_cell (blk_below HV.out.2.2 hB5) 2).trans rfl; have f0 := blk_frozen (blk_below HV.out.2.2 hB5) 0; have f1 := blk_frozen (blk_below HV.out.2.2 hB5) 1; have f2 := blk_frozen (blk_below HV.out.2.2 hB5) 2; have H5 := Lib.hid hB5; clear hB5)))
      go_wp2
      refine bodyPost_ret (results_ct rfl _ _ (w.heap.size + 1 + 1) 44 #[.int .i64 (c), .int .i64 (f), .slice A (l4).length cap] (0, 0) _ rfl (self3_heap (blk_below HV.out.2.2 H5.out)) Try.underlying44 rfl (by kernel_rfl)) rfl ?_
      have hlt := HLT.out
      have hbe5 : Below w0.heap.size w0 _ := (HBe4.out.trans ((drew_below _).mono HBe4.out.size)).trans (H5.out.mono HBe4.out.size)
      exact ⟨b, _, _, _, _, _, rfl, book_far3 ((BookAt.below HBd.out H5.out).more (n := N + 1) (by omega)) (by omega) (by have := HNB.out; omega), ((RowsAt.below HRd.out H5.out).set3 (by simp)).mono (by intro k hk; rcases hk with rfl | hk <;> first | exact .inr (.inl rfl) | exact .inr (.inr (.inr (.inr (.inr hk))))), HREL.out, HLE.out, HBP.out, .inl rfl, below_set3 hbe5 (by have := HBE.out.size; omega), by rw [size3]; have := H5.out.size; have := blk_lt HV.out.1; omega, fun k h1 h2 h3 h4 => (far3_heap (by omega)).trans ((H5.out.block k (by have := blk_lt HV.out.1; omega)).trans (HU.out k h1 h2 h3 h4))⟩
  · as_aux_lemma =>
      obtain ⟨hf2, hrel2⟩ := init_f_ok (rows.length + 1) c f q.n rows m HREL0.out (by omega) (by have := HLEN0.out; omega) HQ.out.n0 hn hall
      have HF2 := Lib.hid hf2
      have HREL2 := Lib.hid hrel2
      have HB23 := Lib.hid hb3
      clear hf2 hrel2 hn hall hb3
      obtain ⟨l4, hf4, hrel4, hlen4⟩ : ∃ l4 : List S66, nuncioref17_Initial.f (rows.length + 1) c f rows q.n = some (c, q.n, l4, 0) ∧ Rel l4 (fun id => (m id).map fun v => wrap64 (v + wrap64 (q.n - f))) ∧ l4.length ≤ rows.length + 1 := ⟨_, HF2.out, HREL2.out, (by rw [List.length_map]; omega)⟩
      have HREL := Lib.hid hrel4
      have HLE0 := Lib.hid hlen4
      have HFF := Lib.hid hf4
      clear hrel4 hlen4 hf4
      have HNB := Lib.hid (show b2 < w.heap.size ∨ w.heap.size + 3 ≤ b2 from .inr (by have := HB23.out; have := HS.out; omega))
      have HBP := Lib.hid (show w0.heap.size ≤ b2 from by have := HB23.out; have := HBW.out.size; omega)
      have HB2 := Lib.hid hb2
      have HR2 := Lib.hid (RowsAt.only HRW.out ho2 (.inl HSS.out.1) (.inl HSS.out.2))
      have HBe2 := Lib.hid (below_only HBW.out ho2 HBB.out.1 HBB.out.2 HBW.out.size)
      have hlt := HLT.out
      have hsz : w.heap.size + 3 ≤ w2.heap.size := by have := ho2.size; have := HS.out; omega
      have HV2 := Lib.hid (show _ ∧ _ ∧ _ from ⟨(ho2.block w.heap.size (by have := HS.out; omega) (by omega) (by omega)).trans HV.out.1, (ho2.block (w.heap.size + 1) (by have := HS.out; omega) (by omega) (by omega)).trans HV.out.2.1, (ho2.block (w.heap.size + 1 + 1) (by have := HS.out; omega) (by omega) (by omega)).trans HV.out.2.2⟩)
      have hT : ∀ k, (fun k => k = g ∨ k = b2 ∨ k = w.heap.size ∨ k = w.heap.size + 1 ∨ k = w.heap.size + 1 + 1 ∨ (S k ∧ k < w.heap.size)) k → (S k ∨ w.heap.size ≤ k) ∧ k < w2.heap.size := by
        intro k hk
        have := hb2.lt
        have := HNB.out
        have hb23 := HB23.out
        have hs3 := HS.out
        rcases hk with rfl | rfl | rfl | rfl | rfl | hk
        all_goals first | exact ⟨.inl HSS.out.1, by omega⟩ | exact ⟨.inl HSS.out.2, by omega⟩ | exact ⟨.inr (by omega), by omega⟩ | exact ⟨.inl hk.1, by omega⟩
      have HT := Lib.hid hT
      have HU2 := Lib.hid (show ∀ k, S k → k < w.heap.size → k ≠ g → k ≠ b → w2.heap[k]? = w.heap[k]? from fun k h1 h2 h3 h4 => (ho2.block k (by have := HS.out; omega) h3 h4).trans (HUW.out k h1 h2 h3 h4))
      have HBO := Lib.hid (show w.heap.size ≤ b2 from by have := HB23.out; have := HS.out; omega)
      clear t0 t1 t2 t3 hb2 ho2 hlt hsz hT HV
      have e0 := (blk_cell HV2.out.1 0).trans rfl
      have e1 := (blk_cell HV2.out.1 1).trans rfl
      have e2 := (blk_cell HV2.out.1 2).trans rfl
      have t1 := (blk_cell HV2.out.2.1 1).trans rfl
      have t2 := (blk_cell HV2.out.2.1 2).trans rfl
      have t3 := (blk_cell HV2.out.2.1 3).trans rfl
      go_wp2_with fail
      refine (initial_ref (T := (fun k => k = g ∨ k = b2 ∨ k = w.heap.size ∨ k = w.heap.size + 1 ∨ k = w.heap.size + 1 + 1 ∨ (S k ∧ k < w.heap.size))) HR2.out HBe2.out (HFF.out) HT.out).mono ?_
      rintro e w3 ⟨u3, rfl, hr3, hbe3, hk3⟩
      obtain ⟨A, cap, rfl, _, _⟩ := hr3.slice
      have HB3 := Lib.hid (HB2.out.kept (hk3 g (by simp)) (hk3 b2 (by simp)))
      have HR3 := Lib.hid hr3
      have HU3 := Lib.hid (show ∀ k, S k → k < w.heap.size → k ≠ g → k ≠ b → w3.heap[k]? = w.heap[k]? from fun k h1 h2 h3 h4 => (hk3 k (.inr (.inr (.inr (.inr (.inr ⟨h1, h2⟩)))))).trans (HU2.out k h1 h2 h3 h4))
      have HBe3 := Lib.hid hbe3
      have HV3 := Lib.hid (show _ ∧ _ ∧ _ from ⟨(hk3 w.heap.size (by simp)).trans HV2.out.1, (hk3 (w.heap.size + 1) (by simp)).trans HV2.out.2.1, (hk3 (w.heap.size + 1 + 1) (by simp)).trans HV2.out.2.2⟩)
      clear e0 e1 e2 t1 t2 t3 hr3 hbe3 hk3 HV2 HB2 HR2 HBe2 HKW HRW HBW HT
      have e0 := (blk_cell HV3.out.1 0).trans rfl
      have e1 := (blk_cell HV3.out.1 1).trans rfl
      have e2 := (blk_cell HV3.out.1 2).trans rfl
      have y0 := blk_frozen HV3.out.1 0
      have y1 := blk_frozen HV3.out.1 1
      have y2 := blk_frozen HV3.out.1 2
      go_wp2_with fail
      have hlt := HLT.out
      have HB4 := Lib.hid (book_far3 HB3.out (n := w.heap.size) (x := .int .i64 (c)) (y := .int .i64 (q.n)) (z := .slice A l4.length cap) (by omega) (by have := HNB.out; omega))
      have HR4 := Lib.hid (HR3.out.set3 (n := w.heap.size) (x := .int .i64 (c)) (y := .int .i64 (q.n)) (z := .slice A l4.length cap) (by simp))
      have HBe4 := Lib.hid (below_set3 (n := w.heap.size) (x := .int .i64 (c)) (y := .int .i64 (q.n)) (z := .slice A l4.length cap) HBe3.out HBE.out.size)
      have hv0 := self3_heap (x := .int .i64 (c)) (y := .int .i64 (q.n)) (z := .slice A l4.length cap) HV3.out.1
      have hv1 := (far3_heap (n := w.heap.size) (x := .int .i64 (c)) (y := .int .i64 (q.n)) (z := .slice A l4.length cap) (by omega)).trans HV3.out.2.1
      have hv2 := (far3_heap (n := w.heap.size) (x := .int .i64 (c)) (y := .int .i64 (q.n)) (z := .slice A l4.length cap) (by omega)).trans HV3.out.2.2
      have HU := Lib.hid (show ∀ k, S k → k < w.heap.size → k ≠ g → k ≠ b → (((w3.setCell ⟨w.heap.size, 0, none⟩ (.int .i64 (c))).setCell ⟨w.heap.size, 1, none⟩ (.int .i64 (q.n))).setCell ⟨w.heap.size, 2, none⟩ (.slice A l4.length cap)).heap[k]? = w.heap[k]? from fun k h1 h2 h3 h4 => (far3_heap (by omega)).trans (HU3.out k h1 h2 h3 h4))
      clear e0 e1 e2 y0 y1 y2 HB3 HR3 HBe3 HV3 HU2 HU3 hlt
      have HLE := Lib.hid (Nat.le_trans HLE0.out (Nat.succ_le_succ HLEN0.out))
      have HLEN := Lib.hid (show _ < 500000 from Nat.lt_of_le_of_lt HLE.out (by omega))
      generalize hG : ((w3.setCell ⟨w.heap.size, 0, none⟩ _).setCell ⟨w.heap.size, 1, none⟩ _).setCell ⟨w.heap.size, 2, none⟩ _ = w4 at *
      have e0 := (blk_cell hv0 0).trans rfl
      have e1 := (blk_cell hv0 1).trans rfl
      have e2 := (blk_cell hv0 2).trans rfl
      have a1 := (blk_cell hv1 1).trans rfl
      have z0 := (blk_cell hv2 0).trans rfl
      have z1 := (blk_cell hv2 1).trans rfl
      have z2 := (blk_cell hv2 2).trans rfl
      have y0 := blk_frozen hv2 0
      have y1 := blk_frozen hv2 1
      have y2 := blk_frozen hv2 2
      have HV := Lib.hid (show w4.drew.heap[w.heap.size]? = _ ∧ w4.drew.heap[w.heap.size + 1]? = _ ∧ w4.drew.heap[w.heap.size + 1 + 1]? = _ from ⟨hv0, hv1, hv2⟩)
      clear hv0 hv1 hv2
      have HBd := Lib.hid (BookAt.below HB4.out (drew_below _))
      have HRd := Lib.hid (RowsAt.below HR4.out (drew_below _))
      go_region_held3 (fun w' => w'.cell? ⟨w.heap.size, 0, none⟩ = some (.int .i64 (c)) ∧ w'.cell? ⟨w.heap.size, 1, none⟩ = some (.int .i64 (q.n)) ∧ w'.cell? ⟨w.heap.size, 2, none⟩ = some (.slice A (l4).length cap) ∧ w'.cell? ⟨w.heap.size + 1, 1, none⟩ = some (.int .u32 q.id)) (first | exact ⟨e0, e1, e2, a1⟩ | exact ⟨d0, d1, d2, d3⟩ | exact ⟨far3 (by show w.heap.size ≠ w.heap.size + 1 + 1; omega) d0, far3 (by show w.heap.size ≠ w.heap.size + 1 + 1; omega) d1, far3 (by show w.heap.size ≠ w.heap.size + 1 + 1; omega) d2, far3 (by show w.heap.size + 1 ≠ w.heap.size + 1 + 1; omega) d3⟩ | go_keep)
        (first | (go_at_call 32; go_must (refine (same_ref HBd.out HRd.out HREL.out HLEN.out q.id HQ.out.id0 HQ.out.id1).mono ?_; rintro e w5 ⟨rfl, hB5⟩; have d0 := (hB5.cell (World.block_lt_of_cell? _ _ e0)).trans e0; have d1 := (hB5.cell (World.block_lt_of_cell? _ _ e1)).trans e1; have d2 := (hB5.cell (World.block_lt_of_cell? _ _ e2)).trans e2; have d3 := (hB5.cell (World.block_lt_of_cell? _ _ a1)).trans a1; have k0 := (blk_cell (blk_below HV.out.2.2 hB5) 0).trans rfl; have k1 := (blk_cell (blk_below HV.out.2.2 hB5) 1).trans rfl; have k2 := (blk_cell (blk_below HV.out.2.2 hB5) 2).trans rfl; have f0 := blk_frozen (blk_below HV.out.2.2 hB5) 0; have f1 := blk_frozen (blk_below HV.out.2.2 hB5) 1; have f2 := blk_frozen (blk_below HV.out.2.2 hB5) 2; have H5 := Lib.hid hB5; clear hB5)))
      go_wp2
      refine bodyPost_ret (results_ct rfl _ _ (w.heap.size + 1 + 1) 44 #[.int .i64 (c), .int .i64 (q.n), .slice A (l4).length cap] (0, 0) _ rfl (self3_heap (blk_below HV.out.2.2 H5.out)) Try.underlying44 rfl (by kernel_rfl)) rfl ?_
      have hlt := HLT.out
      have hbe5 : Below w0.heap.size w0 _ := (HBe4.out.trans ((drew_below _).mono HBe4.out.size)).trans (H5.out.mono HBe4.out.size)
      exact ⟨b2, _, _, _, _, _, rfl, book_far3 ((BookAt.below HBd.out H5.out).more (n := N + 1) (by omega)) (by omega) (by have := HNB.out; omega), ((RowsAt.below HRd.out H5.out).set3 (by simp)).mono (by intro k hk; rcases hk with rfl | hk <;> first | exact .inr (.inl rfl) | exact .inr (.inr (.inr (.inr (.inr hk))))), HREL.out, HLE.out, HBP.out, .inr HBO.out, below_set3 hbe5 (by have := HBE.out.size; omega), by rw [size3]; have := H5.out.size; have := blk_lt HV.out.1; omega, fun k h1 h2 h3 h4 => (far3_heap (by omega)).trans ((H5.out.block k (by have := blk_lt HV.out.1; omega)).trans (HU.out k h1 h2 h3 h4))⟩

set_option maxHeartbeats 12800000 in
set_option maxRecDepth 100000 in
theorem play_take {w0 w : World} {g b N : Nat} {c f : Int} {m : Int → Option Int} {u : Value} {rows : List S66} {q : Act4} (hB : Below w0.heap.size w0 w) (hb : BookAt w g b c f m N) {S : Nat → Prop} (hr : RowsAt w0.heap.size w S u rows) (hS : S g ∧ S b) (hrel : Rel rows m) (hlen : rows.length ≤ N) (hbB : w0.heap.size ≤ g ∧ w0.heap.size ≤ b) (hq : ActOk q) (hN : N < 100000) (hk : q.k = 4) :
    Calls Try.prog 22 #[.pointer (some ⟨g, 0, none⟩), .agg #[.int .i64 c, .int .i64 f, u], .agg #[.int .i64 q.k, .int .u32 q.id, .int .u32 q.n, .int .i64 q.want]] w (PlayPost w0 w S g b N) := by
  have kb0 : (q.k == 0) = false := by simp [hk]
  have kb1 : (q.k == 1) = false := by simp [hk]
  have kb2 : (q.k == 2) = false := by simp [hk]
  have kb3 : (q.k == 3) = false := by simp [hk]
  have kb4 : (q.k == 4) = true := by simp [hk]
  clear hk
  obtain ⟨A, cap, rfl, hcap, hC0⟩ := hr.slice
  have hR0 := (hr.fresh)
  have HK := Lib.hid hb
  have HQ := Lib.hid hq
  have HREL0 := Lib.hid hrel
  have HLEN0 := Lib.hid hlen
  have HBE := Lib.hid hB
  have HBB := Lib.hid hbB
  have HLT := Lib.hid hb.lt
  have HRR := Lib.hid hR0
  clear hC0 hR0 hr hb hq hrel hlen hB hbB
  obtain ⟨W, hW⟩ : ∃ W, ((w.alloc (.cells #[.int .i64 c, .int .i64 f, .slice A rows.length cap] 44)).alloc (.cells #[.int .i64 q.k, .int .u32 q.id, .int .u32 q.n, .int .i64 q.want] 33)).alloc (.cells #[.int .i64 0, .int .i64 0, .slice none 0 0] 44) = W := ⟨_, rfl⟩
  have hBW : Below w.heap.size w W := by rw [← hW]; exact (((Below.refl w.heap.size w).alloc (Nat.le_refl _) _).alloc (by simp) _).alloc (by simp; omega) _
  have hs : W.heap.size = w.heap.size + 3 := by rw [← hW]; simp
  have h0 : W.heap[w.heap.size]? = some (.cells #[.int .i64 c, .int .i64 f, .slice A rows.length cap] 44 (0, 0)) := by rw [← hW]; simp only [World.alloc]; exact three0 _ _ _ _
  have h1 : W.heap[w.heap.size + 1]? = some (.cells #[.int .i64 q.k, .int .u32 q.id, .int .u32 q.n, .int .i64 q.want] 33 (0, 0)) := by rw [← hW]; simp only [World.alloc]; exact three1 _ _ _ _
  have h2 : W.heap[w.heap.size + 1 + 1]? = some (.cells #[.int .i64 0, .int .i64 0, .slice none 0 0] 44 (0, 0)) := by rw [← hW]; simp only [World.alloc]; exact three2 _ _ _ _
  have HV := Lib.hid (show _ ∧ _ ∧ _ from ⟨h0, h1, h2⟩)
  have HKW := Lib.hid (BookAt.below HK.out hBW)
  have HRW := Lib.hid (RowsAt.below HRR.out hBW)
  have HBW := Lib.hid (HBE.out.trans (hBW.mono HBE.out.size))
  have HS := Lib.hid hs
  have HUW := Lib.hid (show ∀ k, S k → k < w.heap.size → k ≠ g → k ≠ b → W.heap[k]? = w.heap[k]? from fun k _ hk _ _ => hBW.block k hk)
  have HSS := Lib.hid hS
  clear hBW hs h0 h1 h2 HRR hS
  have t0 := (blk_cell HV.out.2.1 0).trans rfl
  have t1 := (blk_cell HV.out.2.1 1).trans rfl
  have t2 := (blk_cell HV.out.2.1 2).trans rfl
  have t3 := (blk_cell HV.out.2.1 3).trans rfl
  go_enter Try.func22, Try.ntmps22
  go_wp2_with fail
  obtain ⟨r, c2, m2, hr2⟩ : ∃ r c2 m2, takeR c m q.id q.want = (r, c2, m2) := ⟨_, _, _, rfl⟩
  obtain ⟨l2, hf2, hrel2, hlen2⟩ := take_f (rows.length + 2) c f q.id q.want rows m HREL0.out (by omega) (by have := HLEN0.out; omega) HQ.out.id0 HQ.out.id1
  have hcall := fun hN => take_calls HKW.out q.id q.want HQ.out.id0 HQ.out.id1 hN
  rw [hr2] at hf2 hrel2 hcall
  have HF2 := Lib.hid hf2
  have HREL2 := Lib.hid hrel2
  have HL2 := Lib.hid hlen2
  clear hf2 hrel2 hlen2 hr2
  refine (hcall (by omega)).mono ?_
  clear hcall
  rintro e w2 ⟨rfl, hb2, ho2⟩
  obtain ⟨l4, hf4, hrel4, hlen4⟩ : ∃ l4 : List S66, nuncioref17_Take.f (rows.length + 2) c f rows q.id q.want = some (c2, f, l4, r) ∧ Rel l4 (m2) ∧ l4.length ≤ rows.length + 1 := ⟨_, HF2.out, HREL2.out, HL2.out⟩
  have HREL := Lib.hid hrel4
  have HLE0 := Lib.hid hlen4
  have HFF := Lib.hid hf4
  clear hrel4 hlen4 hf4
  have HNB := Lib.hid (show b < w.heap.size ∨ w.heap.size + 3 ≤ b from .inl HLT.out.2)
  have HBP := Lib.hid (show w0.heap.size ≤ b from HBB.out.2)
  have HB2 := Lib.hid hb2
  have HR2 := Lib.hid (RowsAt.only HRW.out ho2 (.inl HSS.out.1) (.inl HSS.out.2))
  have HBe2 := Lib.hid (below_only HBW.out ho2 HBB.out.1 HBB.out.2 HBW.out.size)
  have hlt := HLT.out
  have hsz : w.heap.size + 3 ≤ w2.heap.size := by have := ho2.size; have := HS.out; omega
  have HV2 := Lib.hid (show _ ∧ _ ∧ _ from ⟨(ho2.block w.heap.size (by have := HS.out; omega) (by omega) (by omega)).trans HV.out.1, (ho2.block (w.heap.size + 1) (by have := HS.out; omega) (by omega) (by omega)).trans HV.out.2.1, (ho2.block (w.heap.size + 1 + 1) (by have := HS.out; omega) (by omega) (by omega)).trans HV.out.2.2⟩)
  have hT : ∀ k, (fun k => k = g ∨ k = b ∨ k = w.heap.size ∨ k = w.heap.size + 1 ∨ k = w.heap.size + 1 + 1 ∨ (S k ∧ k < w.heap.size)) k → (S k ∨ w.heap.size ≤ k) ∧ k < w2.heap.size := by
    intro k hk
    have := hb2.lt
    have := HNB.out
    rcases hk with rfl | rfl | rfl | rfl | rfl | hk
    all_goals first | exact ⟨.inl HSS.out.1, by omega⟩ | exact ⟨.inl HSS.out.2, by omega⟩ | exact ⟨.inr (by omega), by omega⟩ | exact ⟨.inl hk.1, by omega⟩
  have HT := Lib.hid hT
  have HU2 := Lib.hid (show ∀ k, S k → k < w.heap.size → k ≠ g → k ≠ b → w2.heap[k]? = w.heap[k]? from fun k h1 h2 h3 h4 => (ho2.block k (by have := HS.out; omega) h3 h4).trans (HUW.out k h1 h2 h3 h4))
  clear t0 t1 t2 t3 hb2 ho2 hlt hsz hT HV
  have e0 := (blk_cell HV2.out.1 0).trans rfl
  have e1 := (blk_cell HV2.out.1 1).trans rfl
  have e2 := (blk_cell HV2.out.1 2).trans rfl
  have t1 := (blk_cell HV2.out.2.1 1).trans rfl
  have t2 := (blk_cell HV2.out.2.1 2).trans rfl
  have t3 := (blk_cell HV2.out.2.1 3).trans rfl
  go_wp2_with fail
  refine (take_ref (T := (fun k => k = g ∨ k = b ∨ k = w.heap.size ∨ k = w.heap.size + 1 ∨ k = w.heap.size + 1 + 1 ∨ (S k ∧ k < w.heap.size))) HR2.out HBe2.out (HFF.out) HT.out).mono ?_
  rintro e w3 ⟨u3, rfl, hr3, hbe3, hk3⟩
  obtain ⟨A, cap, rfl, _, _⟩ := hr3.slice
  have HB3 := Lib.hid (HB2.out.kept (hk3 g (by simp)) (hk3 b (by simp)))
  have HR3 := Lib.hid hr3
  have HU3 := Lib.hid (show ∀ k, S k → k < w.heap.size → k ≠ g → k ≠ b → w3.heap[k]? = w.heap[k]? from fun k h1 h2 h3 h4 => (hk3 k (.inr (.inr (.inr (.inr (.inr ⟨h1, h2⟩)))))).trans (HU2.out k h1 h2 h3 h4))
  have HBe3 := Lib.hid hbe3
  have HV3 := Lib.hid (show _ ∧ _ ∧ _ from ⟨(hk3 w.heap.size (by simp)).trans HV2.out.1, (hk3 (w.heap.size + 1) (by simp)).trans HV2.out.2.1, (hk3 (w.heap.size + 1 + 1) (by simp)).trans HV2.out.2.2⟩)
  clear e0 e1 e2 t1 t2 t3 hr3 hbe3 hk3 HV2 HB2 HR2 HBe2 HKW HRW HBW HT
  have e0 := (blk_cell HV3.out.1 0).trans rfl
  have e1 := (blk_cell HV3.out.1 1).trans rfl
  have e2 := (blk_cell HV3.out.1 2).trans rfl
  have y0 := blk_frozen HV3.out.1 0
  have y1 := blk_frozen HV3.out.1 1
  have y2 := blk_frozen HV3.out.1 2
  go_wp2_with fail
  have hlt := HLT.out
  have HB4 := Lib.hid (book_far3 HB3.out (n := w.heap.size) (x := .int .i64 (c2)) (y := .int .i64 (f)) (z := .slice A l4.length cap) (by omega) (by have := HNB.out; omega))
  have HR4 := Lib.hid (HR3.out.set3 (n := w.heap.size) (x := .int .i64 (c2)) (y := .int .i64 (f)) (z := .slice A l4.length cap) (by simp))
  have HBe4 := Lib.hid (below_set3 (n := w.heap.size) (x := .int .i64 (c2)) (y := .int .i64 (f)) (z := .slice A l4.length cap) HBe3.out HBE.out.size)
  have hv0 := self3_heap (x := .int .i64 (c2)) (y := .int .i64 (f)) (z := .slice A l4.length cap) HV3.out.1
  have hv1 := (far3_heap (n := w.heap.size) (x := .int .i64 (c2)) (y := .int .i64 (f)) (z := .slice A l4.length cap) (by omega)).trans HV3.out.2.1
  have hv2 := (far3_heap (n := w.heap.size) (x := .int .i64 (c2)) (y := .int .i64 (f)) (z := .slice A l4.length cap) (by omega)).trans HV3.out.2.2
  have HU := Lib.hid (show ∀ k, S k → k < w.heap.size → k ≠ g → k ≠ b → (((w3.setCell ⟨w.heap.size, 0, none⟩ (.int .i64 (c2))).setCell ⟨w.heap.size, 1, none⟩ (.int .i64 (f))).setCell ⟨w.heap.size, 2, none⟩ (.slice A l4.length cap)).heap[k]? = w.heap[k]? from fun k h1 h2 h3 h4 => (far3_heap (by omega)).trans (HU3.out k h1 h2 h3 h4))
  clear e0 e1 e2 y0 y1 y2 HB3 HR3 HBe3 HV3 HU2 HU3 hlt
  have HLE := Lib.hid (Nat.le_trans HLE0.out (Nat.succ_le_succ HLEN0.out))
  have HLEN := Lib.hid (show _ < 500000 from Nat.lt_of_le_of_lt HLE.out (by omega))
  generalize hG : ((w3.setCell ⟨w.heap.size, 0, none⟩ _).setCell ⟨w.heap.size, 1, none⟩ _).setCell ⟨w.heap.size, 2, none⟩ _ = w4 at *
  have e0 := (blk_cell hv0 0).trans rfl
  have e1 := (blk_cell hv0 1).trans rfl
  have e2 := (blk_cell hv0 2).trans rfl
  have a1 := (blk_cell hv1 1).trans rfl
  have z0 := (blk_cell hv2 0).trans rfl
  have z1 := (blk_cell hv2 1).trans rfl
  have z2 := (blk_cell hv2 2).trans rfl
  have y0 := blk_frozen hv2 0
  have y1 := blk_frozen hv2 1
  have y2 := blk_frozen hv2 2
  have HV := Lib.hid (show w4.drew.heap[w.heap.size]? = _ ∧ w4.drew.heap[w.heap.size + 1]? = _ ∧ w4.drew.heap[w.heap.size + 1 + 1]? = _ from ⟨hv0, hv1, hv2⟩)
  clear hv0 hv1 hv2
  have HBd := Lib.hid (BookAt.below HB4.out (drew_below _))
  have HRd := Lib.hid (RowsAt.below HR4.out (drew_below _))
  go_region_held3 (fun w' => w'.cell? ⟨w.heap.size, 0, none⟩ = some (.int .i64 (c2)) ∧ w'.cell? ⟨w.heap.size, 1, none⟩ = some (.int .i64 (f)) ∧ w'.cell? ⟨w.heap.size, 2, none⟩ = some (.slice A (l4).length cap) ∧ w'.cell? ⟨w.heap.size + 1, 1, none⟩ = some (.int .u32 q.id)) (first | exact ⟨e0, e1, e2, a1⟩ | exact ⟨d0, d1, d2, d3⟩ | exact ⟨far3 (by show w.heap.size ≠ w.heap.size + 1 + 1; omega) d0, far3 (by show w.heap.size ≠ w.heap.size + 1 + 1; omega) d1, far3 (by show w.heap.size ≠ w.heap.size + 1 + 1; omega) d2, far3 (by show w.heap.size + 1 ≠ w.heap.size + 1 + 1; omega) d3⟩ | go_keep)
    (first | (go_at_call 32; go_must (refine (same_ref HBd.out HRd.out HREL.out HLEN.out q.id HQ.out.id0 HQ.out.id1).mono ?_; rintro e w5 ⟨rfl, hB5⟩; have d0 := (hB5.cell (World.block_lt_of_cell? _ _ e0)).trans e0; have d1 := (hB5.cell (World.block_lt_of_cell? _ _ e1)).trans e1; have d2 := (hB5.cell (World.block_lt_of_cell? _ _ e2)).trans e2; have d3 := (hB5.cell (World.block_lt_of_cell? _ _ a1)).trans a1; have k0 := (blk_cell (blk_below HV.out.2.2 hB5) 0).trans rfl; have k1 := (blk_cell (blk_below HV.out.2.2 hB5) 1).trans rfl; have k2 := (blk_cell (blk_below HV.out.2.2 hB5) 2).trans rfl; have f0 := blk_frozen (blk_below HV.out.2.2 hB5) 0; have f1 := blk_frozen (blk_below HV.out.2.2 hB5) 1; have f2 := blk_frozen (blk_below HV.out.2.2 hB5) 2; have H5 := Lib.hid hB5; clear hB5)))
  go_wp2
  refine bodyPost_ret (results_ct rfl _ _ (w.heap.size + 1 + 1) 44 #[.int .i64 (c2), .int .i64 (f), .slice A (l4).length cap] (0, 0) _ rfl (self3_heap (blk_below HV.out.2.2 H5.out)) Try.underlying44 rfl (by kernel_rfl)) rfl ?_
  have hlt := HLT.out
  have hbe5 : Below w0.heap.size w0 _ := (HBe4.out.trans ((drew_below _).mono HBe4.out.size)).trans (H5.out.mono HBe4.out.size)
  exact ⟨b, _, _, _, _, _, rfl, book_far3 ((BookAt.below HBd.out H5.out).more (n := N + 1) (by omega)) (by omega) (by have := HNB.out; omega), ((RowsAt.below HRd.out H5.out).set3 (by simp)).mono (by intro k hk; rcases hk with rfl | hk <;> first | exact .inr (.inl rfl) | exact .inr (.inr (.inr (.inr (.inr hk))))), HREL.out, HLE.out, HBP.out, .inl rfl, below_set3 hbe5 (by have := HBE.out.size; omega), by rw [size3]; have := H5.out.size; have := blk_lt HV.out.1; omega, fun k h1 h2 h3 h4 => (far3_heap (by omega)).trans ((H5.out.block k (by have := blk_lt HV.out.1; omega)).trans (HU.out k h1 h2 h3 h4))⟩

set_option maxHeartbeats 12800000 in
set_option maxRecDepth 100000 in
theorem play_none {w0 w : World} {g b N : Nat} {c f : Int} {m : Int → Option Int} {u : Value} {rows : List S66} {q : Act4} (hB : Below w0.heap.size w0 w) (hb : BookAt w g b c f m N) {S : Nat → Prop} (hr : RowsAt w0.heap.size w S u rows) (hS : S g ∧ S b) (hrel : Rel rows m) (hlen : rows.length ≤ N) (hbB : w0.heap.size ≤ g ∧ w0.heap.size ≤ b) (hq : ActOk q) (hN : N < 100000) (hk : q.k ≠ 0 ∧ q.k ≠ 1 ∧ q.k ≠ 2 ∧ q.k ≠ 3 ∧ q.k ≠ 4) :
    Calls Try.prog 22 #[.pointer (some ⟨g, 0, none⟩), .agg #[.int .i64 c, .int .i64 f, u], .agg #[.int .i64 q.k, .int .u32 q.id, .int .u32 q.n, .int .i64 q.want]] w (PlayPost w0 w S g b N) := by
  have kb0 : (q.k == 0) = false := by simp [hk]
  have kb1 : (q.k == 1) = false := by simp [hk]
  have kb2 : (q.k == 2) = false := by simp [hk]
  have kb3 : (q.k == 3) = false := by simp [hk]
  have kb4 : (q.k == 4) = false := by simp [hk]
  clear hk
  obtain ⟨A, cap, rfl, hcap, hC0⟩ := hr.slice
  have hR0 := (hr.fresh)
  have HK := Lib.hid hb
  have HQ := Lib.hid hq
  have HREL0 := Lib.hid hrel
  have HLEN0 := Lib.hid hlen
  have HBE := Lib.hid hB
  have HBB := Lib.hid hbB
  have HLT := Lib.hid hb.lt
  have HRR := Lib.hid hR0
  clear hC0 hR0 hr hb hq hrel hlen hB hbB
  obtain ⟨W, hW⟩ : ∃ W, ((w.alloc (.cells #[.int .i64 c, .int .i64 f, .slice A rows.length cap] 44)).alloc (.cells #[.int .i64 q.k, .int .u32 q.id, .int .u32 q.n, .int .i64 q.want] 33)).alloc (.cells #[.int .i64 0, .int .i64 0, .slice none 0 0] 44) = W := ⟨_, rfl⟩
  have hBW : Below w.heap.size w W := by rw [← hW]; exact (((Below.refl w.heap.size w).alloc (Nat.le_refl _) _).alloc (by simp) _).alloc (by simp; omega) _
  have hs : W.heap.size = w.heap.size + 3 := by rw [← hW]; simp
  have h0 : W.heap[w.heap.size]? = some (.cells #[.int .i64 c, .int .i64 f, .slice A rows.length cap] 44 (0, 0)) := by rw [← hW]; simp only [World.alloc]; exact three0 _ _ _ _
  have h1 : W.heap[w.heap.size + 1]? = some (.cells #[.int .i64 q.k, .int .u32 q.id, .int .u32 q.n, .int .i64 q.want] 33 (0, 0)) := by rw [← hW]; simp only [World.alloc]; exact three1 _ _ _ _
  have h2 : W.heap[w.heap.size + 1 + 1]? = some (.cells #[.int .i64 0, .int .i64 0, .slice none 0 0] 44 (0, 0)) := by rw [← hW]; simp only [World.alloc]; exact three2 _ _ _ _
  have HV := Lib.hid (show _ ∧ _ ∧ _ from ⟨h0, h1, h2⟩)
  have HKW := Lib.hid (BookAt.below HK.out hBW)
  have HRW := Lib.hid (RowsAt.below HRR.out hBW)
  have HBW := Lib.hid (HBE.out.trans (hBW.mono HBE.out.size))
  have HS := Lib.hid hs
  have HUW := Lib.hid (show ∀ k, S k → k < w.heap.size → k ≠ g → k ≠ b → W.heap[k]? = w.heap[k]? from fun k _ hk _ _ => hBW.block k hk)
  have HSS := Lib.hid hS
  clear hBW hs h0 h1 h2 HRR hS
  have t0 := (blk_cell HV.out.2.1 0).trans rfl
  have t1 := (blk_cell HV.out.2.1 1).trans rfl
  have t2 := (blk_cell HV.out.2.1 2).trans rfl
  have t3 := (blk_cell HV.out.2.1 3).trans rfl
  go_enter Try.func22, Try.ntmps22
  go_wp2_with fail
  have HB4 := HKW
  have HR4 := Lib.hid (show RowsAt w0.heap.size W (fun k => k = g ∨ k = b ∨ k = w.heap.size ∨ k = w.heap.size + 1 ∨ k = w.heap.size + 1 + 1 ∨ (S k ∧ k < w.heap.size)) _ _ from RowsAt.mono HRW.out (by intro k hk; rcases hk with rfl | rfl | rfl | rfl | rfl | hk <;> first | exact .inl HSS.out.1 | exact .inl HSS.out.2 | exact .inr (by omega) | exact .inl hk.1))
  have HREL := HREL0
  have HLEN := Lib.hid (show rows.length < 500000 by have := HLEN0.out; omega)
  have HLE := Lib.hid (show rows.length ≤ N + 1 by have := HLEN0.out; omega)
  have HBe4 := HBW
  have HNB := Lib.hid (show b < w.heap.size ∨ w.heap.size + 3 ≤ b from .inl HLT.out.2)
  have HBP := Lib.hid HBB.out.2
  have HU := HUW
  obtain ⟨hv0, hv1, hv2⟩ := HV.out
  clear HV
  have e0 := (blk_cell hv0 0).trans rfl
  have e1 := (blk_cell hv0 1).trans rfl
  have e2 := (blk_cell hv0 2).trans rfl
  have a1 := (blk_cell hv1 1).trans rfl
  have z0 := (blk_cell hv2 0).trans rfl
  have z1 := (blk_cell hv2 1).trans rfl
  have z2 := (blk_cell hv2 2).trans rfl
  have y0 := blk_frozen hv2 0
  have y1 := blk_frozen hv2 1
  have y2 := blk_frozen hv2 2
  have HV := Lib.hid (show W.drew.heap[w.heap.size]? = _ ∧ W.drew.heap[w.heap.size + 1]? = _ ∧ W.drew.heap[w.heap.size + 1 + 1]? = _ from ⟨hv0, hv1, hv2⟩)
  clear hv0 hv1 hv2
  have HBd := Lib.hid (BookAt.below HB4.out (drew_below _))
  have HRd := Lib.hid (RowsAt.below HR4.out (drew_below _))
  go_region_held3 (fun w' => w'.cell? ⟨w.heap.size, 0, none⟩ = some (.int .i64 (c)) ∧ w'.cell? ⟨w.heap.size, 1, none⟩ = some (.int .i64 (f)) ∧ w'.cell? ⟨w.heap.size, 2, none⟩ = some (.slice A (rows).length cap) ∧ w'.cell? ⟨w.heap.size + 1, 1, none⟩ = some (.int .u32 q.id)) (first | exact ⟨e0, e1, e2, a1⟩ | exact ⟨d0, d1, d2, d3⟩ | exact ⟨far3 (by show w.heap.size ≠ w.heap.size + 1 + 1; omega) d0, far3 (by show w.heap.size ≠ w.heap.size + 1 + 1; omega) d1, far3 (by show w.heap.size ≠ w.heap.size + 1 + 1; omega) d2, far3 (by show w.heap.size + 1 ≠ w.heap.size + 1 + 1; omega) d3⟩ | go_keep)
    (first | (go_at_call 32; go_must (refine (same_ref HBd.out HRd.out HREL.out HLEN.out q.id HQ.out.id0 HQ.out.id1).mono ?_; rintro e w5 ⟨rfl, hB5⟩; have d0 := (hB5.cell (World.block_lt_of_cell? _ _ e0)).trans e0; have d1 := (hB5.cell (World.block_lt_of_cell? _ _ e1)).trans e1; have d2 := (hB5.cell (World.block_lt_of_cell? _ _ e2)).trans e2; have d3 := (hB5.cell (World.block_lt_of_cell? _ _ a1)).trans a1; have k0 := (blk_cell (blk_below HV.out.2.2 hB5) 0).trans rfl; have k1 := (blk_cell (blk_below HV.out.2.2 hB5) 1).trans rfl; have k2 := (blk_cell (blk_below HV.out.2.2 hB5) 2).trans rfl; have f0 := blk_frozen (blk_below HV.out.2.2 hB5) 0; have f1 := blk_frozen (blk_below HV.out.2.2 hB5) 1; have f2 := blk_frozen (blk_below HV.out.2.2 hB5) 2; have H5 := Lib.hid hB5; clear hB5)))
  go_wp2
  refine bodyPost_ret (results_ct rfl _ _ (w.heap.size + 1 + 1) 44 #[.int .i64 (c), .int .i64 (f), .slice A (rows).length cap] (0, 0) _ rfl (self3_heap (blk_below HV.out.2.2 H5.out)) Try.underlying44 rfl (by kernel_rfl)) rfl ?_
  have hlt := HLT.out
  have hbe5 : Below w0.heap.size w0 _ := (HBe4.out.trans ((drew_below _).mono HBe4.out.size)).trans (H5.out.mono HBe4.out.size)
  exact ⟨b, _, _, _, _, _, rfl, book_far3 ((BookAt.below HBd.out H5.out).more (n := N + 1) (by omega)) (by omega) (by have := HNB.out; omega), ((RowsAt.below HRd.out H5.out).set3 (by simp)).mono (by intro k hk; rcases hk with rfl | hk <;> first | exact .inr (.inl rfl) | exact .inr (.inr (.inr (.inr (.inr hk))))), HREL.out, HLE.out, HBP.out, .inl rfl, below_set3 hbe5 (by have := HBE.out.size; omega), by rw [size3]; have := H5.out.size; have := blk_lt HV.out.1; omega, fun k h1 h2 h3 h4 => (far3_heap (by omega)).trans ((H5.out.block k (by have := blk_lt HV.out.1; omega)).trans (HU.out k h1 h2 h3 h4))⟩
set_option maxHeartbeats 12800000 in
set_option maxRecDepth 100000 in
theorem play_calls {w0 w : World} {g b N : Nat} {c f : Int} {m : Int → Option Int} {u : Value} {rows : List S66} {q : Act4} (hB : Below w0.heap.size w0 w) (hb : BookAt w g b c f m N) {S : Nat → Prop} (hr : RowsAt w0.heap.size w S u rows) (hS : S g ∧ S b) (hrel : Rel rows m) (hlen : rows.length ≤ N) (hbB : w0.heap.size ≤ g ∧ w0.heap.size ≤ b) (hq : ActOk q) (hN : N < 100000) :
    Calls Try.prog 22 #[.pointer (some ⟨g, 0, none⟩), .agg #[.int .i64 c, .int .i64 f, u], .agg #[.int .i64 q.k, .int .u32 q.id, .int .u32 q.n, .int .i64 q.want]] w (PlayPost w0 w S g b N) := by
  by_cases h0 : q.k = 0
  · exact play_open hB hb hr hS hrel hlen hbB hq hN h0
  by_cases h1 : q.k = 1
  · exact play_drop hB hb hr hS hrel hlen hbB hq hN h1
  by_cases h2 : q.k = 2
  · exact play_grow hB hb hr hS hrel hlen hbB hq hN h2
  by_cases h3 : q.k = 3
  · exact play_initial hB hb hr hS hrel hlen hbB hq hN h3
  by_cases h4 : q.k = 4
  · exact play_take hB hb hr hS hrel hlen hbB hq hN h4
  exact play_none hB hb hr hS hrel hlen hbB hq hN ⟨h0, h1, h2, h3, h4⟩
end Go.Proofs.Ytkaijdhnnfldkab.PlaysPlay
