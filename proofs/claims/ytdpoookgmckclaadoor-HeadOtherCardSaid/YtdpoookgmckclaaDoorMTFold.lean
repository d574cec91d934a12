/- Walk of text.Fold. -/
import Derived.Test.YtdpoookgmckclaaDoorMTStr
import Derived.WalkSmall
import Derived.Deep.DeepMust
set_option linter.unusedVariables false
set_option linter.unusedSimpArgs false
namespace Go.Proofs.YtdpoookgmckclaaDoor.M
open Go.RowKit Go.Maps Go.Proofs.YtdpoookgmckclaaDoorW.PrintWords Go.Proofs.YtdpoookgmckclaaDoorW.PrintLast Go.Proofs.YtdpoookgmckclaaDoorW.PrintMore
attribute [local go_sem] max2_int min2_int max_two min_two max_three min_three max_four min_four
attribute [local go_sem ↓] Go.wp_at_zero Go.wp_at_succ
/-- The row of a conversion of a text, of which some bytes have been written anew. -/
def Byt (w : World) (G K : Nat) (xs : List Int) : Prop := ∃ pad : List Value, xs.length + pad.length = K ∧ w.heap[G]? = some (.cells (xs.map (Value.int .u8) ++ pad).toArray 5 (K, K + 1))
section
variable {w w1 : World} {G K : Nat} {xs : List Int}
theorem Byt.new (w : World) (s : ByteArray) : Byt (Lib.bytesWorld w 5 s) w.heap.size (Lib.bytesCells w 5 s).size (bytesOf s) := by
  refine ⟨List.replicate (grownCap w s.size 0 5 - s.size) (.int .u8 0), ?_, ?_⟩
  · simp [Lib.bytesCells, bytesOf_length]
  · rw [Lib.bytesWorld_at_new]
    congr 2
    apply Array.ext'
    simp [Lib.bytesCells, bytesOf]
theorem Byt.cell (h : Byt w G K xs) (j : Nat) (hj : j < xs.length) : w.cell? ⟨G, j, none⟩ = some (.int .u8 (xs.getD j 0)) := by
  obtain ⟨pad, h1, h2⟩ := h
  simp [World.cell?, h2, List.getElem?_append, hj]
theorem Byt.frozen (h : Byt w G K xs) (j : Nat) (hj : j < xs.length) : w.frozen? ⟨G, j, none⟩ = false := by
  obtain ⟨pad, h1, h2⟩ := h
  simp [World.frozen?, h2]
  omega
theorem Byt.set (h : Byt w G K xs) (j : Nat) (x : Int) (hj : j < xs.length) : Byt (w.setCell ⟨G, j, none⟩ (.int .u8 x)) G K (xs.set j x) := by
  obtain ⟨pad, h1, h2⟩ := h
  refine ⟨pad, by simpa using h1, ?_⟩
  simp [World.setCell, Array.getElem?_modify, h2, List.set_append, hj, List.map_set]
theorem Byt.reads (h : Byt w G K xs) (hl : xs.length ≤ 9223372036854775807) : (Kd.int .u8).C w (some ⟨G, 0, none⟩) xs.length xs :=
  Kd.C_of_reads (enc := Value.int .u8) (d := (0 : Int)) (h1 := fun _ => rfl) ⟨rfl, hl, fun _ => ⟨_, rfl, fun j hj => by rw [add_plain]; exact h.cell j hj⟩⟩
theorem Byt.str (h : Byt w G K xs) (hl : xs.length ≤ 9223372036854775807) (c : Nat) : (convert 63 9 (.slice (some ⟨G, 0, none⟩) xs.length c)).run Tryd.prog w = .ok (.string (strOfNums xs)) w :=
  Kd.C_string Tryd.underlying63 Tryd.underlying5 Tryd.underlying9 (h.reads hl)
end
/-- A byte, in small letters. -/
def foldI (c : Int) : Int := if 65 ≤ c ∧ c ≤ 90 then c + 32 else c
def foldS (s : ByteArray) : ByteArray := strOfNums ((bytesOf s).map foldI)
def foldTo (s : ByteArray) (j : Nat) : List Int := ((bytesOf s).take j).map foldI ++ (bytesOf s).drop j
theorem foldTo_len (s : ByteArray) (j : Nat) : (foldTo s j).length = s.size := by
  unfold foldTo
  rw [← bytesOf_length s]
  simp
  omega
theorem foldTo_at (s : ByteArray) (j : Nat) (hj : j < s.size) : (foldTo s j).getD j 0 = bt s (j : Int) := by
  rw [← bt_getD]
  have hl : j < (bytesOf s).length := by rw [bytesOf_length]; exact hj
  unfold foldTo
  simp [List.getD_eq_getElem?_getD, List.getElem?_append, Nat.min_eq_left (Nat.le_of_lt hl)]
theorem foldTo_next (s : ByteArray) (j : Nat) (hj : j < s.size) : foldTo s (j + 1) = (foldTo s j).set j (foldI (bt s (j : Int))) := by
  have hl : j < (bytesOf s).length := by rw [bytesOf_length]; exact hj
  have hb := bt_getD s j
  unfold foldTo
  rw [List.drop_eq_getElem_cons hl, List.take_succ_eq_append_getElem hl, List.map_append, List.map_singleton, List.set_append]
  have hlen : (List.map foldI (List.take j (bytesOf s))).length = j := by simp [Nat.min_eq_left (Nat.le_of_lt hl)]
  rw [if_neg (by omega), hlen, Nat.sub_self, List.set_cons_zero]
  simp [← hb, List.getD_eq_getElem?_getD, hl]
theorem set_same (l : List Int) (j : Nat) (hj : j < l.length) : l.set j (l.getD j 0) = l := by
  rw [List.getD_eq_getElem?_getD, List.getElem?_eq_getElem hj]
  simp
theorem foldTo_zero (s : ByteArray) : foldTo s 0 = bytesOf s := by simp [foldTo]
theorem foldTo_all (s : ByteArray) : foldTo s s.size = (bytesOf s).map foldI := by
  unfold foldTo
  rw [List.take_of_length_le (by rw [bytesOf_length]; omega), List.drop_of_length_le (by rw [bytesOf_length]; omega)]
  simp
set_option maxHeartbeats 4000000 in
set_option maxRecDepth 100000 in
theorem fold_calls (s : ByteArray) (w : World) (hs : s.size ≤ 1000000000000) :
    Calls Tryd.prog 36 #[.string s] w fun e w' => e = .returned (.string (foldS s)) ∧ Below w.heap.size w w' := by
  have kb := fun W => print_bytes (P := Tryd.prog) 9 63 5 Tryd.underlying9 Tryd.underlying63 Tryd.underlying5 s W
  go_enter Tryd.func36, Tryd.ntmps36
  go_wp2_with fail
  have hB := bytes_below (Below.refl w.heap.size w) (Nat.le_refl _) 5 s
  have hY := Byt.new w s
  rw [← foldTo_zero] at hY
  clear kb
  generalize hC : grownCap w s.size 0 5 = C
  generalize hW : Lib.bytesWorld w 5 s = wB at *
  generalize (Lib.bytesCells w 5 s).size = K at *
  obtain ⟨G, hG⟩ : ∃ G, w.heap.size = G := ⟨_, rfl⟩
  rw [hG] at hY
  simp only [hG]
  have HG := Lib.hid hG
  have HB := Aside0.mk hB
  have HY := Aside0.mk hY
  have HS := Lib.hid hs
  have q3 : (s.size : Int) ≤ 1000000000000 := by omega
  clear hC hW hG hB hY hs
  go_loopg [10] s.size (fun kq v10 w' => ∃ j : Nat, v10 = .int .i64 j ∧ Aside0 (kq + j = s.size) ∧ Aside0 (Byt w' G K (foldTo s j)) ∧ Aside0 (Below w.heap.size w w'))
  case atStart => exact ⟨0, rfl, ⟨rfl⟩, HY, HB⟩
  case round =>
    clear HB HY
    obtain ⟨j, rfl, HK, HY, HB⟩ := hrel
    cases gk with
    | zero =>
      obtain rfl : j = s.size := by have := HK.out; omega
      have hst := HY.out.str (by rw [foldTo_len]; omega) C
      rw [foldTo_len] at hst
      have HT := Lib.hid (show strOfNums (foldTo s s.size) = foldS s by rw [foldTo_all]; rfl)
      go_wp2_with fail
      go_ret
      exact ⟨congrArg (fun x => Ending.returned (.string x)) HT.out, HB.out⟩
    | succ k =>
      have hj : j < s.size := by have := HK.out; omega
      have hx := HY.out.cell j (by rw [foldTo_len]; exact hj)
      rw [foldTo_at s j hj] at hx
      have fx := HY.out.frozen j (by rw [foldTo_len]; exact hj)
      obtain ⟨c0, c1⟩ := bt_range s j
      have HN := Lib.hid (foldTo_next s j hj)
      obtain ⟨c, hc⟩ : ∃ c, bt s (j : Int) = c := ⟨_, rfl⟩
      have hF := foldTo_at s j hj
      rw [hc] at hx c0 c1 HN hF
      have HF := Lib.hid hF
      have q1 : (0 : Int) ≤ (j : Int) := by omega
      have q2 : (j : Int) < (s.size : Int) := by omega
      clear hc hF
      by_cases h : 65 ≤ c ∧ c ≤ 90
      · obtain ⟨h1, h2⟩ := h
        have HY2 := Aside0.mk (show Byt (wr.setCell ⟨G, j, none⟩ (.int .u8 (c + 97 - 65))) G K (foldTo s (j + 1)) by
          rw [HN.out, show foldI c = c + 97 - 65 by unfold foldI; rw [if_pos ⟨h1, h2⟩]; omega]
          exact HY.out.set j _ (by rw [foldTo_len]; exact hj))
        have HB2 := Aside0.mk (HB.out.setCell (p := ⟨G, j, none⟩) (by rw [← HG.out]; exact Nat.le_refl _) (.int .u8 (c + 97 - 65)))
        have d1 : decide (c - 65 < 26) = true := decide_eq_true (by omega)
        go_wp2_with fail
        go_roundg k
        case measure => omega
        case rel => exact ⟨j + 1, by go_num, ⟨by have := HK.out; omega⟩, HY2, HB2⟩
      · have HY2 := Aside0.mk (show Byt wr G K (foldTo s (j + 1)) by
          rw [HN.out, show foldI c = c by unfold foldI; rw [if_neg h]]
          rw [← HF.out, set_same _ _ (by rw [foldTo_len]; exact hj)]
          exact HY.out)
        have hm : IntKind.u8.wrap (c - 65) = (c - 65) % 256 := by simp [IntKind.wrap, IntKind.bits, IntKind.signed]
        have d1 : decide ((c - 65) % 256 < 26) = false := decide_eq_false (by omega)
        go_wp2_with fail
        go_roundg k
        case measure => omega
        case rel => exact ⟨j + 1, by go_num, ⟨by have := HK.out; omega⟩, HY2, HB⟩
end Go.Proofs.YtdpoookgmckclaaDoor.M
