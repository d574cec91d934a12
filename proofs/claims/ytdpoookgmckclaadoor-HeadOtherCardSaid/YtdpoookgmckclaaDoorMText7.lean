/- Walks of the library's Cut at one sign; Media. -/
import Derived.Test.YtdpoookgmckclaaDoorMText6
import Derived.Test.YtdpoookgmckclaaDoorMCut
set_option linter.unusedVariables false
set_option linter.unusedSimpArgs false
namespace Go.Proofs.YtdpoookgmckclaaDoor.M
open Go.RowKit Go.Maps Go.Proofs.YtdpoookgmckclaaDoorW.PrintWords Go.Proofs.YtdpoookgmckclaaDoorW.PrintLast Go.Proofs.YtdpoookgmckclaaDoorW.PrintMore
attribute [local go_sem] max2_int min2_int max_two min_two max_three min_three max_four min_four
attribute [local go_sem ↓] Go.wp_at_zero Go.wp_at_succ
def mediaF (s : ByteArray) : ByteArray := foldS (trimF (strOfNums (headI (bytesOf s) 59)))
theorem cut_head (s : ByteArray) (d : Int) : ∃ b f, cutE s d = .tuple #[.string (strOfNums (headI (bytesOf s) d)), .string b, .bool f] := by
  unfold cutE
  split
  · exact ⟨_, _, rfl⟩
  · rename_i h
    rw [head_none (by simpa using h), tb_str]
    exact ⟨_, _, rfl⟩
theorem fold_size (s : ByteArray) : (foldS s).size = s.size := by
  unfold foldS
  rw [strOfNums_size, List.length_map, bytesOf_length]
theorem head_size (s : ByteArray) (d : Int) : (strOfNums (headI (bytesOf s) d)).size ≤ s.size := by
  rw [strOfNums_size, head_take, ← bytesOf_length s, List.length_take]
  omega
theorem trim_size (s : ByteArray) : (trimF s).size ≤ s.size := by
  unfold trimF
  rw [strOfNums_size, ← bytesOf_length s]
  exact Nat.le_trans (List.dropWhile_sublist _).length_le (trimR_len _)
set_option maxHeartbeats 4000000 in
set_option maxRecDepth 100000 in
theorem media_calls (s : ByteArray) (w : World) (hs : s.size ≤ 1000000000000) :
    Calls Tryd.prog 25 #[.string s] w fun e w' => e = .returned (.string (mediaF s)) ∧ Below w.heap.size w w' := by
  obtain ⟨b, f, hE⟩ := cut_head s 59
  obtain ⟨t, ht⟩ : ∃ t, strOfNums (headI (bytesOf s) 59) = t := ⟨_, rfl⟩
  have hz := head_size s 59
  rw [ht] at hE hz
  have HE := Lib.hid hE
  have HT := Lib.hid ht
  have HS := Lib.hid hs
  clear hE ht hs
  go_enter Tryd.func25, Tryd.ntmps25
  go_wp2_with fail
  refine (cut_calls s 59 _ HS.out).mono ?_
  rintro e w1 ⟨rfl, hb⟩
  rw [show ((59 : UInt8).toNat : Int) = 59 from rfl, HE.out]
  have HB1 := Aside0.mk hb
  clear hb
  go_wp2_with fail
  refine (trim_calls t _ (by have := HS.out; omega)).mono ?_
  rintro e w2 ⟨rfl, hb⟩
  have HB2 := Aside0.mk (HB1.out.trans (hb.mono HB1.out.size))
  clear hb HB1
  go_wp2_with fail
  refine (fold_calls (trimF t) _ (by have := HS.out; have := trim_size t; omega)).mono ?_
  rintro e w3 ⟨rfl, hb⟩
  have HB3 := Aside0.mk (HB2.out.trans (hb.mono HB2.out.size))
  clear hb HB2
  have HF := Lib.hid (show foldS (trimF t) = mediaF s by unfold mediaF; rw [HT.out])
  go_wp2_with fail
  go_ret
  exact ⟨congrArg (fun x => Ending.returned (.string x)) HF.out, HB3.out⟩
end Go.Proofs.YtdpoookgmckclaaDoor.M
