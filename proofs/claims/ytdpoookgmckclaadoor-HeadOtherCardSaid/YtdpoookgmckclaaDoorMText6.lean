/- Walks of the library's Trim at the two blanks, and of Cut at one sign. -/
import Derived.Test.YtdpoookgmckclaaDoorMText5
set_option linter.unusedVariables false
set_option linter.unusedSimpArgs false
namespace Go.Proofs.YtdpoookgmckclaaDoor.M
open Go.RowKit Go.Maps Go.Proofs.YtdpoookgmckclaaDoorW.PrintWords Go.Proofs.YtdpoookgmckclaaDoorW.PrintLast Go.Proofs.YtdpoookgmckclaaDoorW.PrintMore
attribute [local go_sem] max2_int min2_int max_two min_two max_three min_three max_four min_four
attribute [local go_sem ↓] Go.wp_at_zero Go.wp_at_succ
def trimF (s : ByteArray) : ByteArray := strOfNums (trimL (trimR (bytesOf s)))
theorem zeroSet (w : World) : (zeroValue 73).run Tryd.prog w = .ok (.agg (Array.replicate 256 (.bool false))) w := by kernel_rfl
theorem set_blank (c : Int) (h0 : 0 ≤ c) (h1 : c < 256) : (Lib.setCells [9, 32])[c.toNat]? = some (.bool (blankI c)) := by
  have := Lib.setCells_at [9, 32] c.toNat.toUInt8
  rw [show (c.toNat.toUInt8).toNat = c.toNat by simp; omega] at this
  rw [this]
  have hb : ∀ n : Fin 256, ([9, 32] : List UInt8).contains n.val.toUInt8 = blankI (n.val : Int) := by decide +kernel
  have := hb ⟨c.toNat, by omega⟩
  simp only at this
  rw [this, Int.toNat_of_nonneg h0]
theorem trimR_len (l : List Int) : (trimR l).length ≤ l.length := by
  unfold trimR
  have := (List.dropWhile_sublist (l := l.reverse) blankI).length_le
  rw [List.length_reverse] at this ⊢
  exact this
theorem trimR_mem {l : List Int} {x : Int} (h : x ∈ trimR l) : x ∈ l := by
  unfold trimR at h
  rw [List.mem_reverse] at h
  exact List.mem_reverse.1 ((List.dropWhile_sublist _).subset h)
set_option maxHeartbeats 8000000 in
set_option maxRecDepth 1000000 in
theorem trim_calls (s : ByteArray) (w : World) (hs : s.size ≤ 1000000000000) :
    Calls Tryd.prog 37 #[.string s, .string ⟨#[9, 32]⟩] w fun e w' => e = .returned (.string (trimF s)) ∧ Below w.heap.size w w' := by
  have hemp : (⟨#[9, 32]⟩ : ByteArray).toList.isEmpty = false := text_some (by decide)
  have HB := Aside0.mk (Below.refl w.heap.size w)
  by_cases hz : s.size = 0
  · have hz := size_zero hz
    subst hz
    go_enter Tryd.func37, Tryd.ntmps37
    go_wp2_with fail
    go_ret
    exact ⟨rfl, HB.out⟩
  have hne := text_some hz
  have hn1 : (((⟨#[9, 32]⟩ : ByteArray).size : Int) == 1) = false := rfl
  have hM := Tryd.strings_makeASCIISet zeroSet ⟨#[9, 32]⟩ w (by decide) (by intro j b hj; have hm := List.mem_of_getElem? hj; simp at hm; rcases hm with rfl | rfl <;> decide)
  have hsc : (storeCells ⟨w.heap.size + 1, 0, none⟩ (Lib.setCells [9, 32]).toList 0).run Tryd.prog ((w.alloc (.cells (Lib.setCells [9, 32]) 73)).alloc (.cells (Array.replicate 256 (.bool false)) 73)) = .ok () ((w.alloc (.cells (Lib.setCells [9, 32]) 73)).alloc (.cells (Lib.setCells [9, 32]) 73)) := by
    have := run_storeCells_new (P := Tryd.prog) (w.alloc (.cells (Lib.setCells [9, 32]) 73)) 73 (Array.replicate 256 (.bool false)) (Lib.setCells [9, 32]) (by rw [Lib.setCells_size]; kernel_rfl) (by rw [Lib.setCells_size, Array.size_replicate]) (Lib.setCells_one _)
    simpa using this
  go_enter Tryd.func37, Tryd.ntmps37
  have hb1 := below_alloc (below_alloc (Below.refl w.heap.size w) (.cells (Lib.setCells [9, 32]) 73 (0, 0))) (.cells (Lib.setCells [9, 32]) 73 (0, 0))
  have hcl : ∀ c : Int, 0 ≤ c → c < 256 → ((w.alloc (.cells (Lib.setCells [9, 32]) 73 (0, 0))).alloc (.cells (Lib.setCells [9, 32]) 73 (0, 0))).cell? ⟨w.heap.size + 1, c.toNat, none⟩ = some (.bool (blankI c)) := by
    intro c h0 h1
    rw [World.cell?_alloc_at _ _ _ _ (by simp)]
    exact set_blank c h0 h1
  have HCL := Lib.hid hcl
  have hsz := Lib.setCells_size [9, 32]
  have HB1 := Aside0.mk hb1
  have HS := Lib.hid hs
  clear hcl hb1 hs HB
  go_wp2_with fail
  refine hM.mono ?_
  rintro e w1 ⟨rfl, hw⟩
  rw [hw]
  clear hw hM
  go_wp2_with fail
  rw [show (Tryd.zeroCells73 : Array Value) = Array.replicate 256 (.bool false) by kernel_rfl]
  simp only [Result.andThen, hsc]
  rw [Oper.upon_skip]
  clear hsc hsz hemp hne hn1
  go_wp2_with fail
  refine (trimRight_calls s _ HS.out HCL.out).mono ?_
  rintro e w2 ⟨rfl, hw2⟩
  subst hw2
  go_wp2_with fail
  refine (trimLeft_calls (strOfNums (trimR (bytesOf s))) _ ?_ HCL.out).mono ?_
  · rw [strOfNums_size]
    have := trimR_len (bytesOf s)
    rw [bytesOf_length] at this
    have := HS.out
    omega
  rintro e w2 ⟨rfl, hw2⟩
  subst hw2
  have HE := Lib.hid (show strOfNums (trimL (bytesOf (strOfNums (trimR (bytesOf s))))) = trimF s by rw [tb_byt (fun x hx => tb_range s x (trimR_mem hx))]; rfl)
  go_wp2_with fail
  go_ret
  exact ⟨congrArg (fun x => Ending.returned (.string x)) HE.out, HB1.out⟩
end Go.Proofs.YtdpoookgmckclaaDoor.M
