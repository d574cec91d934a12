/- Walks of route.Split, route.Param, nuncioref21.Split, nuncioref21.Param: each pair answers alike. -/
import Derived.Test.YtfoflodgegehfaaMRCut
set_option linter.unusedVariables false
set_option linter.unusedSimpArgs false
namespace Go.Proofs.Ytfoflodgegehfaa.M
open Go.RowKit Go.Maps Go.Proofs.YtfoflodgegehfaaW.PrintWords Go.Proofs.YtfoflodgegehfaaW.PrintLast Go.Proofs.YtfoflodgegehfaaW.PrintMore
attribute [local go_sem] max2_int min2_int max_two min_two max_three min_three max_four min_four
attribute [local go_sem ↓] Go.wp_at_zero Go.wp_at_succ
def cutM (s : ByteArray) (d : Int) : Bool := (bytesOf s).contains d
def cutA (s : ByteArray) (d : Int) : ByteArray := if (bytesOf s).contains d then strOfNums (headI (bytesOf s) d) else s
def cutB (s : ByteArray) (d : Int) : ByteArray := if (bytesOf s).contains d then strOfNums (tailI (bytesOf s) d) else ⟨#[]⟩
theorem cutE_eq (s : ByteArray) (d : Int) : cutE s d = .tuple #[.string (cutA s d), .string (cutB s d), .bool (cutM s d)] := by
  unfold cutE cutA cutB cutM
  cases (bytesOf s).contains d <;> rfl
theorem cutA_size (s : ByteArray) (d : Int) : (cutA s d).size ≤ s.size := by
  unfold cutA
  split
  · rename_i h
    have hl := head_len _ _ h
    rw [bytesOf_length] at hl
    rw [head_take, ← tb_take, tb_str, ByteArray.size_extract]
    omega
  · exact Nat.le_refl _
theorem cutB_less (s : ByteArray) (d : Int) (h : cutM s d = true) : (cutB s d).size < s.size := by
  unfold cutM at h
  have hl := head_len _ _ h
  rw [bytesOf_length] at hl
  unfold cutB tailI
  rw [if_pos h, ← tb_drop, tb_str, ByteArray.size_extract]
  omega
theorem cutB_size (s : ByteArray) (d : Int) : (cutB s d).size ≤ s.size := by
  cases h : cutM s d with
  | true => exact Nat.le_of_lt (cutB_less s d h)
  | false =>
    unfold cutM at h
    unfold cutB
    rw [if_neg (by rw [h]; simp)]
    exact Nat.zero_le _
/-- The value of a parameter, and whether there is one. -/
def paramN : Nat → ByteArray → ByteArray → ByteArray × Bool
  | 0, _, _ => (⟨#[]⟩, false)
  | n + 1, s, k => if cutA (cutA s 38) 61 = k then (cutB (cutA s 38) 61, true) else if cutM s 38 then paramN n (cutB s 38) k else (⟨#[]⟩, false)
def paramF (s k : ByteArray) : ByteArray × Bool := paramN (s.size + 1) s k

set_option maxHeartbeats 4000000 in
set_option maxRecDepth 100000 in
theorem split_route_calls (s : ByteArray) (w : World) (hs : s.size ≤ 1000000000000) :
    Calls Try.prog 9 #[.string s] w fun e w' => e = .returned (.tuple #[.string (cutA s 63), .string (cutB s 63)]) ∧ Below w.heap.size w w' := by
  have HB := Aside0.mk (Below.refl w.heap.size w)
  have hc := fun w => cut_calls s 63 w hs
  rw [cutE_eq, show ((63 : UInt8).toNat : Int) = 63 from rfl] at hc
  generalize cutA s 63 = a at *
  generalize cutB s 63 = b at *
  generalize cutM s 63 = m at *
  go_enter Try.func9, Try.ntmps9
  go_wp2_with fail
  refine (hc _).mono ?_
  rintro e w2 ⟨rfl, hb⟩
  have HB2 := Aside0.mk (HB.out.trans (hb.mono HB.out.size))
  clear hb HB
  go_wp2_with fail
  go_ret2
  exact ⟨rfl, HB2.out⟩
set_option maxHeartbeats 4000000 in
set_option maxRecDepth 100000 in
theorem split_ref_calls (s : ByteArray) (w : World) (hs : s.size ≤ 1000000000000) :
    Calls Try.prog 10 #[.string s] w fun e w' => e = .returned (.tuple #[.string (cutA s 63), .string (cutB s 63)]) ∧ Below w.heap.size w w' := by
  have HB := Aside0.mk (Below.refl w.heap.size w)
  have hc := fun w => refCut_calls s 63 w hs
  rw [cutE_eq] at hc
  generalize cutA s 63 = a at *
  generalize cutB s 63 = b at *
  generalize cutM s 63 = m at *
  go_enter Try.func10, Try.ntmps10
  go_wp2_with fail
  refine (hc _).mono ?_
  rintro e w2 ⟨rfl, hb⟩
  have HB2 := Aside0.mk (HB.out.trans (hb.mono HB.out.size))
  clear hb HB
  go_wp2_with fail
  go_ret2
  exact ⟨rfl, HB2.out⟩
set_option maxHeartbeats 4000000 in
set_option maxRecDepth 100000 in
theorem param_calls (s k : ByteArray) (w : World) (hs : s.size ≤ 1000000000000) :
    Calls Try.prog 11 #[.string s, .string k] w fun e w' => e = .returned (.tuple #[.string (paramF s k).1, .bool (paramF s k).2]) ∧ Below w.heap.size w w' := by
  have HB := Aside0.mk (Below.refl w.heap.size w)
  obtain ⟨V, hV⟩ : ∃ V, paramF s k = V := ⟨_, rfl⟩
  rw [hV]
  have HV := Aside0.mk hV
  have HS := Aside0.mk hs
  clear hV hs
  go_enter Try.func11, Try.ntmps11
  go_wp2_with fail
  go_loopg [0, 6] (s.size + 1) (fun kq v0 v6 w' => ∃ (c : ByteArray) (m : Bool), v0 = .string c ∧ v6 = .bool m ∧ Aside0 (if m then paramN kq c k = V ∧ c.size < kq ∧ c.size ≤ 1000000000000 else V = (⟨#[]⟩, false)) ∧ Aside0 (Below w.heap.size w w'))
  case atStart => exact ⟨s, true, rfl, rfl, ⟨HV.out, Nat.lt_succ_self _, HS.out⟩, HB⟩
  case round =>
    obtain ⟨c, m, rfl, rfl, HK, HB1⟩ := hrel
    cases m with
    | false =>
      go_wp2_with fail
      have hk := HK.out
      rw [if_neg (by simp)] at hk
      subst hk
      go_ret2
      exact ⟨rfl, HB1.out⟩
    | true =>
      obtain ⟨hp, hl, hz⟩ := HK.out
      clear HK
      cases gk with
      | zero => exact absurd hl (by omega)
      | succ n =>
        unfold paramN at hp
        have h1 := fun w => cut_calls c 38 w hz
        have h2 := fun w => cut_calls (cutA c 38) 61 w (Nat.le_trans (cutA_size c 38) hz)
        rw [cutE_eq, show ((38 : UInt8).toNat : Int) = 38 from rfl] at h1
        rw [cutE_eq, show ((61 : UInt8).toNat : Int) = 61 from rfl] at h2
        have hle := cutB_size c 38
        have hlt := cutB_less c 38
        generalize cutA c 38 = a at *
        generalize cutB c 38 = b at *
        generalize cutM c 38 = m at *
        generalize cutA a 61 = x at *
        generalize cutB a 61 = y at *
        generalize cutM a 61 = z at *
        by_cases he : x = k
        · subst he
          rw [if_pos rfl] at hp
          subst hp
          clear hl hz hle hlt
          go_wp2_with fail
          refine (h1 _).mono ?_
          rintro e w2 ⟨rfl, hb⟩
          have HB2 := Aside0.mk (HB1.out.trans (hb.mono HB1.out.size))
          clear hb HB1
          go_wp2_with fail
          refine (h2 _).mono ?_
          rintro e w3 ⟨rfl, hb⟩
          have HB3 := Aside0.mk (HB2.out.trans (hb.mono HB2.out.size))
          clear hb HB2
          go_wp2_with fail
          go_ret2
          exact ⟨rfl, HB3.out⟩
        · have hne := text_ne he
          rw [if_neg he] at hp
          have HP := Aside0.mk (show (if m then paramN n b k = V ∧ b.size < n ∧ b.size ≤ 1000000000000 else V = (⟨#[]⟩, false)) by
            cases m with
            | true =>
              have := hlt rfl
              rw [if_pos rfl] at hp
              rw [if_pos rfl]
              exact ⟨hp, by omega, by omega⟩
            | false =>
              rw [if_neg (by simp)] at hp
              rw [if_neg (by simp)]
              exact hp.symm)
          clear hl hz hle hlt hp
          go_wp2_with fail
          refine (h1 _).mono ?_
          rintro e w2 ⟨rfl, hb⟩
          have HB2 := Aside0.mk (HB1.out.trans (hb.mono HB1.out.size))
          clear hb HB1
          go_wp2_with fail
          refine (h2 _).mono ?_
          rintro e w3 ⟨rfl, hb⟩
          have HB3 := Aside0.mk (HB2.out.trans (hb.mono HB2.out.size))
          clear hb HB2
          go_wp2_with fail
          go_roundg n
          case measure => omega
          case rel => exact ⟨b, m, rfl, rfl, HP, HB3⟩
set_option maxHeartbeats 4000000 in
set_option maxRecDepth 100000 in
theorem param_ref_calls (s k : ByteArray) (w : World) (hs : s.size ≤ 1000000000000) :
    Calls Try.prog 12 #[.string s, .string k] w fun e w' => e = .returned (.tuple #[.string (paramF s k).1, .bool (paramF s k).2]) ∧ Below w.heap.size w w' := by
  have HB := Aside0.mk (Below.refl w.heap.size w)
  obtain ⟨V, hV⟩ : ∃ V, paramF s k = V := ⟨_, rfl⟩
  rw [hV]
  have HV := Aside0.mk hV
  have HS := Aside0.mk hs
  clear hV hs
  go_enter Try.func12, Try.ntmps12
  go_wp2_with fail
  go_loopg [0] (s.size + 1) (fun kq v0 w' => ∃ (c : ByteArray), v0 = .string c ∧ Aside0 (paramN kq c k = V ∧ c.size < kq ∧ c.size ≤ 1000000000000) ∧ Aside0 (Below w.heap.size w w'))
  case atStart => exact ⟨s, rfl, ⟨HV.out, Nat.lt_succ_self _, HS.out⟩, HB⟩
  case round =>
    obtain ⟨c, rfl, HK, HB1⟩ := hrel
    obtain ⟨hp, hl, hz⟩ := HK.out
    clear HK
    cases gk with
    | zero => exact absurd hl (by omega)
    | succ n =>
      unfold paramN at hp
      have h1 := fun w => refCut_calls c 38 w hz
      have h2 := fun w => refCut_calls (cutA c 38) 61 w (Nat.le_trans (cutA_size c 38) hz)
      rw [cutE_eq] at h1
      rw [cutE_eq] at h2
      have hle := cutB_size c 38
      have hlt := cutB_less c 38
      generalize cutA c 38 = a at *
      generalize cutB c 38 = b at *
      generalize cutM c 38 = m at *
      generalize cutA a 61 = x at *
      generalize cutB a 61 = y at *
      generalize cutM a 61 = z at *
      by_cases he : x = k
      · subst he
        rw [if_pos rfl] at hp
        subst hp
        clear hl hz hle hlt
        go_wp2_with fail
        refine (h1 _).mono ?_
        rintro e w2 ⟨rfl, hb⟩
        have HB2 := Aside0.mk (HB1.out.trans (hb.mono HB1.out.size))
        clear hb HB1
        go_wp2_with fail
        refine (h2 _).mono ?_
        rintro e w3 ⟨rfl, hb⟩
        have HB3 := Aside0.mk (HB2.out.trans (hb.mono HB2.out.size))
        clear hb HB2
        go_wp2_with fail
        go_ret2
        exact ⟨rfl, HB3.out⟩
      · have hne := text_ne he
        rw [if_neg he] at hp
        cases m with
        | true =>
          rw [if_pos rfl] at hp
          have HP := Aside0.mk (show paramN n b k = V ∧ b.size < n ∧ b.size ≤ 1000000000000 by
            have := hlt rfl
            exact ⟨hp, by omega, by omega⟩)
          clear hl hz hle hlt hp
          go_wp2_with fail
          refine (h1 _).mono ?_
          rintro e w2 ⟨rfl, hb⟩
          have HB2 := Aside0.mk (HB1.out.trans (hb.mono HB1.out.size))
          clear hb HB1
          go_wp2_with fail
          refine (h2 _).mono ?_
          rintro e w3 ⟨rfl, hb⟩
          have HB3 := Aside0.mk (HB2.out.trans (hb.mono HB2.out.size))
          clear hb HB2
          go_wp2_with fail
          go_roundg n
          case measure => omega
          case rel => exact ⟨b, rfl, HP, HB3⟩
        | false =>
          rw [if_neg (by simp)] at hp
          subst hp
          clear hl hz hle hlt
          go_wp2_with fail
          refine (h1 _).mono ?_
          rintro e w2 ⟨rfl, hb⟩
          have HB2 := Aside0.mk (HB1.out.trans (hb.mono HB1.out.size))
          clear hb HB1
          go_wp2_with fail
          refine (h2 _).mono ?_
          rintro e w3 ⟨rfl, hb⟩
          have HB3 := Aside0.mk (HB2.out.trans (hb.mono HB2.out.size))
          clear hb HB2
          go_wp2_with fail
          go_ret2
          exact ⟨rfl, HB3.out⟩
end Go.Proofs.Ytfoflodgegehfaa.M
