/- Walk of route.bytes. -/
import Derived.Test.YtfoflodgegehfaaMParam
import Derived.Test.YtfoflodgegehfaaMB64c
import Derived.Test.YtfoflodgegehfaaMQuery
set_option linter.unusedVariables false
set_option linter.unusedSimpArgs false
namespace Go.Proofs.Ytfoflodgegehfaa.M
open Go.RowKit Go.Maps Go.Proofs.YtfoflodgegehfaaW.PrintWords Go.Proofs.YtfoflodgegehfaaW.PrintLast Go.Proofs.YtfoflodgegehfaaW.PrintMore
attribute [local go_sem] max2_int min2_int max_two min_two max_three min_three max_four min_four
attribute [local go_sem ↓] Go.wp_at_zero Go.wp_at_succ
/-- A request. -/
structure Req where
  method : ByteArray
  path : ByteArray
  text : ByteArray
  media : ByteArray
  has : Bool
  len : Int
def Req.cs (r : Req) : Array Value := #[.string r.method, .string r.path, .string r.text, .string r.media, .bool r.has, .int .i64 r.len]
def Req.v (r : Req) : Value := .agg r.cs
def epT : ByteArray := ⟨#[47, 100, 110, 115, 45, 113, 117, 101, 114, 121]⟩
def postT : ByteArray := ⟨#[80, 79, 83, 84]⟩
def getT : ByteArray := ⟨#[71, 69, 84]⟩
def mediaT : ByteArray := ⟨#[97, 112, 112, 108, 105, 99, 97, 116, 105, 111, 110, 47, 100, 110, 115, 45, 109, 101, 115, 115, 97, 103, 101]⟩
def dnsT : ByteArray := ⟨#[100, 110, 115]⟩
/-- What a GET carries, or 400. -/
def getF' (q : ByteArray) : ByteArray × Int :=
  if (paramF q dnsT).2 = false then (⟨#[]⟩, 400) else if (decB (paramF q dnsT).1).2 = false then (⟨#[]⟩, 400) else ((decB (paramF q dnsT).1).1, 200)
/-- What a request carries, or the status that it has instead. -/
def bytesF (r : Req) (body : ByteArray) : ByteArray × Int :=
  if cutA r.path 63 ≠ epT then (⟨#[]⟩, 404) else if r.method = postT then (if r.media ≠ mediaT then (⟨#[]⟩, 415) else (body, 200)) else
  if r.method ≠ getT then (⟨#[]⟩, 405) else getF' (cutB r.path 63)
theorem paramN_size (n : Nat) : ∀ (s k : ByteArray), (paramN n s k).1.size ≤ s.size := by
  induction n with
  | zero => intro s k; exact Nat.zero_le _
  | succ n ih =>
    intro s k
    unfold paramN
    split
    · exact Nat.le_trans (cutB_size _ _) (cutA_size _ _)
    · split
      · exact Nat.le_trans (ih _ _) (cutB_size _ _)
      · exact Nat.zero_le _
theorem paramF_size (s k : ByteArray) : (paramF s k).1.size ≤ s.size := paramN_size _ _ _
theorem const_yes {s t : ByteArray} (h : s = t) {L : List UInt8} (hL : t.data.toList = L) : (s.toList == L) = true ∧ (!s.toList == L) = false ∧ s.toList = L := by
  subst h
  rw [Lib.toList_data, hL]
  simp
theorem const_no {s t : ByteArray} (h : s ≠ t) {L : List UInt8} (hL : t.data.toList = L) : (s.toList == L) = false ∧ (!s.toList == L) = true ∧ ¬ s.toList = L := by
  have e : ¬ s.toList = L := by
    rw [← hL, Lib.toList_data]
    intro e
    exact h (ByteArray.ext (Array.ext' e))
  have e1 : (s.toList == L) = false := beq_eq_false_iff_ne.mpr e
  exact ⟨e1, by rw [e1]; rfl, e⟩
set_option maxHeartbeats 8000000 in
set_option maxRecDepth 100000 in
theorem bytes_calls (r : Req) (body : ByteArray) (w : World) (hp : r.path.size ≤ 100000) :
    Calls Try.prog 24 #[r.v, .string body] w fun e w' => e = .returned (.tuple #[.string (bytesF r body).1, .int .i64 (bytesF r body).2]) ∧ Below w.heap.size w w' := by
  obtain ⟨R, hR⟩ : ∃ R, bytesF r body = R := ⟨_, rfl⟩
  rw [hR]
  unfold bytesF at hR
  have hs := fun w => split_route_calls r.path w (by omega)
  have hq1 := fun w => param_calls (cutB r.path 63) dnsT w (by have := cutB_size r.path 63; omega)
  have hq2 := fun w => decode_calls (paramF (cutB r.path 63) dnsT).1 w (by have := paramF_size (cutB r.path 63) dnsT; have := cutB_size r.path 63; omega)
  unfold getF' at hR
  generalize cutA r.path 63 = a at *
  generalize cutB r.path 63 = q at *
  generalize paramF q dnsT = pr at *
  generalize decB pr.1 = de at *
  obtain ⟨pv, pb⟩ := pr
  obtain ⟨dv, db⟩ := de
  obtain ⟨me, pa, te, md, ha, le⟩ := r
  simp only [Req.v, Req.cs] at *
  have HQ1 := Aside0.mk hq1
  have HQ2 := Aside0.mk hq2
  clear hq1 hq2 hp
  go_enter Try.func24, Try.ntmps24
  go_upto_region 1 with fail
  have HX1 := Aside0.mk (SAt.new w #[.string me, .string pa, .string te, .string md, .bool ha, .int .i64 le] 30)
  have HB1 := Aside0.mk (below_alloc (Below.refl w.heap.size w) (.cells #[.string me, .string pa, .string te, .string md, .bool ha, .int .i64 le] 30 (0, 0)))
  generalize hW : w.alloc (.cells #[.string me, .string pa, .string te, .string md, .bool ha, .int .i64 le] 30 (0, 0)) = w1 at *
  clear hW
  have z0 := HX1.out.is 0 rfl
  have z1 := HX1.out.is 1 rfl
  have z2 := HX1.out.is 2 rfl
  have z3 := HX1.out.is 3 rfl
  have z4 := HX1.out.is 4 rfl
  have z5 := HX1.out.is 5 rfl
  go_wp2_with fail
  refine (hs _).mono ?_
  rintro e w2 ⟨rfl, hb⟩
  have HX2 := Aside0.mk (HX1.out.below hb)
  have HB2 := Aside0.mk (below_step HB1.out hb)
  clear z0 z1 z2 z3 z4 z5 hb HX1 HB1 hs
  have z0 := HX2.out.is 0 rfl
  have z1 := HX2.out.is 1 rfl
  have z2 := HX2.out.is 2 rfl
  have z3 := HX2.out.is 3 rfl
  have z4 := HX2.out.is 4 rfl
  have z5 := HX2.out.is 5 rfl
  by_cases c1 : a ≠ epT
  · rw [if_pos c1] at hR
    subst hR
    obtain ⟨d1, d2, d3⟩ := const_no c1 (L := [47, 100, 110, 115, 45, 113, 117, 101, 114, 121]) rfl
    clear c1
    go_wp2_with fail
    go_ret2
    exact ⟨rfl, HB2.out⟩
  rw [if_neg c1] at hR
  obtain ⟨d1, d2, d3⟩ := const_yes (Decidable.not_not.mp c1) (L := [47, 100, 110, 115, 45, 113, 117, 101, 114, 121]) rfl
  clear c1
  by_cases c2 : me = postT
  · rw [if_pos c2] at hR
    obtain ⟨d4, d5, d6⟩ := const_yes c2 (L := [80, 79, 83, 84]) rfl
    clear c2
    by_cases c3 : md ≠ mediaT
    · rw [if_pos c3] at hR
      subst hR
      obtain ⟨d7, d8, d9⟩ := const_no c3 (L := [97, 112, 112, 108, 105, 99, 97, 116, 105, 111, 110, 47, 100, 110, 115, 45, 109, 101, 115, 115, 97, 103, 101]) rfl
      clear c3
      go_wp2_with fail
      go_ret2
      exact ⟨rfl, HB2.out⟩
    rw [if_neg c3] at hR
    obtain ⟨d7, d8, d9⟩ := const_yes (Decidable.not_not.mp c3) (L := [97, 112, 112, 108, 105, 99, 97, 116, 105, 111, 110, 47, 100, 110, 115, 45, 109, 101, 115, 115, 97, 103, 101]) rfl
    subst hR
    clear c3
    go_wp2_with fail
    go_ret2
    exact ⟨rfl, HB2.out⟩
  rw [if_neg c2] at hR
  obtain ⟨d4, d5, d6⟩ := const_no c2 (L := [80, 79, 83, 84]) rfl
  clear c2
  by_cases c3 : me ≠ getT
  · rw [if_pos c3] at hR
    subst hR
    obtain ⟨d7, d8, d9⟩ := const_no c3 (L := [71, 69, 84]) rfl
    clear c3
    go_wp2_with fail
    go_ret2
    exact ⟨rfl, HB2.out⟩
  rw [if_neg c3] at hR
  obtain ⟨d7, d8, d9⟩ := const_yes (Decidable.not_not.mp c3) (L := [71, 69, 84]) rfl
  clear c3
  go_wp2_with fail
  refine (HQ1.out _).mono ?_
  rintro e w3 ⟨rfl, hb⟩
  have HB3 := Aside0.mk (below_step HB2.out hb)
  clear z0 z1 z2 z3 z4 z5 hb HX2 HB2 d1 d2 d3 d4 d5 d6 d7 d8 d9
  go_wp2_with fail
  refine (HQ2.out _).mono ?_
  rintro e w4 ⟨rfl, hb⟩
  have HB4 := Aside0.mk (below_step HB3.out hb)
  clear hb HB3
  cases pb with
  | false =>
    rw [if_pos rfl] at hR
    subst hR
    go_wp2_with fail
    go_ret2
    exact ⟨rfl, HB4.out⟩
  | true =>
    rw [if_neg (by simp)] at hR
    cases db with
    | false =>
      rw [if_pos rfl] at hR
      subst hR
      go_wp2_with fail
      go_ret2
      exact ⟨rfl, HB4.out⟩
    | true =>
      rw [if_neg (by simp)] at hR
      subst hR
      go_wp2_with fail
      go_ret2
      exact ⟨rfl, HB4.out⟩
end Go.Proofs.Ytfoflodgegehfaa.M
