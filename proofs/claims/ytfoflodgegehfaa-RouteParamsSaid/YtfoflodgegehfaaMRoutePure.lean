/- What the paths of a message say (plain). -/
import Derived.Test.YtfoflodgegehfaaMOrder0
set_option linter.unusedVariables false
set_option linter.unusedSimpArgs false
namespace Go.Proofs.Ytfoflodgegehfaa.M
open Go.RowKit Go.Maps Go.Proofs.YtfoflodgegehfaaW.PrintWords Go.Proofs.YtfoflodgegehfaaW.PrintLast Go.Proofs.YtfoflodgegehfaaW.PrintMore
theorem head_app (l r : List Int) (d : Int) (h : ∀ c ∈ l, c ≠ d) : headI (l ++ d :: r) d = l := by
  unfold headI
  rw [List.takeWhile_append_of_pos (by intro c hc; simpa using h c hc), List.takeWhile_cons]
  simp
theorem cut_app {a b s : ByteArray} {d : Int} (hs : bytesOf s = bytesOf a ++ d :: bytesOf b) (h : ∀ c ∈ bytesOf a, c ≠ d) : cutA s d = a ∧ cutB s d = b ∧ cutM s d = true := by
  have hc : (bytesOf s).contains d = true := by rw [hs]; simp
  refine ⟨?_, ?_, hc⟩
  · unfold cutA
    rw [if_pos hc, hs, head_app _ _ _ h, B64.str_bytes]
  · unfold cutB tailI
    rw [if_pos hc, hs, head_app _ _ _ h, List.drop_append, List.drop_of_length_le (by omega), show (bytesOf a).length + 1 - (bytesOf a).length = 1 by omega]
    show strOfNums (bytesOf b) = b
    exact B64.str_bytes b
theorem cut_none {s : ByteArray} {d : Int} (h : ∀ c ∈ bytesOf s, c ≠ d) : cutA s d = s ∧ cutB s d = ⟨#[]⟩ ∧ cutM s d = false := by
  have hc : (bytesOf s).contains d = false := by
    cases e : (bytesOf s).contains d with
    | false => rfl
    | true => exact absurd rfl (h d (List.contains_iff_mem.1 e))
  refine ⟨?_, ?_, hc⟩
  · unfold cutA; rw [if_neg (by rw [hc]; simp)]
  · unfold cutB; rw [if_neg (by rw [hc]; simp)]
theorem sgn_odd : ∀ n ∈ List.range 64, B64.b64h_sgn (n : Int) ≠ 38 ∧ B64.b64h_sgn (n : Int) ≠ 61 ∧ B64.b64h_sgn (n : Int) ≠ 63 := by decide +kernel
theorem sgn_odd1 (v : Int) : B64.b64h_sgn (v % 64) ≠ 38 ∧ B64.b64h_sgn (v % 64) ≠ 61 ∧ B64.b64h_sgn (v % 64) ≠ 63 := by
  obtain ⟨n, hn⟩ := Int.eq_ofNat_of_zero_le (show 0 ≤ v % 64 by omega)
  rw [hn]
  exact sgn_odd n (List.mem_range.2 (by omega))
theorem enc_odd (l : List Int) : ∀ b h : Int, ∀ y ∈ B64.b64h_encGo l b h, y ≠ 38 ∧ y ≠ 61 ∧ y ≠ 63 := by
  induction l with
  | nil =>
    intro b h y hy
    unfold B64.b64h_encGo at hy
    split at hy
    · rw [List.mem_singleton.1 hy]; exact sgn_odd1 _
    · exact absurd hy (by simp)
  | cons c t ih =>
    intro b h y hy
    unfold B64.b64h_encGo at hy
    split at hy
    · rcases List.mem_cons.1 hy with rfl | hy
      · exact sgn_odd1 _
      · exact ih _ _ y hy
    · split at hy
      · rcases List.mem_cons.1 hy with rfl | hy
        · exact sgn_odd1 _
        · exact ih _ _ y hy
      · rcases List.mem_cons.1 hy with rfl | hy
        · exact sgn_odd1 _
        · rcases List.mem_cons.1 hy with rfl | hy
          · exact sgn_odd1 _
          · exact ih _ _ y hy
theorem encB_odd (s : ByteArray) : ∀ y ∈ bytesOf (encB s), y ≠ 38 ∧ y ≠ 61 ∧ y ≠ 63 := by
  rw [encB_bytes]
  exact enc_odd _ _ _
/-- A dns that stands first. -/
theorem param_first {q v : ByteArray} {r : List Int} (hv : ∀ c ∈ bytesOf v, c ≠ 38) (hr : r = [] ∨ ∃ t, r = 38 :: t) (hq : bytesOf q = bytesOf dnsT ++ 61 :: bytesOf v ++ r) (n : Nat) : paramN (n + 1) q dnsT = (v, true) := by
  have h1 : ∀ c ∈ bytesOf dnsT, c ≠ 38 ∧ c ≠ 61 := by decide
  have hone : ∃ one, bytesOf one = bytesOf dnsT ++ 61 :: bytesOf v ∧ cutA q 38 = one := by
    have hb : ∀ c ∈ bytesOf dnsT ++ 61 :: bytesOf v, c ≠ 38 := by
      intro c hc
      rcases List.mem_append.1 hc with hc | hc
      · exact (h1 c hc).1
      · rcases List.mem_cons.1 hc with rfl | hc
        · decide
        · exact hv c hc
    refine ⟨strOfNums (bytesOf dnsT ++ 61 :: bytesOf v), ?_, ?_⟩
    · rw [B64.bytes_str]
      intro x hx
      rw [← List.append_nil (bytesOf dnsT ++ 61 :: bytesOf v)] at hx
      have : x ∈ bytesOf q := by rw [hq]; rw [List.append_nil] at hx; exact List.mem_append.2 (.inl hx)
      exact B64.bytes_range q x this
    · rcases hr with rfl | ⟨t, rfl⟩
      · rw [List.append_nil] at hq
        rw [(cut_none (s := q) (d := 38) (by rw [hq]; exact hb)).1, ← hq, B64.str_bytes]
      · have hc : (bytesOf q).contains 38 = true := by rw [hq]; simp
        unfold cutA
        rw [if_pos hc, hq, head_app _ _ _ hb]
  obtain ⟨one, ho, hc⟩ := hone
  have h2 := cut_app (a := dnsT) (b := v) (s := one) ho (fun c hc => (h1 c hc).2)
  unfold paramN
  rw [hc, h2.1, h2.2.1, if_pos rfl]
/-- Another parameter is passed by. -/
theorem param_next {q o rest nm : ByteArray} {r : List Int} (ho : bytesOf o = bytesOf nm ++ 61 :: r) (h1 : ∀ c ∈ bytesOf nm, c ≠ 61) (h2 : ∀ c ∈ bytesOf o, c ≠ 38) (hq : bytesOf q = bytesOf o ++ 38 :: bytesOf rest) (hn : nm ≠ dnsT) (n : Nat) :
    paramN (n + 1) q dnsT = paramN n rest dnsT := by
  have c1 := cut_app hq h2
  have c2 : cutA o 61 = nm := by
    have hc : (bytesOf o).contains 61 = true := by rw [ho]; simp
    unfold cutA
    rw [if_pos hc, ho, head_app _ _ _ h1, B64.str_bytes]
  rw [paramN, c1.1, c2, if_neg hn, c1.2.2, if_pos rfl, c1.2.1]
theorem getF_dns {q m : ByteArray} (h : paramF q dnsT = (encB m, true)) : getF' q = (m, 200) := by
  unfold getF'
  rw [h]
  simp only []
  rw [decB_encB]
  simp
/-- A GET of such a path asks for what the bytes say. -/
theorem route_path {p q m body : ByteArray} (hp : bytesOf p = bytesOf epT ++ 63 :: bytesOf q) (hq : paramF q dnsT = (encB m, true)) : routeF (getR p) body = routeS m := by
  have h1 : ∀ c ∈ bytesOf epT, c ≠ 63 := by decide
  have c := cut_app hp h1
  rw [route_get (r := getR p) c.1 rfl]
  show (if (getF' (cutB p 63)).2 ≠ 200 then _ else routeS (getF' (cutB p 63)).1) = _
  rw [c.2.1, getF_dns hq, if_neg (by simp)]
theorem headT_bytes : bytesOf headT = bytesOf epT ++ 63 :: (bytesOf dnsT ++ [61]) := by decide
theorem target_bytes (m : ByteArray) : bytesOf (targetF m) = bytesOf epT ++ 63 :: (bytesOf dnsT ++ 61 :: bytesOf (encB m)) := by
  unfold targetF
  rw [B64.bytes_app, headT_bytes]
  simp
theorem str_of (l : List Int) (s : ByteArray) (h : ∀ x ∈ l, x ∈ bytesOf s) : bytesOf (strOfNums l) = l := B64.bytes_str l (fun x hx => B64.bytes_range s x (h x hx))
/-- A message's own path, with or without more behind it. -/
theorem route_target {m body p : ByteArray} {r : List Int} (hr : r = [] ∨ ∃ t, r = 38 :: t) (hp : bytesOf p = bytesOf (targetF m) ++ r) : routeF (getR p) body = routeS m := by
  rw [target_bytes] at hp
  obtain ⟨q, hq⟩ : ∃ q, bytesOf q = bytesOf dnsT ++ 61 :: bytesOf (encB m) ++ r := by
    refine ⟨strOfNums (bytesOf dnsT ++ 61 :: bytesOf (encB m) ++ r), str_of _ p ?_⟩
    intro x hx
    rw [hp]
    simp only [List.append_assoc, List.cons_append, List.mem_append, List.mem_cons] at hx ⊢
    exact .inr (.inr hx)
  refine route_path (q := q) ?_ ?_
  · rw [hp, hq]
    simp
  · exact param_first (fun c hc => (encB_odd m c hc).1) hr hq _
theorem route_other {m body p o nm : ByteArray} {r : List Int} (ho : bytesOf o = bytesOf nm ++ 61 :: r) (h1 : ∀ c ∈ bytesOf nm, c ≠ 61) (h2 : ∀ c ∈ bytesOf o, c ≠ 38) (hn : nm ≠ dnsT)
    (hp : bytesOf p = bytesOf epT ++ 63 :: (bytesOf o ++ 38 :: (bytesOf dnsT ++ 61 :: bytesOf (encB m)))) : routeF (getR p) body = routeS m := by
  obtain ⟨rest, hrest⟩ : ∃ q, bytesOf q = bytesOf dnsT ++ 61 :: bytesOf (encB m) := by
    refine ⟨strOfNums (bytesOf dnsT ++ 61 :: bytesOf (encB m)), str_of _ p ?_⟩
    intro x hx
    rw [hp]
    simp only [List.mem_append, List.mem_cons] at hx ⊢
    exact .inr (.inr (.inr (.inr hx)))
  obtain ⟨q, hq⟩ : ∃ q, bytesOf q = bytesOf o ++ 38 :: bytesOf rest := by
    refine ⟨strOfNums (bytesOf o ++ 38 :: bytesOf rest), str_of _ p ?_⟩
    intro x hx
    rw [hp]
    rw [hrest] at hx
    simp only [List.mem_append, List.mem_cons] at hx ⊢
    exact .inr (.inr hx)
  have hz : q.size ≠ 0 := by
    have := congrArg List.length hq
    rw [bytesOf_length, List.length_append, List.length_cons] at this
    omega
  refine route_path (q := q) (by rw [hp, hq, hrest]) ?_
  unfold paramF
  rw [param_next ho h1 h2 hq hn]
  obtain ⟨n, hn⟩ : ∃ n, q.size = n + 1 := ⟨q.size - 1, by omega⟩
  rw [hn]
  exact param_first (r := []) (fun c hc => (encB_odd m c hc).1) (.inl rfl) (by rw [hrest, List.append_nil]) _
end Go.Proofs.Ytfoflodgegehfaa.M
