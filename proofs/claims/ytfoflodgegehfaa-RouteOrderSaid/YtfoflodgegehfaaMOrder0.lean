/- What a route's status is (plain). -/
import Derived.Test.YtfoflodgegehfaaMAwake21
set_option linter.unusedVariables false
set_option linter.unusedSimpArgs false
namespace Go.Proofs.Ytfoflodgegehfaa.M
open Go.RowKit Go.Maps Go.Proofs.YtfoflodgegehfaaW.PrintWords Go.Proofs.YtfoflodgegehfaaW.PrintLast Go.Proofs.YtfoflodgegehfaaW.PrintMore
attribute [local go_sem] max2_int min2_int max_two min_two max_three min_three max_four min_four
attribute [local go_sem ↓] Go.wp_at_zero Go.wp_at_succ
theorem route_status {r : Req} {body : ByteArray} (h : (bytesF r body).2 ≠ 200) : (routeF r body).2.2 = (bytesF r body).2 := by
  unfold routeF
  rw [if_pos h]
theorem routeS_status {s : ByteArray} (h : s.size ≤ 65535) : (routeS s).2.2 = 200 ∨ (routeS s).2.2 = 400 := by
  unfold routeS
  rw [if_neg (by rw [readF_three]; omega)]
  split
  · exact .inr rfl
  · split
    · exact .inr rfl
    · exact .inl rfl
theorem routeS_long {s : ByteArray} (h : 65535 < s.size) : (routeS s).2.2 = 413 := by
  unfold routeS
  rw [if_pos ((readF_three s).2 h)]
theorem route_404 {r : Req} {body : ByteArray} (h : cutA r.path 63 ≠ epT) : (routeF r body).2.2 = 404 := by
  have e : bytesF r body = (⟨#[]⟩, 404) := if_pos h
  rw [route_status (by rw [e]; decide), e]
theorem route_405 {r : Req} {body : ByteArray} (h : cutA r.path 63 = epT) (h1 : r.method ≠ postT) (h2 : r.method ≠ getT) : (routeF r body).2.2 = 405 := by
  have e : bytesF r body = (⟨#[]⟩, 405) := by unfold bytesF; rw [if_neg (by simp [h]), if_neg h1, if_pos h2]
  rw [route_status (by rw [e]; decide), e]
theorem route_415 {r : Req} {body : ByteArray} (h : cutA r.path 63 = epT) (h1 : r.method = postT) (h2 : r.media ≠ mediaT) : (routeF r body).2.2 = 415 := by
  have e : bytesF r body = (⟨#[]⟩, 415) := by unfold bytesF; rw [if_neg (by simp [h]), if_pos h1, if_pos h2]
  rw [route_status (by rw [e]; decide), e]
theorem route_post {r : Req} {body : ByteArray} (h : cutA r.path 63 = epT) (h1 : r.method = postT) (h2 : r.media = mediaT) : routeF r body = routeS body := by
  have e : bytesF r body = (body, 200) := by unfold bytesF; rw [if_neg (by simp [h]), if_pos h1, if_neg (by simp [h2])]
  unfold routeF
  rw [e, if_neg (by simp)]
theorem post_get : postT ≠ getT := by decide
theorem route_get {r : Req} {body : ByteArray} (h : cutA r.path 63 = epT) (h1 : r.method = getT) :
    routeF r body = if (getF' (cutB r.path 63)).2 ≠ 200 then (zM, zKey, (getF' (cutB r.path 63)).2) else routeS (getF' (cutB r.path 63)).1 := by
  have e : bytesF r body = getF' (cutB r.path 63) := by unfold bytesF; rw [if_neg (by simp [h]), if_neg (by rw [h1]; exact fun e => post_get e.symm), if_neg (by simp [h1])]
  unfold routeF
  rw [e]
theorem getF_status (q : ByteArray) : (getF' q).2 = 400 ∨ (getF' q).2 = 200 ∧ (getF' q).1.size ≤ q.size := by
  unfold getF'
  have h1 := decB_size (paramF q dnsT).1
  have h2 := paramF_size q dnsT
  generalize decB (paramF q dnsT).1 = d at *
  split
  · exact .inl rfl
  · split
    · exact .inl rfl
    · exact .inr ⟨rfl, Nat.le_trans h1 h2⟩
theorem route_get_status {r : Req} {body : ByteArray} (h : cutA r.path 63 = epT) (h1 : r.method = getT) (hp : r.path.size ≤ 5000) : (routeF r body).2.2 = 200 ∨ (routeF r body).2.2 = 400 := by
  rw [route_get h h1]
  have h3 := cutB_size r.path 63
  rcases getF_status (cutB r.path 63) with e | ⟨e, hz⟩
  · rw [e, if_pos (by decide)]
    exact .inr rfl
  · rw [e, if_neg (by simp)]
    exact routeS_status (by omega)
end Go.Proofs.Ytfoflodgegehfaa.M
