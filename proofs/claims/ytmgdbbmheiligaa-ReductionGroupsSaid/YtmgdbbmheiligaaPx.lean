/-
  PLAIN: a share of no more than all weights together is at most its weight.
-/
import Derived.Test.YtmgdbbmheiligaaPd
namespace Go.Proofs.Ytmgdbbmheiligaa.Sh

theorem Right.share_le' {t : Int} {ws : List Int} (h : Right t ws) (hle : t ≤ sum ws) {i : Nat} (hi : i < ws.length) : share t ws i ≤ ws.getD i 0 := by
  by_cases hlt : t < sum ws
  · exact h.share_le hlt hi
  · have e : t = sum ws := by omega
    have hr : rest t ws i = 0 := by unfold rest; rw [e]; exact Int.mul_emod_right _ _
    have hq : quo t ws i = ws.getD i 0 := by unfold quo; rw [e]; exact Int.mul_ediv_cancel_left _ h.hs
    unfold share
    rw [top_none (s := sum ws) (Nat.le_of_lt h.left_lt) (fun i _ => h.rest0 i) (fun i _ => h.rest1 i) h.left_eq.2 h.pos hi hr, hq]
    simp

end Go.Proofs.Ytmgdbbmheiligaa.Sh
