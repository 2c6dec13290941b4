/-
  THE WALK over ref39.Check: its parts joined.
-/
import Derived.Test.YtdnddikchchdkaaD3a
import Derived.Test.YtdnddikchchdkaaD3b
import Derived.Test.YtdnddikchchdkaaD3c
import Derived.Test.YtdnddikchchdkaaD3d
namespace Go.Proofs.Ytdnddikchchdkaa
open Go.RowKit

theorem refcheck39_any (farm next : Int) (p : Option Addr) (L : List De.Dbt) (cap : Nat) (w : World) (h : Debts w p L) :
    Calls Try.prog 36 #[accV farm p L.length cap next] w fun e w' => e = .returned (.int .i64 (De.chk farm L next)) ∧ Below w.heap.size w w' := by
  by_cases hE : ∃ k, k < L.length ∧ (∀ j, j < k → De.okAt L next j) ∧ ¬ De.okAt L next k
  · obtain ⟨k, hk, h1, h2⟩ := hE
    have uniq : ∀ k2, k2 < L.length → (∀ j, j < k2 → De.okAt L next j) → ¬ De.okAt L next k2 → k2 = k := fun k2 hk2 g1 g2 => by
      rcases Nat.lt_trichotomy k k2 with hlt | e | hlt
      · exact absurd (g1 k hlt) h2
      · exact e.symm
      · exact absurd (h1 k2 hlt) g2
    rcases grp_any h2 with g | g | g | g
    · exact refcheck39_A farm next p L cap w h fun k2 a b c => by rw [uniq k2 a b c]; exact g
    · exact refcheck39_B farm next p L cap w h fun k2 a b c => by rw [uniq k2 a b c]; exact g
    · exact refcheck39_C farm next p L cap w h fun k2 a b c => by rw [uniq k2 a b c]; exact g
    · exact refcheck39_D farm next p L cap w h fun k2 a b c => by rw [uniq k2 a b c]; exact g
  · exact refcheck39_A farm next p L cap w h fun k2 a b c => absurd ⟨k2, a, b, c⟩ hE

end Go.Proofs.Ytdnddikchchdkaa
