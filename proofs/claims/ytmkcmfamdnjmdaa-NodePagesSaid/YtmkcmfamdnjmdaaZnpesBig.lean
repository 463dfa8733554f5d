import Derived.Test.YtmkcmfamdnjmdaaZnpesPlain
import Derived.Laws.BitsAllLaws
import Derived.Test.YtmkcmfamdnjmdaaZnpesWMore
set_option linter.unusedSimpArgs false
set_option linter.unusedVariables false
namespace Go.Proofs.Ytmkcmfamdnjmdaa.Pl
open Go.RowKit Go.Proofs.YtmkcmfamdnjmdaaW.PrintWords Go.Proofs.YtmkcmfamdnjmdaaW.PrintMore
/-- The last j bytes of a number. -/
def bt (x : Int) : Nat → List Int
  | 0 => []
  | j + 1 => x / 256 ^ j % 256 :: bt x j
theorem bt_snoc (x : Int) : ∀ j, bt x (j + 1) = bt (x / 256) j ++ [x % 256]
  | 0 => by simp [bt]
  | j + 1 => by
    have ih := bt_snoc x j
    have h1 : x / 256 ^ (j + 1) = x / 256 / 256 ^ j := by
      rw [Int.ediv_ediv_of_nonneg (by omega), Int.pow_succ, Int.mul_comm]
    show x / 256 ^ (j + 1) % 256 :: bt x (j + 1) = (x / 256 / 256 ^ j % 256 :: bt (x / 256) j) ++ [x % 256]
    rw [ih, h1]
    rfl
theorem bt_8 (x : Int) : bt x 8 = b8 x := by
  simp [bt, b8]
end Go.Proofs.Ytmkcmfamdnjmdaa.Pl
