import Derived.Test.YtmphdmhpfghfkaaDoorZkoerPlain
import Derived.Laws.BitsAllLaws
import Derived.Test.YtmphdmhpfghfkaaDoorZkoerWMore
set_option linter.unusedSimpArgs false
set_option linter.unusedVariables false
namespace Go.Proofs.YtmphdmhpfghfkaaDoor.Pl
open Go.RowKit Go.Proofs.YtmphdmhpfghfkaaDoorW.PrintWords Go.Proofs.YtmphdmhpfghfkaaDoorW.PrintMore
/-- The last j bytes of a number. -/
def bt (x : Int) : Nat → List Int
  | 0 => []
  | j + 1 => x / 256 ^ j % 256 :: bt x j
theorem bt_8 (x : Int) : bt x 8 = b8 x := by
  simp [bt, b8]
theorem shr_bytes (x : Int) (j : Nat) (hj : j ≤ 8) : shr .u64 x (8 * (j : Int)) = x / 256 ^ j := by
  unfold shr
  have h1 : min (8 * (j : Int)).toNat (IntKind.bits .u64) = 8 * j := by
    show min _ 64 = _
    omega
  rw [h1, Int.pow_mul]
  rfl
end Go.Proofs.YtmphdmhpfghfkaaDoor.Pl
