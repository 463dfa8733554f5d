import Derived.Test.YtmphdmhpfghfkaaDoorZkbckPlain
import Derived.Laws.BitsAllLaws
import Derived.Test.YtmphdmhpfghfkaaDoorZkbckWMore
set_option linter.unusedSimpArgs false
set_option linter.unusedVariables false
namespace Go.Proofs.YtmphdmhpfghfkaaDoor.Pl
open Go.RowKit Go.Proofs.YtmphdmhpfghfkaaDoorW.PrintWords Go.Proofs.YtmphdmhpfghfkaaDoorW.PrintMore
/-- The last j bytes of a number. -/
def bt (x : Int) : Nat → List Int
  | 0 => []
  | j + 1 => x / 256 ^ j % 256 :: bt x j
theorem bt_8 (x : Int) : bt x 8 = b8 x := by
  simp [bt, b8]
theorem or_byte (x c : Int) (h0 : 0 ≤ x) (h1 : x < 72057594037927936) (hc : Byte c) : Go.bits .or .u64 (IntKind.u64.wrap (x * 256)) (IntKind.u64.wrap c) = x * 256 + c := by
  unfold Byte at hc
  rw [wrapU64_id (by omega) (by omega), wrapU64_id (by omega) (by omega), u64_or _ _ (by omega) (by omega) (by omega) (by omega)]
  obtain ⟨X, rfl⟩ := Int.eq_ofNat_of_zero_le h0
  obtain ⟨C, rfl⟩ := Int.eq_ofNat_of_zero_le hc.1
  have e : ((X : Int) * 256).toNat = X <<< 8 := by
    rw [Nat.shiftLeft_eq]; omega
  rw [e, Int.toNat_natCast, ← Nat.shiftLeft_add_eq_or_of_lt (by omega), Nat.shiftLeft_eq]
  omega
theorem shr_bytes (x : Int) (j : Nat) (hj : j ≤ 8) : shr .u64 x (8 * (j : Int)) = x / 256 ^ j := by
  unfold shr
  have h1 : min (8 * (j : Int)).toNat (IntKind.bits .u64) = 8 * j := by
    show min _ 64 = _
    omega
  rw [h1, Int.pow_mul]
  rfl
end Go.Proofs.YtmphdmhpfghfkaaDoor.Pl
