/- Words on numbers' bits that the printed functions use. -/
import Derived.Test.YtpbcjhckhocgeaaPlain
import Derived.Laws.BitsAllLaws
import Derived.Test.YtpbcjhckhocgeaaWMore
set_option linter.unusedSimpArgs false
set_option linter.unusedVariables false
namespace Go.Proofs.Ytpbcjhckhocgeaa.Pl
open Go.RowKit Go.Proofs.YtpbcjhckhocgeaaW.PrintWords Go.Proofs.YtpbcjhckhocgeaaW.PrintMore

/-- The last j bytes of a number. -/
def bt (x : Int) : Nat → List Int
  | 0 => []
  | j + 1 => x / 256 ^ j % 256 :: bt x j
theorem bt_length (x : Int) : ∀ j, (bt x j).length = j
  | 0 => rfl
  | j + 1 => by simp [bt, bt_length x j]
theorem bt_snoc (x : Int) : ∀ j, bt x (j + 1) = bt (x / 256) j ++ [x % 256]
  | 0 => by simp [bt]
  | j + 1 => by
    have ih := bt_snoc x j
    have h1 : x / 256 ^ (j + 1) = x / 256 / 256 ^ j := by
      rw [Int.ediv_ediv_of_nonneg (by omega), Int.pow_succ, Int.mul_comm]
    show x / 256 ^ (j + 1) % 256 :: bt x (j + 1) = (x / 256 / 256 ^ j % 256 :: bt (x / 256) j) ++ [x % 256]
    rw [ih, h1]
    rfl
theorem bt_8 (x : Int) : bt x 8 = b8 x := by
  simp [bt, b8]

theorem xor_all (t : Int) (h0 : 0 ≤ t) (h1 : t < 18446744073709551616) : Go.bits .xor .u64 18446744073709551615 t = 18446744073709551615 - t := by
  obtain ⟨T, rfl⟩ := Int.eq_ofNat_of_zero_le h0
  show IntKind.u64.wrap ((BitVec.ofInt 64 18446744073709551615 ^^^ BitVec.ofInt 64 (T : Int)).toNat : Int) = _
  have h2 : BitVec.ofInt 64 18446744073709551615 = BitVec.allOnes 64 := by decide
  rw [h2, BitVec.allOnes_xor, BitVec.toNat_not, ofInt_u64 T (by omega), IntKind.wrap_u64]
  omega
theorem or_byte (x c : Int) (h0 : 0 ≤ x) (h1 : x < 72057594037927936) (hc : Byte c) : Go.bits .or .u64 (IntKind.u64.wrap (x * 256)) (IntKind.u64.wrap c) = x * 256 + c := by
  unfold Byte at hc
  rw [wrapU64_id (by omega) (by omega), wrapU64_id (by omega) (by omega), u64_or _ _ (by omega) (by omega) (by omega) (by omega)]
  obtain ⟨X, rfl⟩ := Int.eq_ofNat_of_zero_le h0
  obtain ⟨C, rfl⟩ := Int.eq_ofNat_of_zero_le hc.1
  have e : ((X : Int) * 256).toNat = X <<< 8 := by
    rw [Nat.shiftLeft_eq]; omega
  rw [e, Int.toNat_natCast, ← Nat.shiftLeft_add_eq_or_of_lt (by omega), Nat.shiftLeft_eq]
  omega
theorem shr_bytes (x : Int) (j : Nat) (hj : j ≤ 8) : shr .u64 x (8 * (j : Int)) = x / 256 ^ j := by
  unfold shr
  have h1 : min (8 * (j : Int)).toNat (IntKind.bits .u64) = 8 * j := by
    show min _ 64 = _
    omega
  rw [h1, Int.pow_mul]
  rfl
end Go.Proofs.Ytpbcjhckhocgeaa.Pl
