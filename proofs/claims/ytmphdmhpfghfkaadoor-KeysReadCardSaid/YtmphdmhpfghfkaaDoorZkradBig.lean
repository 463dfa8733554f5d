import Derived.Test.YtmphdmhpfghfkaaDoorZkradPlain
import Derived.Laws.BitsAllLaws
import Derived.Test.YtmphdmhpfghfkaaDoorZkradWMore
import Derived.Test.YtmphdmhpfghfkaaDoorZkradEv
set_option linter.unusedSimpArgs false
set_option linter.unusedVariables false
namespace Go.Proofs.YtmphdmhpfghfkaaDoor.Pl
open Go.RowKit Go.Proofs.YtmphdmhpfghfkaaDoorW.PrintWords Go.Proofs.YtmphdmhpfghfkaaDoorW.PrintMore
/-- The last j bytes of a number. -/
def bt (x : Int) : Nat → List Int
  | 0 => []
  | j + 1 => x / 256 ^ j % 256 :: bt x j
theorem bt_8 (x : Int) : bt x 8 = b8 x := by
  simp [bt, b8]
theorem or_byte (x c : Int) (h0 : 0 ≤ x) (h1 : x < 72057594037927936) (hc : Byte c) : Go.bits .or .u64 (IntKind.u64.wrap (x * 256)) (IntKind.u64.wrap c) = x * 256 + c := by
  unfold Byte at hc
  rw [wrapU64_id (by omega) (by omega), wrapU64_id (by omega) (by omega), u64_or _ _ (by omega) (by omega) (by omega) (by omega)]
  obtain ⟨X, rfl⟩ := Int.eq_ofNat_of_zero_le h0
  obtain ⟨C, rfl⟩ := Int.eq_ofNat_of_zero_le hc.1
  have e : ((X : Int) * 256).toNat = X <<< 8 := by
    rw [Nat.shiftLeft_eq]; omega
  rw [e, Int.toNat_natCast, ← Nat.shiftLeft_add_eq_or_of_lt (by omega), Nat.shiftLeft_eq]
  omega
theorem shr_bytes (x : Int) (j : Nat) (hj : j ≤ 8) : shr .u64 x (8 * (j : Int)) = x / 256 ^ j := by
  unfold shr
  have h1 : min (8 * (j : Int)).toNat (IntKind.bits .u64) = 8 * j := by
    show min _ 64 = _
    omega
  rw [h1, Int.pow_mul]
  rfl
end Go.Proofs.YtmphdmhpfghfkaaDoor.Pl
set_option linter.unusedSimpArgs false
set_option linter.unusedVariables false
namespace Go.Proofs.YtmphdmhpfghfkaaDoor.Pl
open Go.RowKit Go.Proofs.YtmphdmhpfghfkaaDoorW.PrintWords
theorem xor_top_low (r : Nat) (h : r < 2 ^ 63) : r ^^^ 2 ^ 63 = 2 ^ 63 + r := by
  apply Nat.eq_of_testBit_eq
  intro i
  rw [Nat.testBit_xor, Nat.testBit_two_pow]
  rcases Nat.lt_trichotomy i 63 with hi | hi | hi
  · rw [Nat.testBit_two_pow_add_gt hi]
    have : ¬ 63 = i := by omega
    simp [this]
  · subst hi
    rw [Nat.testBit_two_pow_add_eq]
    have : r.testBit 63 = false := Nat.testBit_lt_two_pow h
    simp [this]
  · have h1 : 2 ^ 64 ≤ 2 ^ i := Nat.pow_le_pow_right (by omega) hi
    have e1 : r.testBit i = false := Nat.testBit_lt_two_pow (by omega)
    have e2 : (2 ^ 63 + r).testBit i = false := Nat.testBit_lt_two_pow (by omega)
    have : ¬ 63 = i := by omega
    rw [e1, e2]
    simp [this]
theorem xor_top (T : Nat) (h : T < 2 ^ 64) : T ^^^ 2 ^ 63 = (T + 2 ^ 63) % 2 ^ 64 := by
  by_cases hl : T < 2 ^ 63
  · rw [xor_top_low T hl]
    omega
  · have e := xor_top_low (T - 2 ^ 63) (by omega)
    have e2 : 2 ^ 63 + (T - 2 ^ 63) = T := by omega
    rw [e2] at e
    have e3 : T ^^^ 2 ^ 63 = T - 2 ^ 63 := by
      have e4 : (T - 2 ^ 63) ^^^ 2 ^ 63 ^^^ 2 ^ 63 = T - 2 ^ 63 := by rw [Nat.xor_assoc, Nat.xor_self, Nat.xor_zero]
      rw [e] at e4
      exact e4
    rw [e3]
    omega
theorem u64_top (T : Int) (h0 : 0 ≤ T) (h1 : T < 18446744073709551616) : Go.bits .xor .u64 T 9223372036854775808 = (T + 9223372036854775808) % 18446744073709551616 := by
  obtain ⟨T, rfl⟩ := Int.eq_ofNat_of_zero_le h0
  show IntKind.u64.wrap ((BitVec.ofInt 64 (T : Int) ^^^ BitVec.ofInt 64 9223372036854775808).toNat : Int) = _
  have e2 : (BitVec.ofInt 64 9223372036854775808).toNat = 2 ^ 63 := by decide
  have e1 : (BitVec.ofInt 64 (T : Int)).toNat = T := by
    rw [BitVec.ofInt_natCast, BitVec.toNat_ofNat]
    omega
  rw [BitVec.toNat_xor, e1, e2, xor_top T (by omega), IntKind.wrap_u64]
  omega
/-- A signed number's place among the unsigned ones, as the program and as the reference reckon it. -/
theorem top_int (x : Int) (h0 : -9223372036854775808 ≤ x) (h1 : x < 9223372036854775808) : Go.bits .xor .u64 (IntKind.u64.wrap x) 9223372036854775808 = x + 9223372036854775808 ∧
    IntKind.u64.wrap (IntKind.u64.wrap x + 9223372036854775808) = x + 9223372036854775808 := by
  rw [IntKind.wrap_u64]
  constructor
  · rw [u64_top _ (by omega) (by omega)]
    omega
  · rw [IntKind.wrap_u64]
    omega
end Go.Proofs.YtmphdmhpfghfkaaDoor.Pl
