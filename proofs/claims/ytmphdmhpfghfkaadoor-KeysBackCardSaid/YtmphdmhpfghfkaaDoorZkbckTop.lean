import Derived.Test.YtmphdmhpfghfkaaDoorZkbckEv
import Derived.Test.YtmphdmhpfghfkaaDoorZkbckWMore
set_option linter.unusedSimpArgs false
set_option linter.unusedVariables false
namespace Go.Proofs.YtmphdmhpfghfkaaDoor.Pl
open Go.RowKit Go.Proofs.YtmphdmhpfghfkaaDoorW.PrintWords
theorem xor_top_low (r : Nat) (h : r < 2 ^ 63) : r ^^^ 2 ^ 63 = 2 ^ 63 + r := by
  apply Nat.eq_of_testBit_eq
  intro i
  rw [Nat.testBit_xor, Nat.testBit_two_pow]
  rcases Nat.lt_trichotomy i 63 with hi | hi | hi
  · rw [Nat.testBit_two_pow_add_gt hi]
    have : ¬ 63 = i := by omega
    simp [this]
  · subst hi
    rw [Nat.testBit_two_pow_add_eq]
    have : r.testBit 63 = false := Nat.testBit_lt_two_pow h
    simp [this]
  · have h1 : 2 ^ 64 ≤ 2 ^ i := Nat.pow_le_pow_right (by omega) hi
    have e1 : r.testBit i = false := Nat.testBit_lt_two_pow (by omega)
    have e2 : (2 ^ 63 + r).testBit i = false := Nat.testBit_lt_two_pow (by omega)
    have : ¬ 63 = i := by omega
    rw [e1, e2]
    simp [this]
theorem xor_top (T : Nat) (h : T < 2 ^ 64) : T ^^^ 2 ^ 63 = (T + 2 ^ 63) % 2 ^ 64 := by
  by_cases hl : T < 2 ^ 63
  · rw [xor_top_low T hl]
    omega
  · have e := xor_top_low (T - 2 ^ 63) (by omega)
    have e2 : 2 ^ 63 + (T - 2 ^ 63) = T := by omega
    rw [e2] at e
    have e3 : T ^^^ 2 ^ 63 = T - 2 ^ 63 := by
      have e4 : (T - 2 ^ 63) ^^^ 2 ^ 63 ^^^ 2 ^ 63 = T - 2 ^ 63 := by rw [Nat.xor_assoc, Nat.xor_self, Nat.xor_zero]
      rw [e] at e4
      exact e4
    rw [e3]
    omega
theorem u64_top (T : Int) (h0 : 0 ≤ T) (h1 : T < 18446744073709551616) : Go.bits .xor .u64 T 9223372036854775808 = (T + 9223372036854775808) % 18446744073709551616 := by
  obtain ⟨T, rfl⟩ := Int.eq_ofNat_of_zero_le h0
  show IntKind.u64.wrap ((BitVec.ofInt 64 (T : Int) ^^^ BitVec.ofInt 64 9223372036854775808).toNat : Int) = _
  have e2 : (BitVec.ofInt 64 9223372036854775808).toNat = 2 ^ 63 := by decide
  have e1 : (BitVec.ofInt 64 (T : Int)).toNat = T := by
    rw [BitVec.ofInt_natCast, BitVec.toNat_ofNat]
    omega
  rw [BitVec.toNat_xor, e1, e2, xor_top T (by omega), IntKind.wrap_u64]
  omega
/-- A signed number's place among the unsigned ones, as the program and as the reference reckon it. -/
theorem top_int (x : Int) (h0 : -9223372036854775808 ≤ x) (h1 : x < 9223372036854775808) : Go.bits .xor .u64 (IntKind.u64.wrap x) 9223372036854775808 = x + 9223372036854775808 ∧
    IntKind.u64.wrap (IntKind.u64.wrap x + 9223372036854775808) = x + 9223372036854775808 := by
  rw [IntKind.wrap_u64]
  constructor
  · rw [u64_top _ (by omega) (by omega)]
    omega
  · rw [IntKind.wrap_u64]
    omega
end Go.Proofs.YtmphdmhpfghfkaaDoor.Pl
