import Derived.Test.YtmkcmfamdnjmdaaZnpesPlain
import Derived.Test.YtmkcmfamdnjmdaaZnpesPreZ
import Derived.Test.YtmkcmfamdnjmdaaZnpesPNx0
import Derived.Test.YtmkcmfamdnjmdaaZnpesPNx4
set_option linter.unusedSimpArgs false
set_option linter.unusedVariables false
namespace Go.Proofs.Ytmkcmfamdnjmdaa.Pl
open Go.RowKit Go.Proofs.YtmkcmfamdnjmdaaW.PrintWords Go.Proofs.YtmkcmfamdnjmdaaW.PrintMore Go.Proofs.Ytmkcmfamdnjmdaa.PN
theorem compareBytes_eq : ∀ (a b : List Int), Bytes a → Bytes b → Lib.compareBytes (Lib.bytesOf a) (Lib.bytesOf b) = if ltL a b = true then -1 else if ltL b a = true then 1 else 0
  | [], [], _, _ => by simp [Lib.bytesOf, Lib.compareBytes, ltL]
  | [], _ :: _, _, _ => by simp [Lib.bytesOf, Lib.compareBytes, ltL]
  | _ :: _, [], _, _ => by simp [Lib.bytesOf, Lib.compareBytes, ltL]
  | x :: a, y :: b, ha, hb => by
    have ih := compareBytes_eq a b ha.tail hb.tail
    have hx := ha.head
    have hy := hb.head
    unfold Byte at hx hy
    have hlt : ∀ u v : Int, 0 ≤ u ∧ u < 256 → 0 ≤ v ∧ v < 256 → (u.toNat.toUInt8 < v.toNat.toUInt8 ↔ u < v) := by
      intro u v hu hv
      rw [UInt8.lt_iff_toNat_lt]
      have e : ∀ w : Int, 0 ≤ w ∧ w < 256 → (w.toNat.toUInt8).toNat = w.toNat := by
        intro w hw
        simp [Nat.toUInt8]
        omega
      rw [e u hu, e v hv]
      omega
    show (if x.toNat.toUInt8 < y.toNat.toUInt8 then (-1 : Int) else if y.toNat.toUInt8 < x.toNat.toUInt8 then 1 else Lib.compareBytes (Lib.bytesOf a) (Lib.bytesOf b)) = _
    simp only [hlt x y hx hy, hlt y x hy hx, ih]
    rw [show ltL (x :: a) (y :: b) = if x = y then ltL a b else decide (x < y) from rfl, show ltL (y :: b) (x :: a) = if y = x then ltL b a else decide (y < x) from rfl]
    by_cases e : x = y
    · subst e
      simp
    · by_cases c : x < y
      · simp [c, e]
      · have c' : y < x := by omega
        simp [c, c', e, Ne.symm e]
end Go.Proofs.Ytmkcmfamdnjmdaa.Pl
