import Derived.Test.YtmkcmfamdnjmdaaZnpesWMore
import Derived.Test.YtmkcmfamdnjmdaaZnpesWN
namespace Go.Proofs.YtmkcmfamdnjmdaaW.PrintWords
open Go.RowKit Go.Proofs.YtmkcmfamdnjmdaaW.PrintMore
@[go_sem] theorem binOp_string_geq_ (t : TypeId) (a b : ByteArray) : binOp .geq t (.string a) (.string b) = pure (.bool !(Op.bytesLess a.toList b.toList)) := by simp [binOp, Op.stringOp]
theorem bytesLess_flip : ∀ (x y : List UInt8), Op.bytesLess y x = !(Op.bytesLess x y || x == y)
  | [], [] => rfl
  | [], _ :: _ => rfl
  | _ :: _, [] => rfl
  | a :: x, b :: y => by
    have ih := bytesLess_flip x y
    show (decide (b < a) || (b == a && Op.bytesLess y x)) = !((decide (a < b) || (a == b && Op.bytesLess x y)) || (a :: x == b :: y))
    rw [ih]
    by_cases e : a = b
    · subst e
      have h1 : ¬ a < a := UInt8.lt_irrefl a
      have h2 : (a :: x == a :: y) = (x == y) := by simp
      rw [h2]
      simp [h1]
    · have h3 : (a :: x == b :: y) = false := by simp [e]
      have h4 : (b == a) = false := by simpa using Ne.symm e
      have h5 : (a == b) = false := by simpa using e
      rw [h3, h4, h5]
      by_cases c : a < b
      · have h6 : ¬ b < a := fun h => UInt8.lt_irrefl a (UInt8.lt_trans c h)
        simp [c, h6]
      · have h6 : b < a := UInt8.lt_of_le_of_ne (UInt8.not_lt.1 c) (Ne.symm e)
        simp [c, h6]
@[go_sem high] theorem binOp_string_gtr_ (t : TypeId) (a b : ByteArray) : binOp .gtr t (.string a) (.string b) = pure (.bool (Op.bytesLess b.toList a.toList)) := by
  rw [bytesLess_flip]
  simp [binOp, Op.stringOp]
@[go_sem high] theorem binOp_string_leq_ (t : TypeId) (a b : ByteArray) : binOp .leq t (.string a) (.string b) = pure (.bool !(Op.bytesLess b.toList a.toList)) := by
  rw [bytesLess_flip]
  simp [binOp, Op.stringOp]
theorem min2_mn_ (k k' : IntKind) (x y : Int) : Builtin.min2 (.int k x) (.int k' y) = pure (.int k (mn x y)) := min2_int k k' x y
theorem max2_mx_ (k k' : IntKind) (x y : Int) : Builtin.max2 (.int k x) (.int k' y) = pure (.int k (mx x y)) := max2_int k k' x y
@[simp] theorem bne_nil_ (l : List UInt8) : (l != ([] : List UInt8)) = !l.isEmpty := by cases l <;> rfl
namespace Kd
section
variable {α : Type} {d : Kd α} {e base g n c : Nat} {W : World} {ok : Nat → Prop} {ad : Addr} {xs : List α}
end
end Kd
end Go.Proofs.YtmkcmfamdnjmdaaW.PrintWords
