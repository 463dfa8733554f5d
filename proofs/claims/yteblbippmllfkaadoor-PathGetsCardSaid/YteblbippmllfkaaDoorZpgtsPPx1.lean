import Derived.Test.YteblbippmllfkaaDoorZpgtsPPx0
namespace Go.Proofs.YteblbippmllfkaaDoor.PP
open Go.RowKit Go.Proofs.YteblbippmllfkaaDoorW.PrintWords Go.Proofs.YteblbippmllfkaaDoorW.PrintLast Go.Proofs.YteblbippmllfkaaDoorW.PrintMore
attribute [local go_sem] max2_mx_ min2_mn_ max_two min_two max_three min_three max_four min_four   -- for this text's walks alone
set_option linter.unusedVariables false
set_option linter.unusedSimpArgs false
def utf8_ValidString.f (a0 : ByteArray) : Option (Bool) := if a0.size ≤ 1000000 then some (Lib.validD a0.data.toList) else none
theorem utf8_ValidString.calls (a0 : ByteArray) (r : Bool) (w : World) (hT : Tabs w) (h : utf8_ValidString.f a0 = some r) :
    Calls Tryd.prog 18 #[.string a0] w fun e w' => e = .returned (.bool r) ∧ Below w.heap.size w w' := by
  unfold utf8_ValidString.f at h
  split at h
  · rename_i hs
    obtain rfl := Option.some.inj h
    exact valid_string a0 w hs hT
  · exact absurd h (by simp)
end Go.Proofs.YteblbippmllfkaaDoor.PP
