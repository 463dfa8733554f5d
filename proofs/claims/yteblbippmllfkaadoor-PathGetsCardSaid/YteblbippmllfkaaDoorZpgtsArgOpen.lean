import Derived.Test.YteblbippmllfkaaDoorZpgtsOpen
import Derived.Test.YteblbippmllfkaaDoorChecked
import Derived.ProofKit
namespace Go.Proofs.YteblbippmllfkaaDoor.Op
open Go.RowKit Go.Proofs.YteblbippmllfkaaDoorW.PrintWords Go.Deep Go.ChangeShapes Go.WideShapes Go.ChangeAt Go.Lib Go.Joins
open Go.ChangeMaps (open_string)
theorem string_arg {H : Type} {enc : TypeId × Value → H} {w : World} {spare : Nat → Bool} {held : Bool} {r : Reach} {b0 : Nat} {v : Value} {d : DataW H} {p : List MemPlace}
    (hv : Value.okWide Tryd.prog w r b0 9 v) (h : DataW.Trod enc Tryd.prog w 0 spare held 9 v d p) : ∃ s : ByteArray, v = .string s ∧ s.size ≤ maxLen := by
  obtain ⟨s, e, _, _, ws⟩ := open_string Tryd.underlying9 hv h
  exact ⟨s, e, ws⟩
end Go.Proofs.YteblbippmllfkaaDoor.Op
