/- Texts and numbers that came in: what their values are. -/
import Derived.Test.YteblbippmllfkaaDoorOpen
import Derived.Test.YteblbippmllfkaaDoorChecked
import Derived.ProofKit
namespace Go.Proofs.YteblbippmllfkaaDoor.Op
open Go.RowKit Go.Proofs.YteblbippmllfkaaDoorW.PrintWords Go.Deep Go.ChangeShapes Go.WideShapes Go.ChangeAt Go.Lib Go.Joins
open Go.ChangeMaps (open_string)
theorem string_arg {H : Type} {enc : TypeId × Value → H} {w : World} {spare : Nat → Bool} {held : Bool} {r : Reach} {b0 : Nat} {v : Value} {d : DataW H} {p : List MemPlace}
    (hv : Value.okWide Tryd.prog w r b0 9 v) (h : DataW.Trod enc Tryd.prog w 0 spare held 9 v d p) : ∃ s : ByteArray, v = .string s ∧ s.size ≤ maxLen := by
  obtain ⟨s, e, _, _, ws⟩ := open_string Tryd.underlying9 hv h
  exact ⟨s, e, ws⟩
theorem int_arg {H : Type} {enc : TypeId × Value → H} {w : World} {spare : Nat → Bool} {held : Bool} {r : Reach} {b0 : Nat} {v : Value} {d : DataW H} {p : List MemPlace}
    (hv : Value.okWide Tryd.prog w r b0 3 v) (h : DataW.Trod enc Tryd.prog w 0 spare held 3 v d p) : ∃ x : Int, v = .int .i64 x ∧ (Lit.int .i64 x).wf = true := by
  obtain ⟨x, e, _, _, wx⟩ := open_int Tryd.underlying3 hv h
  exact ⟨x, e, wx⟩
end Go.Proofs.YteblbippmllfkaaDoor.Op
