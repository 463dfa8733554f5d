import Derived.Test.YtmphdmhpfghfkaaDoorZkitsWWords
import Derived.Deep.Slices
import Derived.Lib.SmallJoins
import Derived.Test.YtmphdmhpfghfkaaDoorChecked
import Derived.ProofKit
namespace Go.Proofs.YtmphdmhpfghfkaaDoor.Op
open Go.RowKit Go.Proofs.YtmphdmhpfghfkaaDoorW.PrintWords Go.Deep Go.ChangeShapes Go.WideShapes Go.ChangeAt Go.Lib Go.Joins
open Go.ChangeMaps (open_string)
theorem int64_arg {H : Type} {enc : TypeId × Value → H} {w : World} {spare : Nat → Bool} {held : Bool} {r : Reach} {b0 : Nat} {v : Value} {d : DataW H} {p : List MemPlace}
    (hv : Value.okWide Tryd.prog w r b0 2 v) (h : DataW.Trod enc Tryd.prog w 0 spare held 2 v d p) : ∃ x : Int, v = .int .i64 x ∧ (Lit.int .i64 x).wf = true := by
  obtain ⟨x, e, _, _, wx⟩ := open_int Tryd.underlying2 hv h
  exact ⟨x, e, wx⟩
end Go.Proofs.YtmphdmhpfghfkaaDoor.Op
