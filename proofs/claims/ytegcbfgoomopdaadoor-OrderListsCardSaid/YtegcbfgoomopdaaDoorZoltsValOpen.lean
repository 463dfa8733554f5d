import Derived.Test.YtegcbfgoomopdaaDoorZoltsOpen
import Derived.Test.YtegcbfgoomopdaaDoorChecked
import Derived.Test.YtegcbfgoomopdaaDoorZoltsWMore
import Derived.Test.YtegcbfgoomopdaaDoorZoltsValue
import Derived.ProofKit
set_option linter.unusedSimpArgs false
set_option linter.unusedVariables false
namespace Go.Proofs.YtegcbfgoomopdaaDoor.Op
open Go.RowKit Go.Proofs.YtegcbfgoomopdaaDoorW.PrintWords Go.Deep Go.ChangeShapes Go.WideShapes Go.ChangeAt Go.Lib Go.Joins Go.Proofs.YtegcbfgoomopdaaDoor.PO Go.Proofs.YtegcbfgoomopdaaDoor.Pl
theorem ints_arg {H : Type} {enc : TypeId × Value → H} {w : World} {spare : Nat → Bool} {held : Bool} {r : Reach} {b0 : Nat} {v : Value} {d : DataW H} {p : List MemPlace}
    (hv : Value.okWide Tryd.prog w r b0 40 v) (h : DataW.Trod enc Tryd.prog w 0 spare held 40 v d p) :
    ∃ (A : Option Addr) (c : Nat) (l : List Int), v = .slice A l.length c ∧ l.length ≤ c ∧ Kd.C (Kd.int .i64) w A l.length l ∧ l.length ≤ maxLen ∧ ∀ x ∈ l, (Lit.int .i64 x).wf = true := by
  obtain ⟨a, len, cap, rfl⟩ := okWide_slice Tryd.underlying40 hv
  obtain ⟨fuel, hf⟩ := h
  obtain ⟨l, ⟨A, c, he, hl, hC⟩, hm, hw⟩ := opens_slice (d := Kd.int .i64) Tryd.underlying40 (by kernel_rfl) (opens_int Tryd.underlying2) H enc w spare held fuel _ _ (by simpa [Value.cells] using hf)
  obtain e := (List.cons.inj he).1
  exact ⟨A, c, l, e, hl, hC, hm, hw⟩
end Go.Proofs.YtegcbfgoomopdaaDoor.Op
