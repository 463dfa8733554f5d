import Derived.Test.YtmphdmhpfghfkaaDoorZkbckOpen
import Derived.Test.YtmphdmhpfghfkaaDoorChecked
import Derived.ProofKit
namespace Go.Proofs.YtmphdmhpfghfkaaDoor.Op
open Go.RowKit Go.Proofs.YtmphdmhpfghfkaaDoorW.PrintWords Go.Deep Go.ChangeShapes Go.WideShapes Go.ChangeAt Go.Lib Go.Joins
open Go.ChangeMaps (open_string)
theorem bytes_arg {H : Type} {enc : TypeId × Value → H} {w : World} {spare : Nat → Bool} {held : Bool} {r : Reach} {b0 : Nat} {v : Value} {d : DataW H} {p : List MemPlace}
    (hv : Value.okWide Tryd.prog w r b0 28 v) (h : DataW.Trod enc Tryd.prog w 0 spare held 28 v d p) :
    ∃ (A : Option Addr) (c : Nat) (l : List Int), v = .slice A l.length c ∧ l.length ≤ c ∧ Kd.C (Kd.int .u8) w A l.length l ∧ l.length ≤ maxLen ∧ ∀ x ∈ l, (Lit.int .u8 x).wf = true := by
  obtain ⟨a, len, cap, rfl⟩ := okWide_slice Tryd.underlying28 hv
  obtain ⟨fuel, hf⟩ := h
  obtain ⟨l, ⟨A, c, he, hl, hC⟩, hm, hw⟩ := opens_slice (d := Kd.int .u8) Tryd.underlying28 (by kernel_rfl) (opens_int Tryd.underlying5) H enc w spare held fuel _ _ (by simpa [Value.cells] using hf)
  obtain e := (List.cons.inj he).1
  exact ⟨A, c, l, e, hl, hC, hm, hw⟩
end Go.Proofs.YtmphdmhpfghfkaaDoor.Op
