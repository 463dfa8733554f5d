/- A key that came in: what its value is, and what its parts read. -/
import Derived.Test.YtpbcjhckhocgeaaOpen
import Derived.Test.YtpbcjhckhocgeaaChecked
import Derived.ProofKit
namespace Go.Proofs.Ytpbcjhckhocgeaa.Op
open Go.RowKit Go.Proofs.YtpbcjhckhocgeaaW.PrintWords Go.Deep Go.ChangeShapes Go.WideShapes Go.ChangeAt Go.Lib Go.Joins

/-- A slice of bytes in one cell. -/
theorem bytes_cell {H : Type} {enc : TypeId × Value → H} {w : World} {spare : Nat → Bool} {held : Bool} {fuel : Nat} {v : Value} {x : DataW H × List MemPlace}
    (h : DataW.trod enc Try.prog w 0 spare held fuel 22 [v] = some x) :
    ∃ (A : Option Addr) (c : Nat) (l : List Int), v = .slice A l.length c ∧ l.length ≤ c ∧ Kd.C (Kd.int .u8) w A l.length l ∧ l.length ≤ maxLen ∧ ∀ x ∈ l, (Lit.int .u8 x).wf = true := by
  obtain ⟨l, ⟨A, c, he, hl, hC⟩, hm, hw⟩ := opens_slice (d := Kd.int .u8) Try.underlying22 (by kernel_rfl) (opens_int Try.underlying5) H enc w spare held fuel [v] x h
  obtain rfl := (List.cons.inj he).1
  exact ⟨A, c, l, rfl, hl, hC, hm, hw⟩
theorem bytes_arg {H : Type} {enc : TypeId × Value → H} {w : World} {spare : Nat → Bool} {held : Bool} {r : Reach} {b0 : Nat} {v : Value} {d : DataW H} {p : List MemPlace}
    (hv : Value.okWide Try.prog w r b0 22 v) (h : DataW.Trod enc Try.prog w 0 spare held 22 v d p) :
    ∃ (A : Option Addr) (c : Nat) (l : List Int), v = .slice A l.length c ∧ l.length ≤ c ∧ Kd.C (Kd.int .u8) w A l.length l ∧ l.length ≤ maxLen ∧ ∀ x ∈ l, (Lit.int .u8 x).wf = true := by
  obtain ⟨a, len, cap, rfl⟩ := okWide_slice Try.underlying22 hv
  obtain ⟨fuel, hf⟩ := h
  exact bytes_cell (by simpa [Value.cells] using hf)
theorem int_arg {H : Type} {enc : TypeId × Value → H} {w : World} {spare : Nat → Bool} {held : Bool} {r : Reach} {b0 : Nat} {v : Value} {d : DataW H} {p : List MemPlace}
    (hv : Value.okWide Try.prog w r b0 3 v) (h : DataW.Trod enc Try.prog w 0 spare held 3 v d p) : ∃ x : Int, v = .int .i64 x ∧ (Lit.int .i64 x).wf = true := by
  obtain ⟨x, e, _, _, wx⟩ := open_int Try.underlying3 hv h
  exact ⟨x, e, wx⟩
theorem key_arg {H : Type} {enc : TypeId × Value → H} {w : World} {spare : Nat → Bool} {held : Bool} {r : Reach} {b0 : Nat} {v : Value} {d : DataW H} {p : List MemPlace}
    (hv : Value.okWide Try.prog w r b0 25 v) (h : DataW.Trod enc Try.prog w 0 spare held 25 v d p) :
    ∃ (s : Int) (A : Option Addr) (c : Nat) (l : List Int) (t : Int), v = .agg #[.int .i64 s, .slice A l.length c, .int .u64 t] ∧ (Lit.int .i64 s).wf = true ∧ l.length ≤ c ∧ Kd.C (Kd.int .u8) w A l.length l ∧
      l.length ≤ maxLen ∧ (∀ x ∈ l, (Lit.int .u8 x).wf = true) ∧ (Lit.int .u64 t).wf = true := by
  obtain ⟨v0, v1, v2, y0, y1, y2, n, rfl, _, _, h0, h1, h2⟩ := open_agg3 Try.underlying25 (by kernel_rfl) (by kernel_rfl) hv h
  obtain ⟨s, e0, _, w0⟩ := DataW.trod_int Try.underlying3 h0
  obtain ⟨A, c, l, rfl, hl, hC, hm, hw⟩ := bytes_cell h1
  obtain ⟨t, e2, _, w2⟩ := DataW.trod_int Try.underlying23 h2
  obtain rfl := (List.cons.inj e0).1
  obtain rfl := (List.cons.inj e2).1
  exact ⟨s, A, c, l, t, rfl, w0, hl, hC, hm, hw, w2⟩
end Go.Proofs.Ytpbcjhckhocgeaa.Op
