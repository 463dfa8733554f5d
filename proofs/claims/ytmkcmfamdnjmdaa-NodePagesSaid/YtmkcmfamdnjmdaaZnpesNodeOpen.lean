import Derived.Test.YtmkcmfamdnjmdaaZnpesOpen
import Derived.Test.YtmkcmfamdnjmdaaChecked
import Derived.ProofKit
namespace Go.Proofs.Ytmkcmfamdnjmdaa.Op
open Go.RowKit Go.Proofs.YtmkcmfamdnjmdaaW.PrintWords Go.Deep Go.ChangeShapes Go.WideShapes Go.ChangeAt Go.Lib Go.Joins
def Rows8 (l : List (List Int)) : Prop := l.length ≤ maxLen ∧ ∀ x ∈ l, x.length ≤ maxLen ∧ ∀ y ∈ x, (Lit.int .u8 y).wf = true
def Ints (l : List Int) : Prop := l.length ≤ maxLen ∧ ∀ x ∈ l, (Lit.int .i64 x).wf = true
theorem rows_cell {H : Type} {enc : TypeId × Value → H} {w : World} {spare : Nat → Bool} {held : Bool} {fuel : Nat} {v : Value} {x : DataW H × List MemPlace}
    (h : DataW.trod enc Try.prog w 0 spare held fuel 22 [v] = some x) :
    ∃ (A : Option Addr) (c : Nat) (l : List (List Int)), v = .slice A l.length c ∧ l.length ≤ c ∧ Kd.C (Kd.slice 5 (Kd.int .u8)) w A l.length l ∧ Rows8 l := by
  obtain ⟨l, ⟨A, c, he, hl, hC⟩, hm, hw⟩ := opens_slice (d := Kd.slice 5 (Kd.int .u8)) Try.underlying22 (by kernel_rfl) (opens_slice (d := Kd.int .u8) Try.underlying26 (by kernel_rfl) (opens_int Try.underlying5)) H enc w spare held fuel [v] x h
  obtain rfl := (List.cons.inj he).1
  exact ⟨A, c, l, rfl, hl, hC, hm, hw⟩
theorem ints_cell {H : Type} {enc : TypeId × Value → H} {w : World} {spare : Nat → Bool} {held : Bool} {fuel : Nat} {v : Value} {x : DataW H × List MemPlace}
    (h : DataW.trod enc Try.prog w 0 spare held fuel 23 [v] = some x) :
    ∃ (A : Option Addr) (c : Nat) (l : List Int), v = .slice A l.length c ∧ l.length ≤ c ∧ Kd.C (Kd.int .i64) w A l.length l ∧ Ints l := by
  obtain ⟨l, ⟨A, c, he, hl, hC⟩, hm, hw⟩ := opens_slice (d := Kd.int .i64) Try.underlying23 (by kernel_rfl) (opens_int Try.underlying3) H enc w spare held fuel [v] x h
  obtain rfl := (List.cons.inj he).1
  exact ⟨A, c, l, rfl, hl, hC, hm, hw⟩
theorem node_arg {H : Type} {enc : TypeId × Value → H} {w : World} {spare : Nat → Bool} {held : Bool} {r : Reach} {b0 : Nat} {v : Value} {d : DataW H} {p : List MemPlace}
    (hv : Value.okWide Try.prog w r b0 25 v) (h : DataW.Trod enc Try.prog w 0 spare held 25 v d p) :
    ∃ (b : Bool) (A1 : Option Addr) (c1 : Nat) (l1 : List (List Int)) (A2 : Option Addr) (c2 : Nat) (l2 : List (List Int)) (A3 : Option Addr) (c3 : Nat) (l3 : List Int),
      v = .agg #[.bool b, .slice A1 l1.length c1, .slice A2 l2.length c2, .slice A3 l3.length c3] ∧ l1.length ≤ c1 ∧ Kd.C (Kd.slice 5 (Kd.int .u8)) w A1 l1.length l1 ∧ l2.length ≤ c2 ∧ Kd.C (Kd.slice 5 (Kd.int .u8)) w A2 l2.length l2 ∧ l3.length ≤ c3 ∧ Kd.C (Kd.int .i64) w A3 l3.length l3 ∧ Rows8 l1 ∧ Rows8 l2 ∧ Ints l3 := by
  obtain ⟨v0, v1, v2, v3, y0, y1, y2, y3, n, rfl, _, _, h0, h1, h2, h3⟩ := open_agg4 Try.underlying25 (by kernel_rfl) (by kernel_rfl) hv h
  obtain ⟨b, e0, _⟩ := DataW.trod_bool Try.underlying4 h0
  obtain ⟨A1, c1, l1, rfl, hl1, hC1, w1⟩ := rows_cell h1
  obtain ⟨A2, c2, l2, rfl, hl2, hC2, w2⟩ := rows_cell h2
  obtain ⟨A3, c3, l3, rfl, hl3, hC3, w3⟩ := ints_cell h3
  obtain rfl := (List.cons.inj e0).1
  exact ⟨b, A1, c1, l1, A2, c2, l2, A3, c3, l3, rfl, hl1, hC1, hl2, hC2, hl3, hC3, w1, w2, w3⟩
end Go.Proofs.Ytmkcmfamdnjmdaa.Op
