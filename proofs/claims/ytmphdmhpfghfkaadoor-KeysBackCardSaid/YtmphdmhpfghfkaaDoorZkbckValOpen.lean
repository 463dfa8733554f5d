import Derived.Test.YtmphdmhpfghfkaaDoorZkbckOpen
import Derived.Test.YtmphdmhpfghfkaaDoorChecked
import Derived.Test.YtmphdmhpfghfkaaDoorZkbckWMore
import Derived.Test.YtmphdmhpfghfkaaDoorZkbckValue
import Derived.ProofKit
set_option linter.unusedSimpArgs false
set_option linter.unusedVariables false
namespace Go.Proofs.YtmphdmhpfghfkaaDoor.Op
open Go.RowKit Go.Proofs.YtmphdmhpfghfkaaDoorW.PrintWords Go.Deep Go.ChangeShapes Go.WideShapes Go.ChangeAt Go.Lib Go.Joins Go.Proofs.YtmphdmhpfghfkaaDoor.PK Go.Proofs.YtmphdmhpfghfkaaDoor.Pl
theorem texts_cell {H : Type} {enc : TypeId × Value → H} {w : World} {spare : Nat → Bool} {held : Bool} {fuel : Nat} {v : Value} {x : DataW H × List MemPlace}
    (h : DataW.trod enc Tryd.prog w 0 spare held fuel 22 [v] = some x) :
    ∃ (A : Option Addr) (c : Nat) (l : List ByteArray), v = .slice A l.length c ∧ l.length ≤ c ∧ Kd.C Kd.string w A l.length l ∧ l.length ≤ maxLen ∧ ∀ x ∈ l, x.size ≤ maxLen := by
  obtain ⟨l, ⟨A, c, he, hl, hC⟩, hm, hw⟩ := opens_slice (d := Kd.string) Tryd.underlying22 (by kernel_rfl) (opens_string Tryd.underlying9) H enc w spare held fuel [v] x h
  obtain rfl := (List.cons.inj he).1
  exact ⟨A, c, l, rfl, hl, hC, hm, hw⟩
theorem list5 {α : Type} {l : List α} (h : l.length = 5) : ∃ a b c d e, l = [a, b, c, d, e] := by
  match l, h with
  | [a, b, c, d, e], _ => exact ⟨a, b, c, d, e, rfl⟩
theorem val_opens {H : Type} (enc : TypeId × Value → H) (w : World) (spare : Nat → Bool) (held : Bool) : ∀ (fuel : Nat) (cs : List Value) (x : DataW H × List MemPlace),
    DataW.trod enc Tryd.prog w 0 spare held fuel 25 cs = some x → ∃ a : V, k25.K w a cs ∧ FineN fuel a := by
  intro fuel
  induction fuel using Nat.strongRecOn with
  | _ fuel ih =>
  intro cs x h
  obtain ⟨xs, n, rfl, _, hl, hlen, hf⟩ := DataW.trod_struct Tryd.underlying25 h
  obtain ⟨y0, y1, y2, y3, y4, rfl⟩ := list5 hlen
  have hl5 : cs.length = 5 := hl.trans (by kernel_rfl)
  obtain ⟨c0, c1, c2, c3, c4, rfl⟩ := list5 hl5
  have e0 : Tryd.prog.cellsOf 3 = 1 := by kernel_rfl
  have e1 : Tryd.prog.cellsOf 2 = 1 := by kernel_rfl
  have e2 : Tryd.prog.cellsOf 9 = 1 := by kernel_rfl
  have e3 : Tryd.prog.cellsOf 22 = 1 := by kernel_rfl
  have e4 : Tryd.prog.cellsOf 23 = 1 := by kernel_rfl
  have h0 := hf 0 _ rfl
  have h1 := hf 1 _ rfl
  have h2 := hf 2 _ rfl
  have h3 := hf 3 _ rfl
  have h4 := hf 4 _ rfl
  simp only [e0, e1, e2, e3, e4, List.drop_zero, List.take_succ_cons, List.take_zero, List.drop_succ_cons, List.getElem?_cons_zero, List.getElem?_cons_succ] at h0 h1 h2 h3 h4
  obtain ⟨n0, r0, _, w0⟩ := DataW.trod_int Tryd.underlying3 h0
  obtain ⟨n1, r1, _, w1⟩ := DataW.trod_int Tryd.underlying2 h1
  obtain ⟨s2, r2, _, w2⟩ := DataW.trod_string Tryd.underlying9 h2
  obtain ⟨A3, b3, l3, rfl, hl3, hC3, hm3, hw3⟩ := texts_cell h3
  obtain ⟨l4, ⟨A4, b4, r4, hl4, hC4⟩, hm4, hw4⟩ := opens_slice_at (d := k25) (ok := FineN n) Tryd.underlying23 (by kernel_rfl) (fun cs x m hm hx => by
    obtain ⟨a, hK, hF⟩ := ih m (by omega) cs x hx
    exact ⟨a, hK, hF.mono (by omega)⟩) h4
  obtain rfl := (List.cons.inj r0).1
  obtain rfl := (List.cons.inj r1).1
  obtain rfl := (List.cons.inj r2).1
  obtain rfl := (List.cons.inj r4).1
  exact ⟨⟨n0, n1, s2, l3, l4⟩, k25_mk w ⟨n0, n1, s2, l3, l4⟩ hl3 hC3 hl4 hC4, w0, w1, w2, hm3, hw3, hm4, hw4⟩
theorem value_arg {H : Type} {enc : TypeId × Value → H} {w : World} {spare : Nat → Bool} {held : Bool} {r : Reach} {b0 : Nat} {v : Value} {d : DataW H} {p : List MemPlace}
    (hv : Value.okWide Tryd.prog w r b0 25 v) (h : DataW.Trod enc Tryd.prog w 0 spare held 25 v d p) :
    ∃ (x : V) (A3 : Option Addr) (c3 : Nat) (A4 : Option Addr) (c4 : Nat) (n : Nat), v = .agg #[.int .i64 x.f0, .int .i64 x.f1, .string x.f2, .slice A3 x.f3.length c3, .slice A4 x.f4.length c4] ∧
      x.f3.length ≤ c3 ∧ Kd.C Kd.string w A3 x.f3.length x.f3 ∧ x.f4.length ≤ c4 ∧ Kd.C k25 w A4 x.f4.length x.f4 ∧ FineN n x := by
  obtain ⟨cs, rfl, hsz⟩ := okWide_struct Tryd.underlying25 hv
  obtain ⟨fuel, hf⟩ := h
  obtain ⟨x, hK, hF⟩ := val_opens enc w spare held fuel _ _ hf
  obtain ⟨A3, c3, A4, c4, he, l3, g3, l4, g4⟩ := k25_open hK
  refine ⟨x, A3, c3, A4, c4, fuel, ?_, l3, g3, l4, g4, hF⟩
  have he' : cs.toList = [.int .i64 x.f0, .int .i64 x.f1, .string x.f2, .slice A3 x.f3.length c3, .slice A4 x.f4.length c4] := he
  rw [← he']
theorem heap_str : Kd.Heap Kd.string := Kd.heap_string
theorem heap_val : Kd.Heap k25 := Kd.heap_fix (fun d hd => Kd.heap_iso _ (Kd.heap_pair (Kd.heap_int _) (Kd.heap_pair (Kd.heap_int _) (Kd.heap_pair Kd.heap_string (Kd.heap_pair (Kd.heap_slice _ Kd.heap_string) (Kd.heap_slice _ hd))))))
/-- What is read in a memory is read in each that agrees on all its blocks. -/
theorem v_of {α : Type} {d : Kd α} {e base : Nat} {w : World} {A : Option Addr} {c : Nat} {l : List α} (hd : Kd.Heap d) (h : Kd.C d w A l.length l) (hc : l.length ≤ c) : Kd.V d e w base (fun k => k < w.heap.size) (.slice A l.length c) l :=
  Kd.V_mk hc (Kd.C_F hd h)
end Go.Proofs.YtmphdmhpfghfkaaDoor.Op
