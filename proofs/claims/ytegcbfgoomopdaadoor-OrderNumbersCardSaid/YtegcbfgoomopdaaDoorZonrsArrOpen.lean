import Derived.Test.YtegcbfgoomopdaaDoorZonrsWWords
import Derived.Deep.Slices
import Derived.Lib.SmallJoins
import Derived.Test.YtegcbfgoomopdaaDoorChecked
import Derived.ProofKit
import Derived.OpenShut
namespace Go.Proofs.YtegcbfgoomopdaaDoor.Op
open Go.RowKit Go.Proofs.YtegcbfgoomopdaaDoorW.PrintWords Go.Deep Go.ChangeShapes Go.WideShapes Go.ChangeAt Go.Lib Go.Joins
theorem okWide_array_ {P : Program} {w : World} {r : Reach} {base : Nat} {t e : TypeId} {n : Nat} {v : Value} (ht : P.underlying t = some (.array n e)) (h : Value.okWide P w r base t v) : ∃ cs, v = .agg cs ∧ cs.size = P.cellsOf t := by
  simp only [Value.okWide, ht] at h
  obtain ⟨cs, h1, h2, _⟩ := h
  exact ⟨cs, h1, h2⟩
def toI : Value → Int
  | .int _ y => y
  | _ => 0
theorem arr_ints {P : Program} {k : IntKind} {t e : TypeId} {n : Nat} {H : Type} {enc : TypeId × Value → H} {w : World} {spare : Nat → Bool} {held : Bool} {fuel : Nat} {cs : List Value} {x : DataW H × List MemPlace}
    (ht : P.underlying t = some (.array n e)) (he : P.underlying e = some (.int k)) (hc : P.cellsOf e = 1) (hn : cs.length = n) (h : DataW.trod enc P w 0 spare held fuel t cs = some x) :
    ∃ l : List Int, l.length = n ∧ cs = l.map (Value.int k) ∧ ∀ y ∈ l, (Lit.int k y).wf = true := by
  obtain ⟨xs, m, _, _, _, hl, hf⟩ := DataW.trod_array ht h
  have hg : ∀ i, i < n → ∃ y, cs[i]? = some (Value.int k y) ∧ (Lit.int k y).wf = true := by
    intro i hi
    have h1 := hf i hi
    rw [hc, Nat.mul_one] at h1
    have h2 : (cs.drop i).take 1 = [cs[i]'(by omega)] := by
      rw [List.drop_eq_getElem_cons (by omega)]
      rfl
    rw [h2, List.getElem?_eq_getElem (by omega)] at h1
    obtain ⟨y, e1, _, w1⟩ := DataW.trod_int he h1
    exact ⟨y, by rw [List.getElem?_eq_getElem (by omega), (List.cons.inj e1).1], w1⟩
  refine ⟨cs.map toI, by rw [List.length_map, hn], ?_, ?_⟩
  · apply List.ext_getElem (by simp)
    intro i h1 h2
    obtain ⟨y, e1, _⟩ := hg i (by omega)
    rw [List.getElem?_eq_getElem h1] at e1
    have e1 := Option.some.inj e1
    simp [e1, toI]
  · intro z hz
    obtain ⟨i, hi, rfl⟩ := List.mem_iff_getElem.1 hz
    rw [List.length_map] at hi
    obtain ⟨y, e1, w1⟩ := hg i (by omega)
    rw [List.getElem?_eq_getElem hi] at e1
    have e1 := Option.some.inj e1
    simpa [e1, toI] using w1
theorem two_of {l : List Int} (h : l.length = 2) : ∃ a b, l = [a, b] := by
  match l, h with
  | [a, b], _ => exact ⟨a, b, rfl⟩
theorem three_of {l : List Int} (h : l.length = 3) : ∃ a b c, l = [a, b, c] := by
  match l, h with
  | [a, b, c], _ => exact ⟨a, b, c, rfl⟩
theorem arr2_arg {H : Type} {enc : TypeId × Value → H} {w : World} {spare : Nat → Bool} {held : Bool} {r : Reach} {b0 : Nat} {v : Value} {d : DataW H} {p : List MemPlace}
    (hv : Value.okWide Tryd.prog w r b0 35 v) (h : DataW.Trod enc Tryd.prog w 0 spare held 35 v d p) :
    ∃ x y : Int, v = .agg #[.int .i64 x, .int .i64 y] ∧ (Lit.int .i64 x).wf = true ∧ (Lit.int .i64 y).wf = true := by
  obtain ⟨cs, rfl, hs⟩ := okWide_array_ Tryd.underlying35 hv
  obtain ⟨fuel, hf⟩ := h
  have hs2 : cs.size = 2 := hs.trans (by kernel_rfl)
  obtain ⟨l, hl, e, hw⟩ := arr_ints (k := .i64) (n := 2) (cs := cs.toList) Tryd.underlying35 Tryd.underlying2 (by kernel_rfl) (by rw [Array.length_toList]; exact hs2) (by simpa [Value.cells] using hf)
  obtain ⟨x, y, rfl⟩ := two_of hl
  exact ⟨x, y, by rw [← Array.toArray_toList (xs := cs), e]; rfl, hw x (by simp), hw y (by simp)⟩
theorem trod_part {P : Program} {t e : TypeId} {n : Nat} {H : Type} {enc : TypeId × Value → H} {w : World} {spare : Nat → Bool} {held : Bool} {fuel : Nat} {cs : List Value} {x : DataW H × List MemPlace}
    (ht : P.underlying t = some (.array n e)) (h : DataW.trod enc P w 0 spare held fuel t cs = some x) (i : Nat) (hi : i < n) : ∃ m y, DataW.trod enc P w 0 spare held m e ((cs.drop (i * P.cellsOf e)).take (P.cellsOf e)) = some y := by
  obtain ⟨xs, m, _, _, _, hl, hf⟩ := DataW.trod_array ht h
  exact ⟨m, xs[i]'(by omega), by rw [hf i hi, List.getElem?_eq_getElem (by omega)]⟩
theorem lett_arg {H : Type} {enc : TypeId × Value → H} {w : World} {spare : Nat → Bool} {held : Bool} {r : Reach} {b0 : Nat} {v : Value} {d : DataW H} {p : List MemPlace}
    (hv : Value.okWide Tryd.prog w r b0 37 v) (h : DataW.Trod enc Tryd.prog w 0 spare held 37 v d p) :
    ∃ a b c x y z : Int, v = .agg #[.int .u8 a, .int .u8 b, .int .u8 c, .int .u8 x, .int .u8 y, .int .u8 z] ∧ (0 ≤ a ∧ 0 ≤ b ∧ 0 ≤ c ∧ 0 ≤ x ∧ 0 ≤ y ∧ 0 ≤ z) := by
  obtain ⟨cs, rfl, hs⟩ := okWide_array_ Tryd.underlying37 hv
  obtain ⟨fuel, hf⟩ := h
  have hs2 : cs.toList.length = 6 := by rw [Array.length_toList]; exact hs.trans (by kernel_rfl)
  have hf2 : DataW.trod enc Tryd.prog w 0 spare held fuel 37 cs.toList = some (d, p) := by simpa [Value.cells] using hf
  have hc3 : Tryd.prog.cellsOf 36 = 3 := by kernel_rfl
  obtain ⟨m0, y0, h0⟩ := trod_part Tryd.underlying37 hf2 0 (by omega)
  obtain ⟨m1, y1, h1⟩ := trod_part Tryd.underlying37 hf2 1 (by omega)
  rw [hc3] at h0 h1
  obtain ⟨l0, hl0, e0, w0⟩ := arr_ints (k := .u8) (n := 3) Tryd.underlying36 Tryd.underlying5 (by kernel_rfl) (by rw [List.length_take, List.length_drop]; omega) h0
  obtain ⟨l1, hl1, e1, w1⟩ := arr_ints (k := .u8) (n := 3) Tryd.underlying36 Tryd.underlying5 (by kernel_rfl) (by rw [List.length_take, List.length_drop]; omega) h1
  obtain ⟨a, b, c, rfl⟩ := three_of hl0
  obtain ⟨x, y, z, rfl⟩ := three_of hl1
  have e : cs.toList = [.int .u8 a, .int .u8 b, .int .u8 c, .int .u8 x, .int .u8 y, .int .u8 z] := by
    have q1 : cs.toList = cs.toList.take 3 ++ cs.toList.drop 3 := (List.take_append_drop 3 _).symm
    have q2 : cs.toList.drop 3 = (cs.toList.drop 3).take 3 := (List.take_of_length_le (by rw [List.length_drop]; omega)).symm
    simp only [Nat.zero_mul, List.drop_zero, Nat.one_mul] at e0 e1
    rw [q1, q2, e0, e1]
    rfl
  exact ⟨a, b, c, x, y, z, by rw [← Array.toArray_toList (xs := cs), e], (bounds_u8 (w0 a (by simp))).1, (bounds_u8 (w0 b (by simp))).1, (bounds_u8 (w0 c (by simp))).1, (bounds_u8 (w1 x (by simp))).1, (bounds_u8 (w1 y (by simp))).1, (bounds_u8 (w1 z (by simp))).1⟩
end Go.Proofs.YtegcbfgoomopdaaDoor.Op
