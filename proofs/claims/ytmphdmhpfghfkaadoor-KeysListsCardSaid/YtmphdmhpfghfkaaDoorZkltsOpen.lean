import Derived.Test.YtmphdmhpfghfkaaDoorZkltsWWords
import Derived.Deep.Slices
import Derived.Lib.SmallJoins
import Derived.Test.YtmphdmhpfghfkaaDoorChecked
import Derived.Test.YtmphdmhpfghfkaaDoorZkltsWMore
import Derived.Test.YtmphdmhpfghfkaaDoorZkltsValue
import Derived.ProofKit
namespace Go.Proofs.YtmphdmhpfghfkaaDoor.Op
open Go.RowKit Go.Proofs.YtmphdmhpfghfkaaDoorW.PrintWords Go.Deep
/-- Whatever reads as data at type t is a value of the kind d, of which ok holds. -/
def Opens {α : Type} (P : Program) (t : TypeId) (d : Kd α) (ok : α → Prop) : Prop :=
  ∀ (H : Type) (enc : TypeId × Value → H) (w : World) (spare : Nat → Bool) (held : Bool) (fuel : Nat) (cs : List Value) (x : DataW H × List MemPlace),
    DataW.trod enc P w 0 spare held fuel t cs = some x → ∃ a, d.K w a cs ∧ ok a
theorem opens_bool {P : Program} {t : TypeId} (ht : P.underlying t = some .bool) : Opens P t Kd.bool (fun _ => True) := by
  intro H enc w spare held fuel cs x h
  obtain ⟨b, rfl, _⟩ := DataW.trod_bool ht h
  exact ⟨b, rfl, trivial⟩
theorem opens_string {P : Program} {t : TypeId} (ht : P.underlying t = some .string) : Opens P t Kd.string (fun s => s.size ≤ maxLen) := by
  intro H enc w spare held fuel cs x h
  obtain ⟨s, rfl, _, hw⟩ := DataW.trod_string ht h
  exact ⟨s, rfl, hw⟩
theorem rows_of {α : Type} {d : Kd α} {ok : α → Prop} {w : World} {a : Addr} {len : Nat} (hlen : len ≤ 9223372036854775807)
    (h : ∀ i, i < len → ∃ cs x, w.cells? 0 (a.add (i * d.sz)) d.sz = some cs ∧ d.K w x cs ∧ ok x) :
    ∃ xs : List α, xs.length = len ∧ d.C w (some a) len xs ∧ ∀ x ∈ xs, ok x := by
  have h1 : ∃ xs : List α, xs.length = len ∧ ∀ (i : Nat) (x : α), xs[i]? = some x → ∃ cs, w.cells? 0 (a.add (i * d.sz)) d.sz = some cs ∧ d.K w x cs ∧ ok x := by
    clear hlen
    induction len with
    | zero => exact ⟨[], rfl, fun i x hi => by simp at hi⟩
    | succ n ih =>
      obtain ⟨xs, hl, hx⟩ := ih (fun i hi => h i (by omega))
      obtain ⟨cs, y, hc, hK, ho⟩ := h n (by omega)
      refine ⟨xs ++ [y], by simp [hl], fun i x hi => ?_⟩
      by_cases hin : i < xs.length
      · rw [List.getElem?_append_left hin] at hi
        exact hx i x hi
      · rw [List.getElem?_append_right (by omega)] at hi
        have hi0 : i - xs.length = 0 := by
          by_cases hz : i - xs.length = 0
          · exact hz
          · rw [List.getElem?_eq_none (by simp; omega)] at hi
            exact absurd hi (by simp)
        rw [hi0] at hi
        have hyx : y = x := by simpa using hi
        subst hyx
        have hii : i = n := by omega
        subst hii
        exact ⟨cs, hc, hK, ho⟩
  obtain ⟨xs, hl, hx⟩ := h1
  refine ⟨xs, hl, ⟨hl, hlen, fun _ => ⟨a, rfl, fun j p hj => ?_⟩⟩, fun x hm => ?_⟩
  · obtain ⟨cs, hc, hK, _⟩ := hx j p hj
    obtain ⟨_, hcl, hcell⟩ := World.cells?_some hc
    refine ⟨cs, hcl, hK, fun i u hu => ?_⟩
    have hi : i < cs.length := (List.getElem?_eq_some_iff.1 hu).1
    rw [← Go.Deep.add_add, hcell i (by omega)]
    exact hu
  · obtain ⟨i, hi, rfl⟩ := List.mem_iff_getElem.1 hm
    exact (hx i _ (List.getElem?_eq_getElem hi)).elim fun _ h => h.2.2
theorem opens_slice {α : Type} {P : Program} {t e : TypeId} {d : Kd α} {ok : α → Prop} (ht : P.underlying t = some (.slice e)) (hc : P.cellsOf e = d.sz) (he : Opens P e d ok) :
    Opens P t (Kd.slice e d) (fun xs => xs.length ≤ maxLen ∧ ∀ x ∈ xs, ok x) := by
  intro H enc w spare held fuel cs x h
  rcases open_slice ht h with ⟨rfl, _⟩ | ⟨a, len, cap, m, n, D, Pl, rfl, _, hl, hm, hmm, _, hx⟩
  · refine ⟨[], ⟨none, 0, rfl, Nat.le_refl _, rfl, by simp, fun h => absurd h (by simp)⟩, by simp, by simp⟩
  · have hlm : len ≤ m := by rw [hmm]; split <;> omega
    obtain ⟨xs, hxl, hC, ho⟩ := rows_of (d := d) (ok := ok) (w := w) (a := a) (len := len) (by unfold maxLen at hm; omega) (fun i hi => by
      obtain ⟨cs', h1, h2⟩ := hx i (by omega)
      obtain ⟨y, hK, hoy⟩ := he H enc w spare held n cs' _ h2
      rw [hc] at h1
      exact ⟨cs', y, h1, hK, hoy⟩)
    subst hxl
    exact ⟨xs, ⟨some a, cap, rfl, hl, hC⟩, by omega, ho⟩
/-- The same at elements that are opened at a lesser fuel alone (a type nested in itself). -/
theorem opens_slice_at {α : Type} {P : Program} {t e : TypeId} {d : Kd α} {ok : α → Prop} (ht : P.underlying t = some (.slice e)) (hc : P.cellsOf e = d.sz)
    {H : Type} {enc : TypeId × Value → H} {w : World} {spare : Nat → Bool} {held : Bool} {fuel : Nat} {cs : List Value} {x : DataW H × List MemPlace}
    (he : ∀ (cs : List Value) (x : DataW H × List MemPlace), ∀ n, n < fuel → DataW.trod enc P w 0 spare held n e cs = some x → ∃ a, d.K w a cs ∧ ok a)
    (h : DataW.trod enc P w 0 spare held fuel t cs = some x) :
    ∃ xs, (Kd.slice e d).K w xs cs ∧ xs.length ≤ maxLen ∧ ∀ x ∈ xs, ok x := by
  rcases DataW.trod_slice ht h with ⟨rfl, _⟩ | ⟨a, len, cap, elems, rest, n, hn, rfl, _, _, hl, hm, hlen, hel, _, _⟩
  · exact ⟨[], ⟨none, 0, rfl, Nat.le_refl _, rfl, by simp, fun h => absurd h (by simp)⟩, by simp, by simp⟩
  · obtain ⟨xs, hxl, hC, ho⟩ := rows_of (d := d) (ok := ok) (w := w) (a := a) (len := len) (by unfold maxLen at hm; omega) (fun i hi => by
      have hi' := hel i hi
      rw [List.getElem?_eq_getElem (by omega)] at hi'
      obtain ⟨cs', h1, h2⟩ := Option.bind_eq_some_iff.1 hi'
      obtain ⟨y, hK, hoy⟩ := he cs' _ n (by omega) h2
      rw [hc] at h1
      exact ⟨cs', y, h1, hK, hoy⟩)
    subst hxl
    exact ⟨xs, ⟨some a, cap, rfl, hl, hC⟩, by omega, ho⟩
end Go.Proofs.YtmphdmhpfghfkaaDoor.Op
set_option linter.unusedSimpArgs false
set_option linter.unusedVariables false
namespace Go.Proofs.YtmphdmhpfghfkaaDoor.Op
open Go.RowKit Go.Proofs.YtmphdmhpfghfkaaDoorW.PrintWords Go.Deep Go.ChangeShapes Go.WideShapes Go.ChangeAt Go.Lib Go.Joins Go.Proofs.YtmphdmhpfghfkaaDoor.PK Go.Proofs.YtmphdmhpfghfkaaDoor.Pl
theorem texts_cell {H : Type} {enc : TypeId × Value → H} {w : World} {spare : Nat → Bool} {held : Bool} {fuel : Nat} {v : Value} {x : DataW H × List MemPlace}
    (h : DataW.trod enc Tryd.prog w 0 spare held fuel 22 [v] = some x) :
    ∃ (A : Option Addr) (c : Nat) (l : List ByteArray), v = .slice A l.length c ∧ l.length ≤ c ∧ Kd.C Kd.string w A l.length l ∧ l.length ≤ maxLen ∧ ∀ x ∈ l, x.size ≤ maxLen := by
  obtain ⟨l, ⟨A, c, he, hl, hC⟩, hm, hw⟩ := opens_slice (d := Kd.string) Tryd.underlying22 (by kernel_rfl) (opens_string Tryd.underlying9) H enc w spare held fuel [v] x h
  obtain rfl := (List.cons.inj he).1
  exact ⟨A, c, l, rfl, hl, hC, hm, hw⟩
theorem list5 {α : Type} {l : List α} (h : l.length = 5) : ∃ a b c d e, l = [a, b, c, d, e] := by
  match l, h with
  | [a, b, c, d, e], _ => exact ⟨a, b, c, d, e, rfl⟩
theorem val_opens {H : Type} (enc : TypeId × Value → H) (w : World) (spare : Nat → Bool) (held : Bool) : ∀ (fuel : Nat) (cs : List Value) (x : DataW H × List MemPlace),
    DataW.trod enc Tryd.prog w 0 spare held fuel 25 cs = some x → ∃ a : V, k25.K w a cs ∧ FineN fuel a := by
  intro fuel
  induction fuel using Nat.strongRecOn with
  | _ fuel ih =>
  intro cs x h
  obtain ⟨xs, n, rfl, _, hl, hlen, hf⟩ := DataW.trod_struct Tryd.underlying25 h
  obtain ⟨y0, y1, y2, y3, y4, rfl⟩ := list5 hlen
  have hl5 : cs.length = 5 := hl.trans (by kernel_rfl)
  obtain ⟨c0, c1, c2, c3, c4, rfl⟩ := list5 hl5
  have e0 : Tryd.prog.cellsOf 3 = 1 := by kernel_rfl
  have e1 : Tryd.prog.cellsOf 2 = 1 := by kernel_rfl
  have e2 : Tryd.prog.cellsOf 9 = 1 := by kernel_rfl
  have e3 : Tryd.prog.cellsOf 22 = 1 := by kernel_rfl
  have e4 : Tryd.prog.cellsOf 23 = 1 := by kernel_rfl
  have h0 := hf 0 _ rfl
  have h1 := hf 1 _ rfl
  have h2 := hf 2 _ rfl
  have h3 := hf 3 _ rfl
  have h4 := hf 4 _ rfl
  simp only [e0, e1, e2, e3, e4, List.drop_zero, List.take_succ_cons, List.take_zero, List.drop_succ_cons, List.getElem?_cons_zero, List.getElem?_cons_succ] at h0 h1 h2 h3 h4
  obtain ⟨n0, r0, _, w0⟩ := DataW.trod_int Tryd.underlying3 h0
  obtain ⟨n1, r1, _, w1⟩ := DataW.trod_int Tryd.underlying2 h1
  obtain ⟨s2, r2, _, w2⟩ := DataW.trod_string Tryd.underlying9 h2
  obtain ⟨A3, b3, l3, rfl, hl3, hC3, hm3, hw3⟩ := texts_cell h3
  obtain ⟨l4, ⟨A4, b4, r4, hl4, hC4⟩, hm4, hw4⟩ := opens_slice_at (d := k25) (ok := FineN n) Tryd.underlying23 (by kernel_rfl) (fun cs x m hm hx => by
    obtain ⟨a, hK, hF⟩ := ih m (by omega) cs x hx
    exact ⟨a, hK, hF.mono (by omega)⟩) h4
  obtain rfl := (List.cons.inj r0).1
  obtain rfl := (List.cons.inj r1).1
  obtain rfl := (List.cons.inj r2).1
  obtain rfl := (List.cons.inj r4).1
  exact ⟨⟨n0, n1, s2, l3, l4⟩, k25_mk w ⟨n0, n1, s2, l3, l4⟩ hl3 hC3 hl4 hC4, w0, w1, w2, hm3, hw3, hm4, hw4⟩
theorem values_arg {H : Type} {enc : TypeId × Value → H} {w : World} {spare : Nat → Bool} {held : Bool} {r : Reach} {b0 : Nat} {v : Value} {d : DataW H} {p : List MemPlace}
    (hv : Value.okWide Tryd.prog w r b0 23 v) (h : DataW.Trod enc Tryd.prog w 0 spare held 23 v d p) :
    ∃ (A : Option Addr) (c : Nat) (l : List V) (n : Nat), v = .slice A l.length c ∧ l.length ≤ c ∧ Kd.C k25 w A l.length l ∧ l.length ≤ maxLen ∧ ∀ x ∈ l, FineN n x := by
  obtain ⟨a, len, cap, rfl⟩ := okWide_slice Tryd.underlying23 hv
  obtain ⟨fuel, hf⟩ := h
  obtain ⟨l, ⟨A, c, he, hl, hC⟩, hm, hw⟩ := opens_slice_at (d := k25) (ok := FineN fuel) Tryd.underlying23 (by kernel_rfl) (fun cs x m hm hx => by
    obtain ⟨a, hK, hF⟩ := val_opens enc w spare held m cs x hx
    exact ⟨a, hK, (hF.mono (Nat.le_of_lt hm) : FineN fuel a)⟩) (by simpa [Value.cells] using hf)
  obtain e := (List.cons.inj he).1
  exact ⟨A, c, l, fuel, e, hl, hC, hm, hw⟩
end Go.Proofs.YtmphdmhpfghfkaaDoor.Op
namespace Go.Proofs.YtmphdmhpfghfkaaDoor.Op
open Go.RowKit Go.Proofs.YtmphdmhpfghfkaaDoorW.PrintWords Go.Proofs.YtmphdmhpfghfkaaDoor.PK Go.Proofs.YtmphdmhpfghfkaaDoor.Pl Go.Deep Go.ChangeShapes Go.WideShapes Go.ChangeAt Go.Lib Go.Joins
theorem values_cell {H : Type} {enc : TypeId × Value → H} {w : World} {spare : Nat → Bool} {held : Bool} {fuel : Nat} {v : Value} {x : DataW H × List MemPlace}
    (h : DataW.trod enc Tryd.prog w 0 spare held fuel 23 [v] = some x) :
    ∃ (A : Option Addr) (c : Nat) (l : List V), v = .slice A l.length c ∧ l.length ≤ c ∧ Kd.C k25 w A l.length l ∧ l.length ≤ maxLen ∧ ∀ x ∈ l, FineN fuel x := by
  obtain ⟨l, ⟨A, c, he, hl, hC⟩, hm, hw⟩ := opens_slice_at (d := k25) (ok := FineN fuel) Tryd.underlying23 (by kernel_rfl) (fun cs x m hm hx => by
    obtain ⟨a, hK, hF⟩ := val_opens enc w spare held m cs x hx
    exact ⟨a, hK, (hF.mono (Nat.le_of_lt hm) : FineN fuel a)⟩) h
  obtain rfl := (List.cons.inj he).1
  exact ⟨A, c, l, rfl, hl, hC, hm, hw⟩
theorem flags_cell {H : Type} {enc : TypeId × Value → H} {w : World} {spare : Nat → Bool} {held : Bool} {fuel : Nat} {v : Value} {x : DataW H × List MemPlace}
    (h : DataW.trod enc Tryd.prog w 0 spare held fuel 41 [v] = some x) :
    ∃ (A : Option Addr) (c : Nat) (l : List Bool), v = .slice A l.length c ∧ l.length ≤ c ∧ Kd.C Kd.bool w A l.length l ∧ l.length ≤ maxLen := by
  obtain ⟨l, ⟨A, c, he, hl, hC⟩, hm, _⟩ := opens_slice (d := Kd.bool) Tryd.underlying41 (by kernel_rfl) (opens_bool Tryd.underlying4) H enc w spare held fuel [v] x h
  obtain rfl := (List.cons.inj he).1
  exact ⟨A, c, l, rfl, hl, hC, hm⟩
theorem list_arg {H : Type} {enc : TypeId × Value → H} {w : World} {spare : Nat → Bool} {held : Bool} {r : Reach} {b0 : Nat} {v : Value} {d : DataW H} {p : List MemPlace}
    (hv : Value.okWide Tryd.prog w r b0 43 v) (h : DataW.Trod enc Tryd.prog w 0 spare held 43 v d p) :
    ∃ (A1 : Option Addr) (c1 : Nat) (l1 : List V) (A2 : Option Addr) (c2 : Nat) (l2 : List Bool) (n : Nat), v = .agg #[.slice A1 l1.length c1, .slice A2 l2.length c2] ∧
      l1.length ≤ c1 ∧ Kd.C k25 w A1 l1.length l1 ∧ l2.length ≤ c2 ∧ Kd.C Kd.bool w A2 l2.length l2 ∧ l1.length ≤ maxLen ∧ ∀ x ∈ l1, FineN n x := by
  obtain ⟨v0, v1, y0, y1, n, rfl, _, _, h0, h1⟩ := open_agg2 Tryd.underlying43 (by kernel_rfl) (by kernel_rfl) hv h
  obtain ⟨A1, c1, l1, rfl, hl1, hC1, w1, f1⟩ := values_cell h0
  obtain ⟨A2, c2, l2, rfl, hl2, hC2, w2⟩ := flags_cell h1
  exact ⟨A1, c1, l1, A2, c2, l2, n, rfl, hl1, hC1, hl2, hC2, w1, f1⟩
end Go.Proofs.YtmphdmhpfghfkaaDoor.Op
