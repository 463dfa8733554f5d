import Derived.Test.YtmkcmfamdnjmdaaZnpesWWords
import Derived.Deep.Slices
import Derived.Lib.SmallJoins
namespace Go.Proofs.Ytmkcmfamdnjmdaa.Op
open Go.RowKit Go.Proofs.YtmkcmfamdnjmdaaW.PrintWords Go.Deep
/-- Whatever reads as data at type t is a value of the kind d, of which ok holds. -/
def Opens {α : Type} (P : Program) (t : TypeId) (d : Kd α) (ok : α → Prop) : Prop :=
  ∀ (H : Type) (enc : TypeId × Value → H) (w : World) (spare : Nat → Bool) (held : Bool) (fuel : Nat) (cs : List Value) (x : DataW H × List MemPlace),
    DataW.trod enc P w 0 spare held fuel t cs = some x → ∃ a, d.K w a cs ∧ ok a
theorem opens_int {P : Program} {t : TypeId} {k : IntKind} (ht : P.underlying t = some (.int k)) : Opens P t (Kd.int k) (fun n => (Lit.int k n).wf = true) := by
  intro H enc w spare held fuel cs x h
  obtain ⟨n, rfl, _, hw⟩ := DataW.trod_int ht h
  exact ⟨n, rfl, hw⟩
theorem rows_of {α : Type} {d : Kd α} {ok : α → Prop} {w : World} {a : Addr} {len : Nat} (hlen : len ≤ 9223372036854775807)
    (h : ∀ i, i < len → ∃ cs x, w.cells? 0 (a.add (i * d.sz)) d.sz = some cs ∧ d.K w x cs ∧ ok x) :
    ∃ xs : List α, xs.length = len ∧ d.C w (some a) len xs ∧ ∀ x ∈ xs, ok x := by
  have h1 : ∃ xs : List α, xs.length = len ∧ ∀ (i : Nat) (x : α), xs[i]? = some x → ∃ cs, w.cells? 0 (a.add (i * d.sz)) d.sz = some cs ∧ d.K w x cs ∧ ok x := by
    clear hlen
    induction len with
    | zero => exact ⟨[], rfl, fun i x hi => by simp at hi⟩
    | succ n ih =>
      obtain ⟨xs, hl, hx⟩ := ih (fun i hi => h i (by omega))
      obtain ⟨cs, y, hc, hK, ho⟩ := h n (by omega)
      refine ⟨xs ++ [y], by simp [hl], fun i x hi => ?_⟩
      by_cases hin : i < xs.length
      · rw [List.getElem?_append_left hin] at hi
        exact hx i x hi
      · rw [List.getElem?_append_right (by omega)] at hi
        have hi0 : i - xs.length = 0 := by
          by_cases hz : i - xs.length = 0
          · exact hz
          · rw [List.getElem?_eq_none (by simp; omega)] at hi
            exact absurd hi (by simp)
        rw [hi0] at hi
        have hyx : y = x := by simpa using hi
        subst hyx
        have hii : i = n := by omega
        subst hii
        exact ⟨cs, hc, hK, ho⟩
  obtain ⟨xs, hl, hx⟩ := h1
  refine ⟨xs, hl, ⟨hl, hlen, fun _ => ⟨a, rfl, fun j p hj => ?_⟩⟩, fun x hm => ?_⟩
  · obtain ⟨cs, hc, hK, _⟩ := hx j p hj
    obtain ⟨_, hcl, hcell⟩ := World.cells?_some hc
    refine ⟨cs, hcl, hK, fun i u hu => ?_⟩
    have hi : i < cs.length := (List.getElem?_eq_some_iff.1 hu).1
    rw [← Go.Deep.add_add, hcell i (by omega)]
    exact hu
  · obtain ⟨i, hi, rfl⟩ := List.mem_iff_getElem.1 hm
    exact (hx i _ (List.getElem?_eq_getElem hi)).elim fun _ h => h.2.2
theorem opens_slice {α : Type} {P : Program} {t e : TypeId} {d : Kd α} {ok : α → Prop} (ht : P.underlying t = some (.slice e)) (hc : P.cellsOf e = d.sz) (he : Opens P e d ok) :
    Opens P t (Kd.slice e d) (fun xs => xs.length ≤ maxLen ∧ ∀ x ∈ xs, ok x) := by
  intro H enc w spare held fuel cs x h
  rcases open_slice ht h with ⟨rfl, _⟩ | ⟨a, len, cap, m, n, D, Pl, rfl, _, hl, hm, hmm, _, hx⟩
  · refine ⟨[], ⟨none, 0, rfl, Nat.le_refl _, rfl, by simp, fun h => absurd h (by simp)⟩, by simp, by simp⟩
  · have hlm : len ≤ m := by rw [hmm]; split <;> omega
    obtain ⟨xs, hxl, hC, ho⟩ := rows_of (d := d) (ok := ok) (w := w) (a := a) (len := len) (by unfold maxLen at hm; omega) (fun i hi => by
      obtain ⟨cs', h1, h2⟩ := hx i (by omega)
      obtain ⟨y, hK, hoy⟩ := he H enc w spare held n cs' _ h2
      rw [hc] at h1
      exact ⟨cs', y, h1, hK, hoy⟩)
    subst hxl
    exact ⟨xs, ⟨some a, cap, rfl, hl, hC⟩, by omega, ho⟩
end Go.Proofs.Ytmkcmfamdnjmdaa.Op
