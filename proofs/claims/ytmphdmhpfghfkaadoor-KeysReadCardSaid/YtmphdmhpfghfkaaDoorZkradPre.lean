import Derived.Test.YtmphdmhpfghfkaaDoorZkradWMore
import Derived.Test.YtmphdmhpfghfkaaDoorZkradWShare
namespace Go.Proofs.YtmphdmhpfghfkaaDoorW.PrintWords
open Go.RowKit Go.Proofs.YtmphdmhpfghfkaaDoorW.PrintMore
theorem u64_ones_ : (if IntKind.u64.signed = true then (-1 : Int) else IntKind.u64.max) = 18446744073709551615 := rfl
@[go_sem] theorem binOp_string_geq_ (t : TypeId) (a b : ByteArray) : binOp .geq t (.string a) (.string b) = pure (.bool !(Op.bytesLess a.toList b.toList)) := by simp [binOp, Op.stringOp]
theorem bytesLess_flip : ∀ (x y : List UInt8), Op.bytesLess y x = !(Op.bytesLess x y || x == y)
  | [], [] => rfl
  | [], _ :: _ => rfl
  | _ :: _, [] => rfl
  | a :: x, b :: y => by
    have ih := bytesLess_flip x y
    show (decide (b < a) || (b == a && Op.bytesLess y x)) = !((decide (a < b) || (a == b && Op.bytesLess x y)) || (a :: x == b :: y))
    rw [ih]
    by_cases e : a = b
    · subst e
      have h1 : ¬ a < a := UInt8.lt_irrefl a
      have h2 : (a :: x == a :: y) = (x == y) := by simp
      rw [h2]
      simp [h1]
    · have h3 : (a :: x == b :: y) = false := by simp [e]
      have h4 : (b == a) = false := by simpa using Ne.symm e
      have h5 : (a == b) = false := by simpa using e
      rw [h3, h4, h5]
      by_cases c : a < b
      · have h6 : ¬ b < a := fun h => UInt8.lt_irrefl a (UInt8.lt_trans c h)
        simp [c, h6]
      · have h6 : b < a := UInt8.lt_of_le_of_ne (UInt8.not_lt.1 c) (Ne.symm e)
        simp [c, h6]
@[go_sem high] theorem binOp_string_gtr_ (t : TypeId) (a b : ByteArray) : binOp .gtr t (.string a) (.string b) = pure (.bool (Op.bytesLess b.toList a.toList)) := by
  rw [bytesLess_flip]
  simp [binOp, Op.stringOp]
@[go_sem high] theorem binOp_string_leq_ (t : TypeId) (a b : ByteArray) : binOp .leq t (.string a) (.string b) = pure (.bool !(Op.bytesLess b.toList a.toList)) := by
  rw [bytesLess_flip]
  simp [binOp, Op.stringOp]
theorem min2_mn_ (k k' : IntKind) (x y : Int) : Builtin.min2 (.int k x) (.int k' y) = pure (.int k (mn x y)) := min2_int k k' x y
theorem max2_mx_ (k k' : IntKind) (x y : Int) : Builtin.max2 (.int k x) (.int k' y) = pure (.int k (mx x y)) := max2_int k k' x y
@[simp] theorem bne_nil_ (l : List UInt8) : (l != ([] : List UInt8)) = !l.isEmpty := by cases l <;> rfl
/-- Is there one in a list? Asked one by one, none behind the first. -/
def anyO {α : Type} (p : α → Option Bool) : List α → Option Bool
  | [] => some false
  | x :: l => (p x).bind fun b => if b = true then some true else anyO p l
theorem LeO.anyO {α : Type} {p q : α → Option Bool} (h : ∀ x, LeO (p x) (q x)) : ∀ l : List α, LeO (PrintWords.anyO p l) (PrintWords.anyO q l)
  | [] => LeO.refl _
  | x :: l => by
    unfold PrintWords.anyO
    exact LeO.bind (h x) (fun b => LeO.ite (LeO.refl _) (LeO.anyO h l))
namespace Kd
section
variable {α : Type} {d : Kd α} {e base g n c : Nat} {W : World} {ok : Nat → Prop} {ad : Addr} {xs : List α}
/-- Rows inside an element of a row that came in and stays whatever is written in S: what holds of them in each such memory. -/
theorem foot_leaf {β : Type} {dd : Kd β} {w Wr : World} {S : Nat → Prop} {A : Option Addr} {m : Nat} {ys : List β} (h : ∀ W', Kept w W' S → Kd.C dd W' A m ys) (hk : Kept w Wr S) (z : β) (i : Int) (h0 : 0 ≤ i) (h1 : i < m) (hs : 0 < dd.sz)
    (hA : A = some ad) (j : Nat) (hj : j < dd.sz) {v : Value} (hv : Wr.cell? (ad.add (i.toNat * dd.sz + j)) = some v) {P : World → Prop} (hP : ∀ W' c, Kept w W' S → dd.K W' (ys.getD i.toNat z) c → c[j]? = some v → P W') : ∀ W', Kept w W' S → P W' := by
  subst hA
  have hlt : ad.block < w.heap.size := by
    obtain ⟨ad', c, e, hl, _, hc⟩ := Kd.C_get (h w (Kept.refl w S)) z i h0 h1
    injection e with e
    subst e
    have := hc 0 _ (List.getElem?_eq_getElem (by omega))
    have := World.block_lt_of_cell? _ _ this
    rwa [add_block] at this
  have hS : ¬ S ad.block := by
    intro hb
    have hK : Kept w { Wr with heap := Wr.heap.setIfInBounds ad.block (.cells #[] 0) } S := ⟨by simpa using hk.1, fun k hk1 hk2 => by
      have : ad.block ≠ k := fun e => hk2 (e ▸ hb)
      rw [← hk.2 k hk1 hk2]
      simp [this]⟩
    obtain ⟨ad', c, e, hl, _, hc⟩ := Kd.C_get (h _ hK) z i h0 h1
    injection e with e
    subst e
    have h2 := hc 0 _ (List.getElem?_eq_getElem (by omega))
    have hlt2 : ad.block < Wr.heap.size := Nat.lt_of_lt_of_le hlt hk.1
    unfold World.cell? at h2
    rw [add_block] at h2
    simp [hlt2] at h2
  intro W' hW
  obtain ⟨ad', c, e, hl, hKx, hc⟩ := Kd.C_get (h W' hW) z i h0 h1
  injection e with e
  subst e
  refine hP W' c hW hKx ?_
  have h2 := hc j _ (List.getElem?_eq_getElem (by omega))
  have e2 : W'.heap[(ad.add (i.toNat * dd.sz + j)).block]? = Wr.heap[(ad.add (i.toNat * dd.sz + j)).block]? := by
    have e3 : (ad.add (i.toNat * dd.sz + j)).block = ad.block := add_block _ _
    rw [e3, hW.2 _ hlt hS, hk.2 _ hlt hS]
  have e4 : W'.cell? (ad.add (i.toNat * dd.sz + j)) = Wr.cell? (ad.add (i.toNat * dd.sz + j)) := by
    unfold World.cell?
    rw [e2]
  rw [List.getElem?_eq_getElem (by omega : j < c.length)]
  rw [e4, hv] at h2
  exact h2.symm
end
end Kd
end Go.Proofs.YtmphdmhpfghfkaaDoorW.PrintWords
namespace Go.Proofs.YtmphdmhpfghfkaaDoorW.PrintWords
open Go.RowKit
theorem bz {w W : World} (h : Below w.heap.size w W := by repeat (first | (with_reducible first | exact HB.out | apply below_alloc | apply pw_below_drewN | apply below_drew1 | refine below_set ?_ (Aside0.out (by assumption))) | exact HB.out)) : Below w.heap.size w W := h
theorem lz {w W : World} (h : Below w.heap.size w W := by repeat (with_reducible first | exact Below.refl _ _ | apply below_alloc | apply pw_below_drewN | apply below_drew1)) : Below w.heap.size w W := h
theorem cz {w W : World} {p : Addr} {v : Value} (hb : Below w.heap.size w W) (h : w.cell? p = some v) : W.cell? p = some v := (hb.cell (World.block_lt_of_cell? w _ h)).trans h
theorem gz {a : Act} {xs_ : Array Operand} {args : Array Value} (h : xs_.map a.eval = args := by (try simp only [List.map_toArray, List.map_cons, List.map_nil]); first | done | rfl | (simp only [List.length_drop, List.length_take]; rfl)) : xs_.map a.eval = args := h
theorem oz {p : Prop} [Decidable p] (h : decide p = true := by first | (with_reducible assumption) | assumption) : p := of_decide_eq_true h
theorem rz {α : Type} {a b : α} (h : a = b := by first | rfl | (simp; done) | (simp [*]; done)) : a = b := h
theorem ez {α : Type} {a b : α} (h : a = b := by first | rfl | (simp [errW_none, errW_some] <;> rfl) | (simp [*, errW_none, errW_some] <;> rfl)) : a = b := h
theorem blk_cells1 {w : World} {g : Nat} {t : TypeId} {a : Value} (h : w.heap[g]? = some (.cells #[a] t (0, 0))) : w.cell? ⟨g, 0, none⟩ = some a := (blk_cell h 0).trans rfl
theorem blk_cells5 {w : World} {g : Nat} {t : TypeId} {a b c d e : Value} (h : w.heap[g]? = some (.cells #[a, b, c, d, e] t (0, 0))) : w.cell? ⟨g, 0, none⟩ = some a ∧ w.cell? ⟨g, 1, none⟩ = some b ∧ w.cell? ⟨g, 2, none⟩ = some c ∧ w.cell? ⟨g, 3, none⟩ = some d ∧ w.cell? ⟨g, 4, none⟩ = some e :=
  ⟨(blk_cell h 0).trans rfl, (blk_cell h 1).trans rfl, (blk_cell h 2).trans rfl, (blk_cell h 3).trans rfl, (blk_cell h 4).trans rfl⟩
theorem blk_frz5 {w : World} {g : Nat} {t : TypeId} {cs : Array Value} (h : w.heap[g]? = some (.cells cs t (0, 0))) : w.frozen? ⟨g, 0, none⟩ = false ∧ w.frozen? ⟨g, 1, none⟩ = false ∧ w.frozen? ⟨g, 2, none⟩ = false ∧ w.frozen? ⟨g, 3, none⟩ = false ∧ w.frozen? ⟨g, 4, none⟩ = false := ⟨blk_frozen h 0, blk_frozen h 1, blk_frozen h 2, blk_frozen h 3, blk_frozen h 4⟩
end Go.Proofs.YtmphdmhpfghfkaaDoorW.PrintWords
