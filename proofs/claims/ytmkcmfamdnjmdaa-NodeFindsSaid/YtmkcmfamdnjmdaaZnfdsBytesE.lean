import Derived.Test.YtmkcmfamdnjmdaaZnfdsPlain
import Derived.Test.YtmkcmfamdnjmdaaZnfdsPNx6
import Derived.Test.YtmkcmfamdnjmdaaZnfdsPNx4
set_option linter.unusedSimpArgs false
set_option linter.unusedVariables false
namespace Go.Proofs.Ytmkcmfamdnjmdaa.Pl
open Go.RowKit Go.Proofs.YtmkcmfamdnjmdaaW.PrintWords Go.Proofs.YtmkcmfamdnjmdaaW.PrintMore Go.Proofs.Ytmkcmfamdnjmdaa.PN
theorem bytes_inj {a b : List Int} (ha : Bytes a) (hb : Bytes b) (h : (strOfNums a).toList = (strOfNums b).toList) : a = b := by
  have e : ∀ l : List Int, (strOfNums l).toList = l.map fun n => UInt8.ofNat n.toNat := by
    intro l
    rw [ByteArray.toList_eq]
    simp [strOfNums]
  rw [e, e] at h
  clear e
  induction a generalizing b with
  | nil =>
    cases b with
    | nil => rfl
    | cons y b => simp at h
  | cons x a ih =>
    cases b with
    | nil => simp at h
    | cons y b =>
      rw [List.map_cons, List.map_cons] at h
      obtain ⟨h1, h2⟩ := List.cons.inj h
      have hx := ha.head
      have hy := hb.head
      unfold Byte at hx hy
      have h3 := congrArg UInt8.toNat h1
      simp only [UInt8.toNat_ofNat'] at h3
      have h4 : x = y := by
        rw [Nat.mod_eq_of_lt (by omega), Nat.mod_eq_of_lt (by omega)] at h3
        omega
      rw [h4, ih ha.tail hb.tail h2]
theorem equal_eq {a b : List Int} (ha : Bytes a) (hb : Bytes b) : bytes_Equal.f a b = some (decide (a = b)) := by
  unfold bytes_Equal.f
  congr 1
  rw [Bool.eq_iff_iff]
  simp only [beq_iff_eq, decide_eq_true_eq]
  exact ⟨fun h => bytes_inj ha hb h, fun h => h ▸ rfl⟩
theorem compareBytes_eq : ∀ (a b : List Int), Bytes a → Bytes b → Lib.compareBytes (Lib.bytesOf a) (Lib.bytesOf b) = if ltL a b = true then -1 else if ltL b a = true then 1 else 0
  | [], [], _, _ => by simp [Lib.bytesOf, Lib.compareBytes, ltL]
  | [], _ :: _, _, _ => by simp [Lib.bytesOf, Lib.compareBytes, ltL]
  | _ :: _, [], _, _ => by simp [Lib.bytesOf, Lib.compareBytes, ltL]
  | x :: a, y :: b, ha, hb => by
    have ih := compareBytes_eq a b ha.tail hb.tail
    have hx := ha.head
    have hy := hb.head
    unfold Byte at hx hy
    have hlt : ∀ u v : Int, 0 ≤ u ∧ u < 256 → 0 ≤ v ∧ v < 256 → (u.toNat.toUInt8 < v.toNat.toUInt8 ↔ u < v) := by
      intro u v hu hv
      rw [UInt8.lt_iff_toNat_lt]
      have e : ∀ w : Int, 0 ≤ w ∧ w < 256 → (w.toNat.toUInt8).toNat = w.toNat := by
        intro w hw
        simp [Nat.toUInt8]
        omega
      rw [e u hu, e v hv]
      omega
    show (if x.toNat.toUInt8 < y.toNat.toUInt8 then (-1 : Int) else if y.toNat.toUInt8 < x.toNat.toUInt8 then 1 else Lib.compareBytes (Lib.bytesOf a) (Lib.bytesOf b)) = _
    simp only [hlt x y hx hy, hlt y x hy hx, ih]
    rw [show ltL (x :: a) (y :: b) = if x = y then ltL a b else decide (x < y) from rfl, show ltL (y :: b) (x :: a) = if y = x then ltL b a else decide (y < x) from rfl]
    by_cases e : x = y
    · subst e
      simp
    · by_cases c : x < y
      · simp [c, e]
      · have c' : y < x := by omega
        simp [c, c', e, Ne.symm e]
theorem ltL_trans : ∀ a b c : List Int, ltL a b = true → ltL b c = true → ltL a c = true
  | [], [], _, h, _ => by simp [ltL] at h
  | [], _ :: _, [], _, h => by simp [ltL] at h
  | [], _ :: _, _ :: _, _, _ => rfl
  | _ :: _, [], _, h, _ => by simp [ltL] at h
  | _ :: _, _ :: _, [], _, h => by simp [ltL] at h
  | x :: a, y :: b, z :: c, h, h' => by
    have ih := ltL_trans a b c
    unfold ltL at h h' ⊢
    by_cases e : x = y
    · subst e
      rw [if_pos rfl] at h
      by_cases e2 : x = z
      · subst e2
        rw [if_pos rfl] at h' ⊢
        exact ih h h'
      · rw [if_neg e2] at h' ⊢
        exact h'
    · rw [if_neg e] at h
      by_cases e2 : y = z
      · subst e2
        rw [if_neg e]
        exact h
      · rw [if_neg e2] at h'
        simp only [decide_eq_true_eq] at h h'
        rw [if_neg (by omega)]
        simp only [decide_eq_true_eq]
        omega
/-- What is not greater than something less is less. -/
theorem ltL_le {a b c : List Int} (h : ltL b a = false) (h' : ltL b c = true) : ltL a c = true := by
  by_cases e : ltL a b = true
  · exact ltL_trans a b c e h'
  · simp only [Bool.not_eq_true] at e
    rw [ltL_total a b e h]
    exact h'
theorem ltL_ge {a b c : List Int} (h : ltL b a = false) (h' : ltL a c = false) : ltL b c = false := by
  cases e : ltL b c with
  | false => rfl
  | true => rw [ltL_le h e] at h'; exact absurd h' (by simp)
end Go.Proofs.Ytmkcmfamdnjmdaa.Pl
