import Derived.Test.YtmphdmhpfghfkaaDoorZkradKeysF
set_option linter.unusedSimpArgs false
set_option linter.unusedVariables false
namespace Go.Proofs.YtmphdmhpfghfkaaDoor.Pl
open Go.RowKit Go.Proofs.YtmphdmhpfghfkaaDoorW.PrintWords Go.Proofs.YtmphdmhpfghfkaaDoorW.PrintMore Go.Proofs.YtmphdmhpfghfkaaDoor.PK
/-- Whatever stands behind: the two are ordered as c says, and where c is 0 what stands behind decides. -/
def Cut (c : Int) (a b : List Int) : Prop := ∀ x y, ltL (a ++ x) (b ++ y) = if c = 0 then ltL x y else decide (c < 0)
theorem Cut.nil : Cut 0 [] [] := fun x y => by simp
theorem Cut.append {c d : Int} {a b a' b' : List Int} (h : Cut c a b) (h' : c = 0 → Cut d a' b') : Cut (or2 c d) (a ++ a') (b ++ b') := by
  intro x y
  rw [List.append_assoc, List.append_assoc, h]
  unfold or2
  by_cases hc : c = 0
  · rw [if_pos hc, if_pos hc, h' hc]
  · rw [if_neg hc, if_neg hc, if_neg hc]
theorem Cut.byte (p q : Int) : Cut (cmpI p q) [p] [q] := by
  intro x y
  simp only [List.cons_append, List.nil_append, ltL, cmpI]
  by_cases h : p = q
  · subst h
    simp
  · by_cases h' : p < q
    · simp [h, h']
    · have : p > q := by omega
      simp [h, h', this]
theorem Cut.of {c d : Int} {a b : List Int} (h : Cut c a b) (e : c = d) : Cut d a b := e ▸ h
theorem ltL_apart : ∀ (a b : List Int), a.length = b.length → ∀ x y, ltL (a ++ x) (b ++ y) = if a = b then ltL x y else ltL a b
  | [], [], _, x, y => by simp
  | [], _ :: _, h, _, _ => by simp at h
  | _ :: _, [], h, _, _ => by simp at h
  | p :: a, q :: b, h, x, y => by
    have ih := ltL_apart a b (by simpa using h) x y
    simp only [List.cons_append, ltL]
    by_cases e : p = q
    · subst e
      simp [ih]
    · simp [e]
theorem Cut.num {x y : Int} (hx : -9223372036854775808 ≤ x ∧ x < 9223372036854775808) (hy : -9223372036854775808 ≤ y ∧ y < 9223372036854775808) : Cut (cmpI x y) (b8 (x + 9223372036854775808)) (b8 (y + 9223372036854775808)) := by
  intro s t
  rw [ltL_apart (b8 (x + 9223372036854775808)) (b8 (y + 9223372036854775808)) rfl, ltL_b8 (by omega) (by omega) (by omega) (by omega)]
  unfold cmpI
  by_cases e : x = y
  · subst e
    simp
  · have e2 : ¬ b8 (x + 9223372036854775808) = b8 (y + 9223372036854775808) := fun h => e (by have := b8_inj (by omega) (by omega) (by omega) (by omega) h; omega)
    rw [if_neg e2]
    by_cases h : x < y
    · have h2 : x + 9223372036854775808 < y + 9223372036854775808 := by omega
      simp [h, h2]
    · have h2 : ¬ x + 9223372036854775808 < y + 9223372036854775808 := by omega
      have h3 : x > y := by omega
      simp [h, h2, h3]
theorem ltL_tb : ∀ a b : List UInt8, ltL (a.map fun u => (u.toNat : Int)) (b.map fun u => (u.toNat : Int)) = decide (lexL cmpB a b < 0)
  | [], [] => rfl
  | [], _ :: _ => rfl
  | _ :: _, [] => rfl
  | p :: a, q :: b => by
    have ih := ltL_tb a b
    show (if (p.toNat : Int) = (q.toNat : Int) then ltL (a.map fun u => (u.toNat : Int)) (b.map fun u => (u.toNat : Int)) else decide ((p.toNat : Int) < (q.toNat : Int))) = decide (or2 (cmpB p q) (lexL cmpB a b) < 0)
    rw [ih, cmpB_nat]
    unfold or2 cmpI
    by_cases e : (p.toNat : Int) = (q.toNat : Int)
    · rw [if_pos e, e]
      simp
    · rw [if_neg e]
      by_cases h : (p.toNat : Int) < (q.toNat : Int)
      · simp [h]
      · have h3 : (p.toNat : Int) > (q.toNat : Int) := by omega
        simp [h, h3]
theorem tb_bytes (s : ByteArray) : Bytes (tb s) := by
  intro x hx
  obtain ⟨u, _, rfl⟩ := List.mem_map.1 hx
  have := u.toNat_lt
  unfold Byte
  omega
theorem tb_inj {s t : ByteArray} (h : tb s = tb t) : s = t := by
  apply toList_inj
  unfold tb at h
  exact (List.map_inj_right (fun a b hab => UInt8.toNat_inj.1 (by omega))).1 h
theorem Cut.text (s t : ByteArray) : Cut (cmpS s t) (esc (tb s) ++ [0, 0]) (esc (tb t) ++ [0, 0]) := by
  intro x y
  have h := ltL_esc 0 0 (x) (y) (by omega) (by omega) (tb s) (tb t) (tb_bytes s) (tb_bytes t)
  have e : ∀ (l z : List Int), esc l ++ [0, 0] ++ z = esc l ++ 0 :: 0 :: z := fun l z => by simp
  rw [e, e, h]
  by_cases c : s = t
  · subst c
    rw [cmpS_self]
    simp [ltL]
  · have c1 : ¬ tb s = tb t := fun h => c (tb_inj h)
    have c2 : ¬ cmpS s t = 0 := fun h => c ((good_cmpS.zero s t trivial trivial).1 h)
    rw [if_neg c1, if_neg c2]
    exact ltL_tb _ _
/-- Members and their end: as the lists of members are ordered. -/
theorem Cut.members {α : Type} (f : α → List Int) (c : α → α → Int) : ∀ a b : List α, (∀ x ∈ a, ∀ y ∈ b, Cut (c x y) (f x) (f y)) → (∀ x ∈ a, ∃ p r, f x = p :: r ∧ 0 < p) → (∀ x ∈ b, ∃ p r, f x = p :: r ∧ 0 < p) →
    Cut (lexL c a b) ((a.map f).flatten ++ [0]) ((b.map f).flatten ++ [0])
  | [], [], _, _, _ => (Cut.byte 0 0).of rfl
  | [], y :: b, _, _, hb => by
    obtain ⟨p, r, e, hp⟩ := hb y (by simp)
    intro s t
    have h1 : ¬ (0 : Int) = p := by omega
    simp [lexL, e, ltL, h1, hp]
  | x :: a, [], _, ha, _ => by
    obtain ⟨p, r, e, hp⟩ := ha x (by simp)
    intro s t
    have h1 : ¬ p = 0 := by omega
    have h2 : ¬ p < 0 := by omega
    simp [lexL, e, ltL, h1, h2]
  | x :: a, y :: b, h, ha, hb => by
    have ih := Cut.members f c a b (fun p hp q hq => h p (by simp [hp]) q (by simp [hq])) (fun p hp => ha p (by simp [hp])) (fun p hp => hb p (by simp [hp]))
    have := (h x (by simp) y (by simp)).append (fun _ => ih)
    simpa [lexL] using this
end Go.Proofs.YtmphdmhpfghfkaaDoor.Pl
