import Derived.Test.YtmphdmhpfghfkaaDoorZkradEv
import Derived.Test.YtmphdmhpfghfkaaDoorZkradWMore
set_option linter.unusedSimpArgs false
set_option linter.unusedVariables false
namespace Go.Proofs.YtmphdmhpfghfkaaDoor.Pl
open Go.RowKit Go.Proofs.YtmphdmhpfghfkaaDoorW.PrintWords Go.Proofs.YtmphdmhpfghfkaaDoorW.PrintMore
def or2 (c d : Int) : Int := if c = 0 then d else c
def cmpI (a b : Int) : Int := if a < b then -1 else if a > b then 1 else 0
def cmpB (a b : UInt8) : Int := if a < b then -1 else if b < a then 1 else 0
def lexL {α : Type} (c : α → α → Int) : List α → List α → Int
  | [], [] => 0
  | [], _ :: _ => -1
  | _ :: _, [] => 1
  | x :: xs, y :: ys => or2 (c x y) (lexL c xs ys)
def cmpS (a b : ByteArray) : Int := lexL cmpB a.toList b.toList
/-- It turns round; it is nothing for the same alone; it passes on. -/
structure Good {α : Type} (S : α → Prop) (c : α → α → Int) : Prop where
  anti : ∀ a b, S a → S b → c b a = - c a b
  zero : ∀ a b, S a → S b → (c a b = 0 ↔ a = b)
  trans : ∀ a b d, S a → S b → S d → c a b ≤ 0 → c b d ≤ 0 → c a d ≤ 0
  small : ∀ a b, S a → S b → -1 ≤ c a b ∧ c a b ≤ 1
theorem Good.imp {α : Type} {S S' : α → Prop} {c : α → α → Int} (h : Good S c) (hs : ∀ a, S' a → S a) : Good S' c :=
  ⟨fun a b x y => h.anti a b (hs a x) (hs b y), fun a b x y => h.zero a b (hs a x) (hs b y), fun a b d x y z => h.trans a b d (hs a x) (hs b y) (hs d z), fun a b x y => h.small a b (hs a x) (hs b y)⟩
theorem good_cmpI : Good (fun _ => True) cmpI where
  anti a b _ _ := by unfold cmpI; omega
  zero a b _ _ := by unfold cmpI; omega
  trans a b d _ _ _ := by unfold cmpI; omega
  small a b _ _ := by unfold cmpI; omega
theorem cmpB_nat (a b : UInt8) : cmpB a b = cmpI (a.toNat : Int) (b.toNat : Int) := by
  unfold cmpB cmpI
  have e1 : a < b ↔ (a.toNat : Int) < (b.toNat : Int) := by rw [UInt8.lt_iff_toNat_lt]; omega
  have e2 : b < a ↔ (a.toNat : Int) > (b.toNat : Int) := by rw [UInt8.lt_iff_toNat_lt]; omega
  by_cases h : a < b
  · rw [if_pos h, if_pos (e1.1 h)]
  · rw [if_neg h, if_neg (fun k => h (e1.2 k))]
    by_cases h' : b < a
    · rw [if_pos h', if_pos (e2.1 h')]
    · rw [if_neg h', if_neg (fun k => h' (e2.2 k))]
theorem good_cmpB : Good (fun _ => True) cmpB where
  anti a b _ _ := by rw [cmpB_nat, cmpB_nat]; exact good_cmpI.anti _ _ trivial trivial
  zero a b _ _ := by
    rw [cmpB_nat, good_cmpI.zero _ _ trivial trivial]
    exact ⟨fun h => UInt8.toNat_inj.1 (by omega), fun h => by rw [h]⟩
  trans a b d _ _ _ := by rw [cmpB_nat, cmpB_nat, cmpB_nat]; exact good_cmpI.trans _ _ _ trivial trivial trivial
  small a b _ _ := by rw [cmpB_nat]; exact good_cmpI.small _ _ trivial trivial
/-- One order behind another: the first decides, else the second. -/
theorem Good.or2 {α β γ : Type} {S : γ → Prop} {A : α → Prop} {B : β → Prop} {c : α → α → Int} {d : β → β → Int} (hc : Good A c) (hd : Good B d) (f : γ → α) (g : γ → β) (hA : ∀ x, S x → A (f x)) (hB : ∀ x, S x → B (g x))
    (inj : ∀ x y, S x → S y → f x = f y → g x = g y → x = y) : Good S (fun x y => Pl.or2 (c (f x) (f y)) (d (g x) (g y))) where
  anti a b x y := by
    have h1 := hc.anti _ _ (hA a x) (hA b y)
    have h2 := hd.anti _ _ (hB a x) (hB b y)
    simp only [Pl.or2]
    rw [h1, h2]
    split <;> split <;> omega
  zero a b x y := by
    have h1 := hc.zero _ _ (hA a x) (hA b y)
    have h2 := hd.zero _ _ (hB a x) (hB b y)
    simp only [Pl.or2]
    constructor
    · intro h
      split at h
      · next h0 => exact inj a b x y (h1.1 h0) (h2.1 h)
      · next h0 => exact absurd h h0
    · rintro rfl
      rw [if_pos (h1.2 rfl)]
      exact h2.2 rfl
  trans a b e x y z := by
    simp only [Pl.or2]
    intro k1 k2
    have t1 := hc.trans _ _ _ (hA a x) (hA b y) (hA e z)
    have t2 := hd.trans _ _ _ (hB a x) (hB b y) (hB e z)
    have z1 := hc.zero _ _ (hA a x) (hA b y)
    have z2 := hc.zero _ _ (hA b y) (hA e z)
    have z3 := hc.zero _ _ (hA a x) (hA e z)
    have a1 := hc.anti _ _ (hA b y) (hA e z)
    have a2 := hc.anti _ _ (hA a x) (hA b y)
    by_cases e1 : c (f a) (f b) = 0
    · rw [if_pos e1] at k1
      have q1 := z1.1 e1
      by_cases e2 : c (f b) (f e) = 0
      · rw [if_pos e2] at k2
        have q2 := z2.1 e2
        rw [if_pos (z3.2 (q1.trans q2))]
        exact t2 k1 k2
      · rw [if_neg e2] at k2
        rw [q1, if_neg e2]
        exact k2
    · rw [if_neg e1] at k1
      by_cases e2 : c (f b) (f e) = 0
      · have q2 := z2.1 e2
        rw [← q2, if_neg e1]
        exact k1
      · rw [if_neg e2] at k2
        have k3 := t1 k1 k2
        have e3 : c (f a) (f e) ≠ 0 := by
          intro h0
          have q3 := z3.1 h0
          rw [← q3] at a1 k2
          omega
        rw [if_neg e3]
        exact k3
  small a b x y := by
    have h1 := hc.small _ _ (hA a x) (hA b y)
    have h2 := hd.small _ _ (hB a x) (hB b y)
    simp only [Pl.or2]
    split <;> assumption
theorem lexL_anti {α : Type} {S : α → Prop} {c : α → α → Int} (hc : Good S c) : ∀ a b : List α, (∀ x ∈ a, S x) → (∀ x ∈ b, S x) → lexL c b a = - lexL c a b
  | [], [], _, _ => rfl
  | [], _ :: _, _, _ => rfl
  | _ :: _, [], _, _ => rfl
  | x :: xs, y :: ys, ha, hb => by
    have ih := lexL_anti hc xs ys (fun z hz => ha z (by simp [hz])) (fun z hz => hb z (by simp [hz]))
    have h1 := hc.anti x y (ha x (by simp)) (hb y (by simp))
    simp only [lexL, or2]
    rw [h1, ih]
    split <;> split <;> omega
theorem lexL_zero {α : Type} {S : α → Prop} {c : α → α → Int} (hc : Good S c) : ∀ a b : List α, (∀ x ∈ a, S x) → (∀ x ∈ b, S x) → (lexL c a b = 0 ↔ a = b)
  | [], [], _, _ => by simp [lexL]
  | [], _ :: _, _, _ => by simp [lexL]
  | _ :: _, [], _, _ => by simp [lexL]
  | x :: xs, y :: ys, ha, hb => by
    have ih := lexL_zero hc xs ys (fun z hz => ha z (by simp [hz])) (fun z hz => hb z (by simp [hz]))
    have h1 := hc.zero x y (ha x (by simp)) (hb y (by simp))
    simp only [lexL, or2]
    rw [List.cons.injEq, ← h1, ← ih]
    split
    · next h => simp [h]
    · next h => simp [h]
theorem lexL_trans {α : Type} {S : α → Prop} {c : α → α → Int} (hc : Good S c) : ∀ a b d : List α, (∀ x ∈ a, S x) → (∀ x ∈ b, S x) → (∀ x ∈ d, S x) → lexL c a b ≤ 0 → lexL c b d ≤ 0 → lexL c a d ≤ 0
  | [], [], _, _, _, _, _, h => h
  | [], _ :: _, [], _, _, _, _, h => by simp [lexL] at h
  | [], _ :: _, _ :: _, _, _, _, _, _ => by simp [lexL]
  | _ :: _, [], _, _, _, _, h, _ => by simp [lexL] at h
  | _ :: _, _ :: _, [], _, _, _, _, h => by simp [lexL] at h
  | x :: xs, y :: ys, z :: zs, ha, hb, hd, k1, k2 => by
    have ih := lexL_trans hc xs ys zs (fun z hz => ha z (by simp [hz])) (fun z hz => hb z (by simp [hz])) (fun z hz => hd z (by simp [hz]))
    have sx := ha x (by simp)
    have sy := hb y (by simp)
    have sz := hd z (by simp)
    have t1 := hc.trans x y z sx sy sz
    have z1 := hc.zero x y sx sy
    have z2 := hc.zero y z sy sz
    have z3 := hc.zero x z sx sz
    have a1 := hc.anti y z sy sz
    simp only [lexL, or2] at k1 k2 ⊢
    by_cases e1 : c x y = 0
    · rw [if_pos e1] at k1
      have q1 := z1.1 e1
      by_cases e2 : c y z = 0
      · rw [if_pos e2] at k2
        rw [if_pos (z3.2 (q1.trans (z2.1 e2)))]
        exact ih k1 k2
      · rw [if_neg e2] at k2
        rw [q1, if_neg e2]
        exact k2
    · rw [if_neg e1] at k1
      by_cases e2 : c y z = 0
      · rw [← z2.1 e2, if_neg e1]
        exact k1
      · rw [if_neg e2] at k2
        have k3 := t1 k1 k2
        have e3 : c x z ≠ 0 := by
          intro h0
          rw [← z3.1 h0] at a1 k2
          omega
        rw [if_neg e3]
        exact k3
theorem lexL_small {α : Type} {S : α → Prop} {c : α → α → Int} (hc : Good S c) : ∀ a b : List α, (∀ x ∈ a, S x) → (∀ x ∈ b, S x) → -1 ≤ lexL c a b ∧ lexL c a b ≤ 1
  | [], [], _, _ => by simp [lexL]
  | [], _ :: _, _, _ => by simp [lexL]
  | _ :: _, [], _, _ => by simp [lexL]
  | x :: xs, y :: ys, ha, hb => by
    have ih := lexL_small hc xs ys (fun z hz => ha z (by simp [hz])) (fun z hz => hb z (by simp [hz]))
    have h1 := hc.small x y (ha x (by simp)) (hb y (by simp))
    simp only [lexL, or2]
    split <;> assumption
theorem Good.lexL {α : Type} {S : α → Prop} {c : α → α → Int} (hc : Good S c) : Good (fun l => ∀ x ∈ l, S x) (Pl.lexL c) :=
  ⟨lexL_anti hc, lexL_zero hc, lexL_trans hc, lexL_small hc⟩
theorem toList_inj {a b : ByteArray} (h : a.toList = b.toList) : a = b := by
  rw [ByteArray.toList_eq, ByteArray.toList_eq] at h
  obtain ⟨a⟩ := a
  obtain ⟨b⟩ := b
  congr 1
  exact Array.toList_inj.1 h
theorem good_cmpS : Good (fun _ => True) cmpS := by
  have g := good_cmpB.lexL
  exact ⟨fun a b _ _ => g.anti _ _ (fun _ _ => trivial) (fun _ _ => trivial),
    fun a b _ _ => (g.zero _ _ (fun _ _ => trivial) (fun _ _ => trivial)).trans ⟨toList_inj, fun h => by rw [h]⟩,
    fun a b d _ _ _ => g.trans _ _ _ (fun _ _ => trivial) (fun _ _ => trivial) (fun _ _ => trivial), fun a b _ _ => g.small _ _ (fun _ _ => trivial) (fun _ _ => trivial)⟩
end Go.Proofs.YtmphdmhpfghfkaaDoor.Pl
