import Derived.Test.YtmkcmfamdnjmdaaZnfdsEv
set_option linter.unusedSimpArgs false
set_option linter.unusedVariables false
namespace Go.Proofs.Ytmkcmfamdnjmdaa.Pl
/-- Byte by byte. -/
def ltL : List Int → List Int → Bool
  | [], [] => false
  | [], _ :: _ => true
  | _ :: _, [] => false
  | a :: x, b :: y => if a = b then ltL x y else decide (a < b)
theorem ltL_irrefl : ∀ a, ltL a a = false
  | [] => rfl
  | a :: x => by simp [ltL, ltL_irrefl x]
theorem ltL_total : ∀ a b, ltL a b = false → ltL b a = false → a = b
  | [], [], _, _ => rfl
  | [], _ :: _, h, _ => by simp [ltL] at h
  | _ :: _, [], _, h => by simp [ltL] at h
  | a :: x, b :: y, h, h' => by
    unfold ltL at h h'
    by_cases e : a = b
    · subst e
      simp only [if_true] at h h'
      rw [ltL_total x y h h']
    · rw [if_neg e] at h
      rw [if_neg (Ne.symm e)] at h'
      simp only [decide_eq_false_iff_not] at h h'
      omega
end Go.Proofs.Ytmkcmfamdnjmdaa.Pl
