import Derived.Test.YteblbippmllfkaaDoorZpgtsValueR
import Derived.Test.YteblbippmllfkaaDoorZpgtsCmp
set_option linter.unusedSimpArgs false
set_option linter.unusedVariables false
namespace Go.Proofs.YteblbippmllfkaaDoor.Pl
open Go.RowKit Go.Proofs.YteblbippmllfkaaDoorW.PrintWords Go.Proofs.YteblbippmllfkaaDoorW.PrintMore Go.Proofs.YteblbippmllfkaaDoor.PP
theorem fm_succ {n : Nat} {v : V} (h : fm (n + 1) v = true) : shallow v = true ∧ ∀ x ∈ v.f4, fm n x = true := by
  simp only [fm, Bool.and_eq_true, List.all_eq_true] at h
  exact h
theorem shallow_len {v : V} (h : shallow v = true) : v.f4.length ≤ 24 ∧ v.f3.length = if v.f0 = 6 then v.f4.length else 0 := by
  unfold shallow at h
  simp only [Bool.and_eq_true] at h
  obtain ⟨_, h⟩ := h
  split at h
  · simp only [Bool.and_eq_true, decide_eq_true_eq] at h
    rw [if_neg (by omega)]
    omega
  · simp only [Bool.and_eq_true, decide_eq_true_eq] at h
    exact ⟨h.1.1, h.1.2⟩
theorem toList_len (a : ByteArray) : a.toList.length = a.size := by rw [ByteArray.toList_eq, Array.length_toList]; rfl
theorem bt_get (a : ByteArray) (i : Nat) (h : i < a.size) : ∃ u : UInt8, a.toList[i]? = some u ∧ bt a (i : Int) = (u.toNat : Int) := by
  refine ⟨a[i]'h, ?_, ?_⟩
  · rw [ByteArray.toList_eq, Array.getElem?_toList]
    exact Array.getElem?_eq_getElem h
  · unfold bt
    simp only [Int.toNat_natCast]
    rw [dif_pos h]
theorem drop_get {α : Type} {l : List α} {i : Nat} {x : α} (h : l[i]? = some x) : l.drop i = x :: l.drop (i + 1) := by
  have hi := (List.getElem?_eq_some_iff.1 h).1
  rw [List.drop_eq_getElem_cons hi]
  rw [List.getElem?_eq_getElem hi] at h
  rw [Option.some.inj h]
end Go.Proofs.YteblbippmllfkaaDoor.Pl
