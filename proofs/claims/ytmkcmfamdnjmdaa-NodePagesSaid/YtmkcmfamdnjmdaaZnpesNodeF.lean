import Derived.Test.YtmkcmfamdnjmdaaZnpesBytesE
import Derived.Test.YtmkcmfamdnjmdaaZnpesBytesF
import Derived.Test.YtmkcmfamdnjmdaaZnpesNodeOpen
import Derived.Test.YtmkcmfamdnjmdaaZnpesPreZ
import Derived.Test.YtmkcmfamdnjmdaaZnpesPNx0
import Derived.Test.YtmkcmfamdnjmdaaZnpesPNx8
import Derived.Test.YtmkcmfamdnjmdaaZnpesPNx9
import Derived.Test.YtmkcmfamdnjmdaaZnpesPNx2
import Derived.Test.YtmkcmfamdnjmdaaZnpesPNx3
import Derived.Test.YtmkcmfamdnjmdaaZnpesPNx4
set_option linter.unusedSimpArgs false
set_option linter.unusedVariables false
set_option linter.unusedSectionVars false
namespace Go.Proofs.Ytmkcmfamdnjmdaa.Pl
open Go.RowKit Go.Proofs.YtmkcmfamdnjmdaaW.PrintWords Go.Proofs.YtmkcmfamdnjmdaaW.PrintMore Go.Proofs.Ytmkcmfamdnjmdaa.PN
theorem wrapN {n : Nat} (h : n + 1 ≤ maxLen) : wrap64 ((n : Int) + 1) = ((n + 1 : Nat) : Int) := by
  unfold maxLen at h
  rw [wrap64_id (by omega) (by omega)]
  omega
theorem rdL_get (l : List (List Int)) (i : Nat) (h : i < l.length) : rd_L1 l (i : Int) = l[i] := by
  unfold rd_L1
  rw [Int.toNat_natCast, List.getD_eq_getElem?_getD, List.getElem?_eq_getElem h]
  rfl
theorem rdL_mid (p r : List (List Int)) (x : List Int) : rd_L1 (p ++ x :: r) (p.length : Int) = x := by
  rw [rdL_get _ _ (by simp)]
  simp
/-- Rows of bytes. -/
def BB (l : List (List Int)) : Prop := ∀ x ∈ l, Bytes x
theorem bb_of {l : List (List Int)} (h : Op.Rows8 l) : BB l := fun x hx => bytes_of_wf (h.2 x hx).2
theorem cmp_lt {a b : List Int} (ha : Bytes a) (hb : Bytes b) : ∃ c, bytes_Compare.f a b = some c ∧ (c < 0 ↔ ltL a b = true) ∧ (c ≥ 0 ↔ ltL a b = false) := by
  refine ⟨_, rfl, ?_⟩
  rw [compareBytes_eq a b ha hb]
  by_cases h : ltL a b = true
  · simp [h]
  · simp only [Bool.not_eq_true] at h
    rw [h]
    simp only [if_false, Bool.false_eq_true]
    split <;> simp
section
variable (l : List (List Int)) (key : List Int) (a : Bool) (vs : List (List Int)) (ks : List Int) (hl : l.length ≤ maxLen) (hb : BB l) (hk : Bytes key) (hkl : key.length ≤ maxLen) (hm : ∀ x ∈ l, x.length ≤ maxLen)
include hl hb hk
omit hl hb hk in
include hkl hm
end
theorem nawake_ev : Ev (fun k => munimentlaw09_awake.f k) true := by
  have e0 : rd_L1 ([([1] : List Int)]) 0 = [1] := rfl
  have e1 : rd_L1 ([([2] : List Int)]) 0 = [2] := rfl
  have w1 : wrap64 (wrap64 (3 + (([1] : List Int).length : Int)) + (([2] : List Int).length : Int)) = 5 := by
    simp only [List.length_singleton]
    rw [wrap64_id (x := 3 + ((1 : Nat) : Int)) (by omega) (by omega), wrap64_id (by omega) (by omega)]
    rfl
  have w2 : wrap64 (3 + 5) = 8 := wrap64_id (by omega) (by omega)
  have w3 : wrap64 (0 + 1) = 1 := wrap64_id (by omega) (by omega)
  unfold munimentlaw09_awake.f node_Size.f
  refine ev_bind (b := 8) (ev_pos rfl (ev_succ ?_)) (ev_some rfl)
  simp only [node_Size.j0]
  refine ev_succ ?_
  simp only [node_Size.l0]
  refine ev_pos (by decide) (ev_bind0 (b := 5) ?_ (ev_succ ?_))
  · unfold node_entry.f
    rw [if_pos rfl, if_pos (by decide), if_pos (by decide), if_pos (by decide), e0, e1, w1]
  · simp only [node_Size.l0]
    rw [w2, w3]
    exact ev_neg (by decide) (ev_some rfl)
end Go.Proofs.Ytmkcmfamdnjmdaa.Pl
