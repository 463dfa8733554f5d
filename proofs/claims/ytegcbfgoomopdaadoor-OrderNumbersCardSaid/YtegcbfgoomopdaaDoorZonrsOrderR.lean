import Derived.Test.YtegcbfgoomopdaaDoorZonrsOrder
import Derived.Test.YtegcbfgoomopdaaDoorZonrsPOx0
import Derived.Test.YtegcbfgoomopdaaDoorZonrsPOx7
set_option linter.unusedSimpArgs false
set_option linter.unusedVariables false
namespace Go.Proofs.YtegcbfgoomopdaaDoor.Pl
open Go.RowKit Go.Proofs.YtegcbfgoomopdaaDoorW.PrintWords Go.Proofs.YtegcbfgoomopdaaDoorW.PrintMore Go.Proofs.YtegcbfgoomopdaaDoor.PO
theorem fm_leaf (i x : Int) (h0 : 0 ≤ i) (h5 : i < 5) (h3 : i = 3 ∨ x = 0) (n : Nat) : fm (n + 1) ⟨i, x, ⟨#[]⟩, [], []⟩ = true := by
  have e : textB ⟨#[]⟩ = true := by
    unfold textB
    rfl
  have e2 : (⟨#[]⟩ : ByteArray).toList = [] := by rw [ByteArray.toList_eq]
  have e3 : (decide (i = 3) || decide (x = 0)) = true := by simpa using h3
  simp only [fm, shallow, e, e2, e3, List.all_nil, Bool.and_true]
  simp [h5]
  omega
theorem fine_leaf (i x : Int) (hi : (Lit.int .i64 i).wf = true) (hx : (Lit.int .i64 x).wf = true) : FineN 1 ⟨i, x, ⟨#[]⟩, [], []⟩ :=
  ⟨hi, hx, Nat.zero_le _, Nat.zero_le _, fun _ h => by simp at h, Nat.zero_le _, fun _ h => by simp at h⟩
theorem awake3_ev : Ev (fun k => munimentlaw03_awake.f k) true := by
  unfold munimentlaw03_awake.f
  have f2 := fine_leaf 2 0 (by decide) (by decide)
  have f3 := fine_leaf 3 0 (by decide) (by decide)
  refine ev_bind (Compare_ev f2 f3) (ev_some ?_)
  unfold cmpF
  rw [if_pos ⟨fm_leaf 2 0 (by omega) (by omega) (by omega) 5, fm_leaf 3 0 (by omega) (by omega) (by omega) 5⟩]
  rfl
end Go.Proofs.YtegcbfgoomopdaaDoor.Pl
