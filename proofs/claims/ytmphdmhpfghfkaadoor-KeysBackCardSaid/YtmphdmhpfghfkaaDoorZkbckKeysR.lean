import Derived.Test.YtmphdmhpfghfkaaDoorZkbckKeysF
import Derived.Test.YtmphdmhpfghfkaaDoorZkbckFewL
import Derived.Test.YtmphdmhpfghfkaaDoorZkbckPKx0
import Derived.Test.YtmphdmhpfghfkaaDoorZkbckPKx6
set_option linter.unusedSimpArgs false
set_option linter.unusedVariables false
namespace Go.Proofs.YtmphdmhpfghfkaaDoor.Pl
open Go.RowKit Go.Proofs.YtmphdmhpfghfkaaDoorW.PrintWords Go.Proofs.YtmphdmhpfghfkaaDoorW.PrintMore Go.Proofs.YtmphdmhpfghfkaaDoor.PK
theorem awake4_ev : Ev (fun k => munimentlaw04_awake.f k) true := by
  unfold munimentlaw04_awake.f
  have hf : FineN 1 ⟨4, 0, ⟨#[97]⟩, [], []⟩ := ⟨show (Lit.int .i64 4).wf = true by decide, show (Lit.int .i64 0).wf = true by decide, by show (1 : Nat) ≤ maxLen; unfold maxLen; omega, Nat.zero_le _, fun _ h => by simp at h, Nat.zero_le _, fun _ h => by simp at h⟩
  have hfm : fm 6 ⟨4, 0, ⟨#[97]⟩, [], []⟩ = true := rfl
  have hk := Key_ev hf
  rw [if_pos hfm] at hk
  refine ev_bind hk (ev_pos rfl ?_)
  have e : keyV 6 ⟨4, 0, ⟨#[97]⟩, [], []⟩ = [5, 97, 0, 0] := by
    have : (⟨#[97]⟩ : ByteArray).toList = [97] := by rw [ByteArray.toList_eq]
    simp [keyV, tb, this, esc]
  rw [e]
  exact ev_pos rfl (ev_pos (by simp) (ev_some rfl))
end Go.Proofs.YtmphdmhpfghfkaaDoor.Pl
