import Derived.Test.YtmphdmhpfghfkaaDoorZkwteKeysR
import Derived.Test.YtmphdmhpfghfkaaDoorZkwtePKx17
set_option linter.unusedSimpArgs false
set_option linter.unusedVariables false
namespace Go.Proofs.YtmphdmhpfghfkaaDoor.Pl
open Go.RowKit Go.Proofs.YtmphdmhpfghfkaaDoorW.PrintWords Go.Proofs.YtmphdmhpfghfkaaDoorW.PrintMore Go.Proofs.YtmphdmhpfghfkaaDoor.PK
theorem keysWrite_ev {n : Nat} (v : V) (hv : FineN n v) : Ev (fun k => munimentlaw04_KeysWrite.f k v.f0 v.f1 v.f2 v.f3 v.f4) true := by
  obtain ⟨v0, v1, v2, v3, v4⟩ := v
  obtain ⟨c, hc⟩ := fewL_ev (n := n) (l := [⟨v0, v1, v2, v3, v4⟩]) (by simp [maxLen]) (by simpa using hv)
  unfold munimentlaw04_KeysWrite.f
  refine ev_bind awake4_ev (ev_pos rfl (ev_bind hc (ev_succ ?_)))
  simp only [munimentlaw04_KeysWrite.j0]
  refine ev_ite (fun _ => ev_bind awake4_ev (ev_some rfl)) (fun _ => ev_bind (Key_ev hv) (ev_bind (RKey_ev hv) (ev_pos rfl ?_)))
  have hl : (if fm 6 (⟨v0, v1, v2, v3, v4⟩ : V) = true then (keyV 6 ⟨v0, v1, v2, v3, v4⟩, (0 : Int)) else ([], 2)).1.length < 4611686018427387904 := by
    split
    · next h => have := keyV_len 6 _ h
                unfold bnd at this
                show (keyV 6 _).length < _
                omega
    · exact Nat.zero_lt_of_lt (by decide : 0 < 4611686018427387904)
  exact ev_bind (bsame_ev _ _ hl) (ev_some (by simp))
end Go.Proofs.YtmphdmhpfghfkaaDoor.Pl
