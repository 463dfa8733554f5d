import Derived.Test.YtmphdmhpfghfkaaDoorZkbckKeysD
import Derived.Test.YtmphdmhpfghfkaaDoorZkbckFewL
import Derived.Test.YtmphdmhpfghfkaaDoorZkbckKeysR
import Derived.Test.YtmphdmhpfghfkaaDoorZkbckSame
import Derived.Test.YtmphdmhpfghfkaaDoorZkbckPKx34
set_option linter.unusedSimpArgs false
set_option linter.unusedVariables false
namespace Go.Proofs.YtmphdmhpfghfkaaDoor.Pl
open Go.RowKit Go.Proofs.YtmphdmhpfghfkaaDoorW.PrintWords Go.Proofs.YtmphdmhpfghfkaaDoorW.PrintMore Go.Proofs.YtmphdmhpfghfkaaDoor.PK
theorem keysBack_ev {n : Nat} (v : V) (hv : FineN n v) (l1 : List Int) : Ev (fun k => munimentlaw04_KeysBack.f k v.f0 v.f1 v.f2 v.f3 v.f4 l1) true := by
  obtain ⟨v0, v1, v2, v3, v4⟩ := v
  obtain ⟨c, hc⟩ := fewL_ev (n := n) (l := [⟨v0, v1, v2, v3, v4⟩]) (by simp [maxLen]) (by simpa using hv)
  have out : Ev (fun k => munimentlaw04_KeysBack.j0 k l1 true v0 v1 v2 v3 v4) true := by
    refine ev_succ ?_
    simp only [munimentlaw04_KeysBack.j0]
    exact ev_pos trivial (ev_bind awake4_ev (ev_some rfl))
  unfold munimentlaw04_KeysBack.f
  refine ev_bind awake4_ev (ev_pos rfl (ev_bind hc (ev_ite (fun _ => ?_) (fun _ => out))))
  by_cases h : (l1.length : Int) > 1000
  · rw [decide_eq_true h]
    exact out
  rw [decide_eq_false h]
  have hk := Key_ev hv
  refine ev_succ ?_
  simp only [munimentlaw04_KeysBack.j0]
  refine ev_neg (by simp) (ev_bind hk ?_)
  by_cases hf : fm 6 (⟨v0, v1, v2, v3, v4⟩ : V) = true
  · have hlen := keyV_len 6 _ hf
    unfold bnd at hlen
    rw [if_pos hf]
    refine ev_pos rfl (ev_pos (by rw [List.length_nil]; show 0 + (keyV 6 _).length < _; omega) (ev_let (ev_pos (by rw [List.nil_append]; show (keyV 6 _).length + _ < _; omega) ?_)))
    rw [List.nil_append]
    have hr := read_ev hv hf l1 (by unfold Fit; rw [List.length_append]; omega)
    refine ev_bind hr (ev_pos rfl (ev_pos rfl ?_))
    obtain ⟨r, he, hi⟩ := same_ev n ⟨v0, v1, v2, v3, v4⟩ ⟨v0, v1, v2, v3, v4⟩ hv
    exact ev_bind he (ev_some (hi.2 rfl))
  · rw [if_neg hf]
    refine ev_neg (by decide) (ev_pos rfl (ev_bind (Formed_ev hv) (ev_some ?_)))
    simp [hf]
end Go.Proofs.YtmphdmhpfghfkaaDoor.Pl
