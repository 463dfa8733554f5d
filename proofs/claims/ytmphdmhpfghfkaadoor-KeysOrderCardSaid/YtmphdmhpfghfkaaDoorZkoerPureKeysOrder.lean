import Derived.Test.YtmphdmhpfghfkaaDoorZkoerKeysR
import Derived.Test.YtmphdmhpfghfkaaDoorZkoerKeysO
import Derived.Test.YtmphdmhpfghfkaaDoorZkoerPKx24
set_option linter.unusedSimpArgs false
set_option linter.unusedVariables false
namespace Go.Proofs.YtmphdmhpfghfkaaDoor.Pl
open Go.RowKit Go.Proofs.YtmphdmhpfghfkaaDoorW.PrintWords Go.Proofs.YtmphdmhpfghfkaaDoorW.PrintMore Go.Proofs.YtmphdmhpfghfkaaDoor.PK
theorem keysOrder_ev {n m : Nat} (v w : V) (hv : FineN n v) (hw : FineN m w) : Ev (fun k => munimentlaw04_KeysOrder.f k v.f0 v.f1 v.f2 v.f3 v.f4 w.f0 w.f1 w.f2 w.f3 w.f4) true := by
  obtain ⟨c, hc⟩ := fewL_ev (n := max n m) (l := [v, w]) (by simp [maxLen]) (by
    intro x hx
    simp only [List.mem_cons, List.not_mem_nil, or_false] at hx
    rcases hx with rfl | rfl
    · exact hv.mono (Nat.le_max_left _ _)
    · exact hw.mono (Nat.le_max_right _ _))
  have no : Ev (fun k => munimentlaw04_KeysOrder.j0 k true v.f0 v.f1 v.f2 v.f3 v.f4 w.f0 w.f1 w.f2 w.f3 w.f4) true := by
    refine ev_succ ?_
    simp only [munimentlaw04_KeysOrder.j0]
    exact ev_pos trivial (ev_bind awake4_ev (ev_some rfl))
  have hc' : Ev (fun k => munimentlaw04_few.f k (([(⟨v.f0, v.f1, v.f2, v.f3, v.f4⟩ : V), (⟨w.f0, w.f1, w.f2, w.f3, w.f4⟩ : V)] : List V))) c := by
    obtain ⟨v0, v1, v2, v3, v4⟩ := v
    obtain ⟨w0, w1, w2, w3, w4⟩ := w
    exact hc
  unfold munimentlaw04_KeysOrder.f
  refine ev_bind awake4_ev (ev_pos rfl (ev_bind hc' (ev_ite (fun _ => ?_) (fun _ => no))))
  refine ev_bind (Formed_ev hv) (ev_ite (fun fv => ?_) (fun _ => no))
  refine ev_bind (Formed_ev hw) ?_
  by_cases fw : fm 6 w = true
  · rw [fw]
    have nv := fine_fm hv fv
    have nw := fine_fm hw fw
    have kv := Key_ev hv
    have kw := Key_ev hw
    rw [if_pos fv] at kv
    rw [if_pos fw] at kw
    have co := Compare_ev hv hw
    unfold cmpF at co
    rw [if_pos ⟨fv, fw⟩] at co
    have lv := keyV_len 6 v fv
    have lw := keyV_len 6 w fw
    unfold bnd at lv lw
    have hlt := keyV_lt fv fw nv nw
    have hsm := keyV_inj fv fw nv nw
    have hfr := @keyV_free 6 v w fv fw nv nw
    refine ev_succ ?_
    simp only [munimentlaw04_KeysOrder.j0]
    refine ev_neg (by simp) (ev_bind kv (ev_bind kw (ev_bind co (ev_pos rfl (ev_pos rfl (ev_bind (bless_ev (keyV 6 v) (keyV 6 w) (by omega)) ?_))))))
    rw [hlt]
    refine ev_neg (by simp) (ev_bind (bsame_ev (keyV 6 v) (keyV 6 w) (by omega)) (ev_succ ?_))
    simp only [munimentlaw04_KeysOrder.j1]
    generalize keyV 6 v = a at *
    generalize keyV 6 w = b at *
    by_cases hz : cmpV 6 v w = 0
    · have e := hsm.2 hz
      exact ev_neg (by simp [e, hz]) (ev_pos hz (ev_some rfl))
    · have e : ¬ a = b := fun h => hz (hsm.1 h)
      have em : mn (a.length : Int) (b.length : Int) = ((min a.length b.length : Nat) : Int) := mn_nat _ _
      rw [em, Int.toNat_natCast]
      refine ev_neg (by simp [e, hz]) (ev_neg hz (ev_pos (by omega) (ev_pos (by omega) (ev_pos (by omega) (ev_bind (bsame_ev _ _ (by rw [List.length_take]; omega)) (ev_some ?_))))))
      have : ¬ a.take (min a.length b.length) = b.take (min a.length b.length) := by
        intro h
        refine hfr hz (s := b.drop (min a.length b.length)) (t := a.drop (min a.length b.length)) ?_
        by_cases hl : a.length ≤ b.length
        · have e1 : min a.length b.length = a.length := by omega
          rw [e1, List.take_length] at h
          rw [e1, List.drop_length, List.append_nil]
          have q := List.take_append_drop a.length b
          rw [← h] at q
          exact q
        · have e1 : min a.length b.length = b.length := by omega
          rw [e1, List.take_length] at h
          rw [e1, List.drop_length, List.append_nil]
          have q := List.take_append_drop b.length a
          rw [h] at q
          exact q.symm
      simp [this]
  · simp only [Bool.not_eq_true] at fw
    rw [fw]
    exact no
end Go.Proofs.YtmphdmhpfghfkaaDoor.Pl
