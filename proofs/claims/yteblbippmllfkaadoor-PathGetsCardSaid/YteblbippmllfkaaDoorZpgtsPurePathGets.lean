import Derived.Test.YteblbippmllfkaaDoorZpgtsPathF
import Derived.Test.YteblbippmllfkaaDoorZpgtsSame
import Derived.Test.YteblbippmllfkaaDoorZpgtsPPx23
set_option linter.unusedSimpArgs false
set_option linter.unusedVariables false
namespace Go.Proofs.YteblbippmllfkaaDoor.Pl
open Go.RowKit Go.Proofs.YteblbippmllfkaaDoorW.PrintWords Go.Proofs.YteblbippmllfkaaDoorW.PrintMore Go.Proofs.YteblbippmllfkaaDoor.PP
theorem zero_fine : FineN 1 (⟨0, 0, ⟨#[]⟩, [], []⟩ : V) := ⟨by decide, by decide, Nat.zero_le _, Nat.zero_le _, fun _ h => by simp at h, Nat.zero_le _, fun _ h => by simp at h⟩
theorem getG_fine : ∀ (l : List ByteArray) (n : Nat) (v x : V), fm n v = true → FineN n v → getG v l = some x → ∃ m, fm m x = true ∧ FineN m x
  | [], n, v, x, h, hf, e => by
    unfold getG at e
    injection e with e
    subst e
    exact ⟨n, h, hf⟩
  | s :: r, n, v, x, h, hf, e => by
    obtain ⟨n, rfl⟩ : ∃ m, n = m + 1 := ⟨n - 1, by cases n with | zero => simp [fm] at h | succ n => rfl⟩
    unfold getG at e
    by_cases c : placeV v s < 0
    · rw [if_pos c] at e
      exact absurd e (by simp)
    · rw [if_neg c] at e
      have hp : 0 ≤ placeV v s ∧ placeV v s < v.f4.length := by
        rcases place_range (fm_succ h).1 s with q | q
        · omega
        · exact q
      have hm := rdV_mem hp.1 hp.2
      exact getG_fine r n _ x ((fm_succ h).2 _ hm) (hf.2.2.2.2.2.2 _ hm) e
theorem getP_fine {m : Nat} {v x : V} {s : ByteArray} (hv : FineN m v) (e : getP v s = some x) : ∃ m, fm m x = true ∧ FineN m x := by
  unfold getP at e
  split at e
  · next h => exact getG_fine _ 6 v x h.2 (fine_fm hv h.2) e
  · exact absurd e (by simp)
theorem same_self {m : Nat} {x : V} (h : FineN m x) : Ev (fun k => munimentref01_Same.f k x.f0 x.f1 x.f2 x.f3 x.f4 x.f0 x.f1 x.f2 x.f3 x.f4) true := by
  obtain ⟨r, hr, e⟩ := same_ev m x x h
  rw [e.2 rfl] at hr
  exact hr
theorem pathGets_ev {m : Nat} (v : V) (hv : FineN m v) (s : ByteArray) : Ev (fun k => munimentlaw02_PathGets.f k v.f0 v.f1 v.f2 v.f3 v.f4 s) true := by
  have no : Ev (fun k => munimentlaw02_PathGets.j0 k s true v.f0 v.f1 v.f2 v.f3 v.f4) true := by
    refine ev_succ ?_
    simp only [munimentlaw02_PathGets.j0]
    exact ev_pos trivial (ev_bind awake_ev (ev_some rfl))
  obtain ⟨c, hc⟩ := few_ev m v hv
  unfold munimentlaw02_PathGets.f
  refine ev_bind awake_ev (ev_pos rfl (ev_bind hc (ev_ite (fun _ => ?_) (fun _ => no))))
  by_cases h : (s.size : Int) > 2000
  · rw [show decide ((s.size : Int) > 2000) = true by simpa using h]
    exact no
  · rw [show decide ((s.size : Int) > 2000) = false by simpa using h]
    refine ev_succ ?_
    simp only [munimentlaw02_PathGets.j0]
    refine ev_neg (by simp) (ev_bind (Get_ev v hv s (by omega)) (ev_bind (RGet_ev v hv s (by omega)) (ev_pos (by simp) ?_)))
    cases e : getP v s with
    | none => exact ev_bind (same_self zero_fine) (ev_some rfl)
    | some x =>
      obtain ⟨m', _, hx⟩ := getP_fine hv e
      exact ev_bind (same_self hx) (ev_some rfl)
end Go.Proofs.YteblbippmllfkaaDoor.Pl
