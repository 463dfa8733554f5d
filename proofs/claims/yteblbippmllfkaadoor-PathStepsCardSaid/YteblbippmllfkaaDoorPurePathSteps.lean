/- The plain law of PathSteps. -/
import Derived.Test.YteblbippmllfkaaDoorPureSteps
import Derived.Test.YteblbippmllfkaaDoorPPx5
set_option linter.unusedSimpArgs false
set_option linter.unusedVariables false
namespace Go.Proofs.YteblbippmllfkaaDoor.Pl
open Go.RowKit Go.Proofs.YteblbippmllfkaaDoorW.PrintWords Go.Proofs.YteblbippmllfkaaDoorW.PrintMore Go.Proofs.YteblbippmllfkaaDoor.PP

theorem lists_loop (a : List ByteArray) (ha : a.length < 1000000) : ∀ (m i : Nat), i + m = a.length → Ev (fun k => munimentlaw02_PathSteps.l0 k a a (i : Int)) true := by
  intro m
  induction m with
  | zero =>
    intro i hi
    refine ev_succ ?_
    simp only [munimentlaw02_PathSteps.l0]
    exact ev_neg (by omega) (ev_some rfl)
  | succ m ih =>
    intro i hi
    refine ev_succ ?_
    simp only [munimentlaw02_PathSteps.l0]
    refine ev_pos (by omega) (ev_pos (by omega) (ev_pos (by omega) (ev_pos (by trivial) ?_)))
    rw [wrap64_id (by omega) (by omega)]
    exact ih (i + 1) (by omega)
theorem stepsG_length (s : ByteArray) : ∀ (n : Nat) (acc : List ByteArray) (f i : Nat), acc.length ≤ 4 → (stepsG s n acc f i).1.length ≤ 4 := by
  intro n
  induction n with
  | zero => intro acc f i h; exact h
  | succ n ih =>
    intro acc f i h
    unfold stepsG
    split
    · exact ih acc f _ h
    · split
      · simp
      · rename_i h2
        exact ih _ _ _ (by simp; omega)
theorem steps_length (s : ByteArray) : (steps s).1.length ≤ 4 := stepsG_length s _ [] 0 0 (by simp)
theorem pathSteps_ev (s : ByteArray) : Ev (fun k => munimentlaw02_PathSteps.f k s) true := by
  unfold munimentlaw02_PathSteps.f
  refine ev_bind awake_ev (ev_pos rfl (ev_succ ?_))
  simp only [munimentlaw02_PathSteps.j0]
  refine ev_ite (fun _ => ev_bind awake_ev (ev_some rfl)) (fun c => ?_)
  have hs : s.size ≤ 2000 := by simp at c; omega
  refine ev_bind (steps_ev s (by omega)) (ev_bind (rsteps_ev s (by omega)) (ev_pos rfl (ev_succ ?_)))
  simp only [munimentlaw02_PathSteps.j1]
  refine ev_neg (by simp) ?_
  exact lists_loop _ (by have := steps_length s; omega) _ 0 (Nat.zero_add _)
end Go.Proofs.YteblbippmllfkaaDoor.Pl
