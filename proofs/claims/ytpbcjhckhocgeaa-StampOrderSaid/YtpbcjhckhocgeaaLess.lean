/- The reference's Less answers the order byte by byte. -/
import Derived.Test.YtpbcjhckhocgeaaPlain
import Derived.Test.YtpbcjhckhocgeaaPSx10
set_option linter.unusedSimpArgs false
set_option linter.unusedVariables false
namespace Go.Proofs.Ytpbcjhckhocgeaa.Pl
open Go.RowKit Go.Proofs.YtpbcjhckhocgeaaW.PrintWords Go.Proofs.YtpbcjhckhocgeaaW.PrintMore Go.Proofs.Ytpbcjhckhocgeaa.PS

theorem less_loop : ∀ (ra rb p : List Int), (p ++ ra).length < 4611686018427387904 → Ev (fun k => munimentref04_Less.l0 k (p ++ ra) (p ++ rb) p.length) (ltL ra rb)
  | [], rb, p, _ => by
    refine ev_succ ?_
    simp only [munimentref04_Less.l0]
    refine ev_neg (by simp) (ev_succ ?_)
    simp only [munimentref04_Less.j1]
    refine ev_neg (by simp) (ev_some ?_)
    cases rb <;> simp [ltL]
    omega
  | x :: ra, [], p, hs => by
    refine ev_succ ?_
    simp only [munimentref04_Less.l0]
    refine ev_pos (by simp; omega) (ev_succ ?_)
    simp only [munimentref04_Less.j1]
    refine ev_neg (by simp) (ev_some ?_)
    simp [ltL]
    omega
  | x :: ra, y :: rb, p, hs => by
    have ih := less_loop ra rb (p ++ [x]) (by simpa using hs)
    rw [List.length_append, List.length_cons] at hs
    refine ev_succ ?_
    simp only [munimentref04_Less.l0]
    refine ev_pos (by simp; omega) (ev_succ ?_)
    simp only [munimentref04_Less.j1]
    refine ev_pos (by simp; omega) (ev_pos (by omega) (ev_pos (by simp; omega) (ev_pos (by simp; omega) ?_)))
    rw [rd_mid, rd_mid, wrap64_id (by omega) (by omega)]
    by_cases e : x = y
    · subst e
      refine ev_pos rfl ?_
      simpa [ltL] using ih
    · exact ev_neg e (ev_some (by simp [ltL, e]))
theorem less_ev (a b : List Int) (h : a.length < 4611686018427387904) : Ev (fun k => munimentref04_Less.f k a b) (ltL a b) := by
  unfold munimentref04_Less.f
  exact less_loop a b [] (by simpa using h)
end Go.Proofs.Ytpbcjhckhocgeaa.Pl
