import Derived.Test.YtmkcmfamdnjmdaaZnfdsPlain
import Derived.Laws.BitsAllLaws
import Derived.Test.YtmkcmfamdnjmdaaZnfdsWMore
import Derived.Test.YtmkcmfamdnjmdaaZnfdsPNx0
import Derived.Test.YtmkcmfamdnjmdaaZnfdsPNx9
import Derived.Test.YtmkcmfamdnjmdaaZnfdsPNx8
set_option linter.unusedSimpArgs false
set_option linter.unusedVariables false
namespace Go.Proofs.Ytmkcmfamdnjmdaa.Pl
open Go.RowKit Go.Proofs.YtmkcmfamdnjmdaaW.PrintWords Go.Proofs.YtmkcmfamdnjmdaaW.PrintMore Go.Proofs.Ytmkcmfamdnjmdaa.PN
theorem bsame_loop : ∀ (ra rb p : List Int), ra.length = rb.length → (p ++ ra).length < 9223372036854775808 → Ev (fun k => munimentref04_Same.l0 k (p ++ ra) (p ++ rb) p.length) (decide (ra = rb))
  | [], rb, p, hl, _ => by
    obtain rfl : rb = [] := List.length_eq_zero_iff.1 hl.symm
    refine ev_succ ?_
    simp only [munimentref04_Same.l0]
    exact ev_neg (by simp) (ev_some (by simp))
  | x :: ra, [], p, hl, _ => by simp at hl
  | x :: ra, y :: rb, p, hl, hs => by
    have hl' : ra.length = rb.length := by simpa using hl
    have ih := bsame_loop ra rb (p ++ [x]) hl' (by simpa using hs)
    rw [List.length_append, List.length_cons] at hs
    refine ev_succ ?_
    simp only [munimentref04_Same.l0]
    refine ev_pos (by simp; omega) (ev_pos (by omega) (ev_pos (by simp; omega) ?_))
    rw [rd_mid, rd_mid, wrap64_id (by omega) (by omega)]
    by_cases e : x = y
    · subst e
      refine ev_pos rfl ?_
      simpa using ih
    · exact ev_neg e (ev_some (by simp [e]))
theorem bsame_ev (a b : List Int) (h : a.length < 9223372036854775808) : Ev (fun k => munimentref04_Same.f k a b) (decide (a = b)) := by
  unfold munimentref04_Same.f
  by_cases e : a.length = b.length
  · exact ev_pos (by omega) (bsame_loop a b [] e (by simpa using h))
  · exact ev_neg (by omega) (ev_some (by simp; rintro rfl; exact e rfl))
theorem bless_loop : ∀ (ra rb p : List Int), (p ++ ra).length < 9223372036854775808 → Ev (fun k => munimentref04_Less.l0 k (p ++ ra) (p ++ rb) p.length) (ltL ra rb)
  | [], rb, p, _ => by
    refine ev_succ ?_
    simp only [munimentref04_Less.l0]
    refine ev_neg (by simp) (ev_succ ?_)
    simp only [munimentref04_Less.j1]
    refine ev_neg (by simp) (ev_some ?_)
    cases rb <;> simp [ltL]
    omega
  | x :: ra, [], p, hs => by
    refine ev_succ ?_
    simp only [munimentref04_Less.l0]
    refine ev_pos (by simp; omega) (ev_succ ?_)
    simp only [munimentref04_Less.j1]
    refine ev_neg (by simp) (ev_some ?_)
    simp [ltL]
    omega
  | x :: ra, y :: rb, p, hs => by
    have ih := bless_loop ra rb (p ++ [x]) (by simpa using hs)
    rw [List.length_append, List.length_cons] at hs
    refine ev_succ ?_
    simp only [munimentref04_Less.l0]
    refine ev_pos (by simp; omega) (ev_succ ?_)
    simp only [munimentref04_Less.j1]
    refine ev_pos (by simp; omega) (ev_pos (by omega) (ev_pos (by simp; omega) (ev_pos (by simp; omega) ?_)))
    rw [rd_mid, rd_mid, wrap64_id (by omega) (by omega)]
    by_cases e : x = y
    · subst e
      refine ev_pos rfl ?_
      simpa [ltL] using ih
    · exact ev_neg e (ev_some (by simp [ltL, e]))
theorem bless_ev (a b : List Int) (h : a.length < 9223372036854775808) : Ev (fun k => munimentref04_Less.f k a b) (ltL a b) := by
  unfold munimentref04_Less.f
  exact bless_loop a b [] (by simpa using h)
end Go.Proofs.Ytmkcmfamdnjmdaa.Pl
