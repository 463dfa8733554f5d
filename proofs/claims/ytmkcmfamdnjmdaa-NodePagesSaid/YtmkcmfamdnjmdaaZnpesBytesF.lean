import Derived.Test.YtmkcmfamdnjmdaaZnpesBig
import Derived.Test.YtmkcmfamdnjmdaaZnpesPNx19
import Derived.Test.YtmkcmfamdnjmdaaZnpesPNx8
import Derived.Test.YtmkcmfamdnjmdaaZnpesPNx9
set_option linter.unusedSimpArgs false
set_option linter.unusedVariables false
namespace Go.Proofs.Ytmkcmfamdnjmdaa.Pl
open Go.RowKit Go.Proofs.YtmkcmfamdnjmdaaW.PrintWords Go.Proofs.YtmkcmfamdnjmdaaW.PrintMore Go.Proofs.Ytmkcmfamdnjmdaa.PN
theorem bsame_loop : ∀ (ra rb p : List Int), ra.length = rb.length → (p ++ ra).length < 9223372036854775808 → Ev (fun k => munimentref04_Same.l0 k (p ++ ra) (p ++ rb) p.length) (decide (ra = rb))
  | [], rb, p, hl, _ => by
    obtain rfl : rb = [] := List.length_eq_zero_iff.1 hl.symm
    refine ev_succ ?_
    simp only [munimentref04_Same.l0]
    exact ev_neg (by simp) (ev_some (by simp))
  | x :: ra, [], p, hl, _ => by simp at hl
  | x :: ra, y :: rb, p, hl, hs => by
    have hl' : ra.length = rb.length := by simpa using hl
    have ih := bsame_loop ra rb (p ++ [x]) hl' (by simpa using hs)
    rw [List.length_append, List.length_cons] at hs
    refine ev_succ ?_
    simp only [munimentref04_Same.l0]
    refine ev_pos (by simp; omega) (ev_pos (by omega) (ev_pos (by simp; omega) ?_))
    rw [rd_mid, rd_mid, wrap64_id (by omega) (by omega)]
    by_cases e : x = y
    · subst e
      refine ev_pos rfl ?_
      simpa using ih
    · exact ev_neg e (ev_some (by simp [e]))
theorem bsame_ev (a b : List Int) (h : a.length < 9223372036854775808) : Ev (fun k => munimentref04_Same.f k a b) (decide (a = b)) := by
  unfold munimentref04_Same.f
  by_cases e : a.length = b.length
  · exact ev_pos (by omega) (bsame_loop a b [] e (by simpa using h))
  · exact ev_neg (by omega) (ev_some (by simp; rintro rfl; exact e rfl))
theorem bless_loop : ∀ (ra rb p : List Int), (p ++ ra).length < 9223372036854775808 → Ev (fun k => munimentref04_Less.l0 k (p ++ ra) (p ++ rb) p.length) (ltL ra rb)
  | [], rb, p, _ => by
    refine ev_succ ?_
    simp only [munimentref04_Less.l0]
    refine ev_neg (by simp) (ev_succ ?_)
    simp only [munimentref04_Less.j1]
    refine ev_neg (by simp) (ev_some ?_)
    cases rb <;> simp [ltL]
    omega
  | x :: ra, [], p, hs => by
    refine ev_succ ?_
    simp only [munimentref04_Less.l0]
    refine ev_pos (by simp; omega) (ev_succ ?_)
    simp only [munimentref04_Less.j1]
    refine ev_neg (by simp) (ev_some ?_)
    simp [ltL]
    omega
  | x :: ra, y :: rb, p, hs => by
    have ih := bless_loop ra rb (p ++ [x]) (by simpa using hs)
    rw [List.length_append, List.length_cons] at hs
    refine ev_succ ?_
    simp only [munimentref04_Less.l0]
    refine ev_pos (by simp; omega) (ev_succ ?_)
    simp only [munimentref04_Less.j1]
    refine ev_pos (by simp; omega) (ev_pos (by omega) (ev_pos (by simp; omega) (ev_pos (by simp; omega) ?_)))
    rw [rd_mid, rd_mid, wrap64_id (by omega) (by omega)]
    by_cases e : x = y
    · subst e
      refine ev_pos rfl ?_
      simpa [ltL] using ih
    · exact ev_neg e (ev_some (by simp [ltL, e]))
theorem bless_ev (a b : List Int) (h : a.length < 9223372036854775808) : Ev (fun k => munimentref04_Less.f k a b) (ltL a b) := by
  unfold munimentref04_Less.f
  exact bless_loop a b [] (by simpa using h)
theorem big_loop : ∀ (j : Nat) (y : Int) (tl : List Int), 0 ≤ y → y < 18446744073709551616 → j ≤ 8 → Ev (fun k => munimentref04_Big.l0 k y (List.replicate j 0 ++ tl) ((j : Int) - 1)) (bt y j ++ tl)
  | 0, y, tl, _, _, _ => by
    refine ev_succ ?_
    simp only [munimentref04_Big.l0]
    exact ev_neg (by omega) (ev_some (by simp [bt]))
  | j + 1, y, tl, h0, h1, hj => by
    have ih := big_loop j (y / 256) (y % 256 :: tl) (by omega) (by omega) (by omega)
    refine ev_succ ?_
    simp only [munimentref04_Big.l0]
    have e1 : ((j + 1 : Nat) : Int) - 1 = (j : Int) := by omega
    have e2 : IntKind.u64.wrap (Int.tdiv y 256) = y / 256 := by
      rw [Int.tdiv_eq_ediv_of_nonneg h0]; exact wrapU64_id (by omega) (by omega)
    have e3 : Int.tmod y 256 % 256 = y % 256 := by
      rw [Int.tmod_eq_emod_of_nonneg h0]; omega
    have e4 : wrap64 ((j : Int) - 1) = (j : Int) - 1 := wrap64_id (by omega) (by omega)
    have e5 : (List.replicate (j + 1) (0 : Int) ++ tl).set j (y % 256) = List.replicate j 0 ++ y % 256 :: tl := by
      rw [List.replicate_succ', List.append_assoc, List.set_append_right _ _ (by simp)]
      simp
    rw [e1, e2, e3, e4, Int.toNat_natCast, e5]
    refine ev_pos (by omega) (ev_pos (by omega) (ev_pos (by simp; omega) ?_))
    rw [bt_snoc, List.append_assoc]
    exact ih
theorem big_ev (x : Int) (h0 : 0 ≤ x) (h1 : x < 18446744073709551616) : Ev (fun k => munimentref04_Big.f k x) (b8 x) := by
  unfold munimentref04_Big.f
  refine ev_pos (by omega) ?_
  have := big_loop 8 x [] h0 h1 (by omega)
  rw [bt_8] at this
  simpa using this
end Go.Proofs.Ytmkcmfamdnjmdaa.Pl
