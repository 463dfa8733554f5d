/- The plain law of StampSpans: a key's bytes lie from First to Behind just where its space and name are those. -/
import Derived.Test.YtpbcjhckhocgeaaPureStampWrites
import Derived.Test.YtpbcjhckhocgeaaLess
import Derived.Test.YtpbcjhckhocgeaaPSx11
set_option linter.unusedSimpArgs false
set_option linter.unusedVariables false
namespace Go.Proofs.Ytpbcjhckhocgeaa.Pl
open Go.RowKit Go.Proofs.YtpbcjhckhocgeaaW.PrintWords Go.Proofs.YtpbcjhckhocgeaaW.PrintMore Go.Proofs.Ytpbcjhckhocgeaa.PS

/-- A place's front, or nothing where there is none. -/
def span (s : Int) (n : List Int) (m : Int) : List Int := if s < 0 ∨ s > 255 then [] else if n.length > 200 then [] else front s n m
theorem span_length (s : Int) (n : List Int) (m : Int) : (span s n m).length < 1000000 := by
  unfold span
  split
  · simp
  · split
    · simp
    · have := esc_length n
      rw [front_length]
      omega
theorem first_ev (s : Int) (n : List Int) : Ev (fun k => stamp_First.f k s n) (span s n 0) := by
  unfold stamp_First.f
  refine ev_bind (wrong_ev s n) ?_
  unfold span
  by_cases c : s < 0 ∨ s > 255
  · rw [if_pos c, if_pos c]
    exact ev_neg (by decide) (ev_some rfl)
  · rw [if_neg c, if_neg c]
    by_cases c2 : n.length > 200
    · rw [if_pos c2, if_pos c2]
      exact ev_neg (by decide) (ev_some rfl)
    · rw [if_neg c2, if_neg c2]
      exact ev_pos rfl (ev_bind (front_ev s n 0 (by omega)) (ev_some rfl))
theorem behind_ev (s : Int) (n : List Int) : Ev (fun k => stamp_Behind.f k s n) (span s n 1) := by
  unfold stamp_Behind.f
  refine ev_bind (wrong_ev s n) ?_
  unfold span
  by_cases c : s < 0 ∨ s > 255
  · rw [if_pos c, if_pos c]
    exact ev_neg (by decide) (ev_some rfl)
  · rw [if_neg c, if_neg c]
    by_cases c2 : n.length > 200
    · rw [if_pos c2, if_pos c2]
      exact ev_neg (by decide) (ev_some rfl)
    · rw [if_neg c2, if_neg c2]
      exact ev_pos rfl (ev_bind (front_ev s n 1 (by omega)) (ev_some rfl))
theorem rfirst_ev (s : Int) (n : List Int) : Ev (fun k => munimentref05_First.f k s n) (span s n 0) := by
  unfold munimentref05_First.f
  refine ev_bind (rwrite_ev s n 0 (by omega) (by omega)) ?_
  unfold span wr
  by_cases c : s < 0 ∨ s > 255
  · rw [if_pos c, if_pos c]
    exact ev_neg (by decide) (ev_some rfl)
  · rw [if_neg c, if_neg c]
    by_cases c2 : n.length > 200
    · rw [if_pos c2, if_pos c2]
      exact ev_neg (by decide) (ev_some rfl)
    · rw [if_neg c2, if_neg c2]
      exact ev_pos rfl (ev_bind (rfront_ev s n 0 (by omega)) (ev_some rfl))
theorem rbehind_ev (s : Int) (n : List Int) : Ev (fun k => munimentref05_Behind.f k s n) (span s n 1) := by
  unfold munimentref05_Behind.f
  refine ev_bind (rwrite_ev s n 0 (by omega) (by omega)) ?_
  unfold span wr
  by_cases c : s < 0 ∨ s > 255
  · rw [if_pos c, if_pos c]
    exact ev_neg (by decide) (ev_some rfl)
  · rw [if_neg c, if_neg c]
    by_cases c2 : n.length > 200
    · rw [if_pos c2, if_pos c2]
      exact ev_neg (by decide) (ev_some rfl)
    · rw [if_neg c2, if_neg c2]
      exact ev_pos rfl (ev_bind (rfront_ev s n 1 (by omega)) (ev_some rfl))

/-- Where a key's bytes stand to a front, by space, name, and what is behind. -/
theorem lt_fronts {s s' : Int} {n n' : List Int} {p q : Int} {x y : List Int} (hs : 0 ≤ s ∧ s ≤ 255) (hs' : 0 ≤ s' ∧ s' ≤ 255) (hn : Bytes n) (hn' : Bytes n') (hp : 0 ≤ p ∧ p < 255) (hq : 0 ≤ q ∧ q < 255) :
    ltL (front s n p ++ x) (front s' n' q ++ y) = if s = s' then (if n = n' then ltL (p :: x) (q :: y) else ltL n n') else decide (s < s') := by
  have e : ∀ (s : Int) (n : List Int) (p : Int) (x : List Int), 0 ≤ s ∧ s ≤ 255 → front s n p ++ x = s :: (esc n ++ 0 :: p :: x) := by
    intro s n p x h
    unfold front
    rw [show s % 256 = s by omega]
    simp
  rw [e s n p x hs, e s' n' q y hs']
  by_cases c : s = s'
  · subst c
    rw [if_pos rfl]
    show (if s = s then _ else _) = _
    rw [if_pos rfl, ltL_esc p q x y hp hq n n' hn hn']
  · rw [if_neg c]
    show (if s = s' then _ else _) = _
    rw [if_neg c]

theorem stampSpans_ev (s : Int) (n : List Int) (s' : Int) (n' : List Int) (t : Int) (hn : Bytes n) (hn' : Bytes n') (h0 : 0 ≤ t) (h1 : t < 18446744073709551616) :
    Ev (fun k => munimentlaw05_StampSpans.f k s n s' n' t) true := by
  have hj2 : ∀ b : Bool, (wr s' n' t).2 = 0 → (b = true ∨ (span s n 0).length ≠ 0) → n.length < 4611686018427387904 → n'.length < 4611686018427387904 →
      Ev (fun k => munimentlaw05_StampSpans.j2 k s n (span s n 0) (span s n 1) (wr s' n' t).1 b s' n' t) true := by
    intro b hw hb hln hln'
    refine ev_succ ?_
    simp only [munimentlaw05_StampSpans.j2]
    refine ev_ite (fun _ => ev_some rfl) (fun hbf => ?_)
    have hlen : (span s n 0).length ≠ 0 := by
      rcases hb with hb | hb
      · exact absurd hb hbf
      · exact hb
    have hw1 : ¬ (s' < 0 ∨ s' > 255) := by
      intro c
      rw [wr, if_pos c] at hw
      exact absurd hw (by decide)
    have hw2 : ¬ n'.length > 200 := by
      intro c
      rw [wr, if_neg hw1, if_pos c] at hw
      exact absurd hw (by decide)
    have hs1 : ¬ (s < 0 ∨ s > 255) := by
      intro c
      rw [span, if_pos c] at hlen
      exact hlen rfl
    have hs2 : ¬ n.length > 200 := by
      intro c
      rw [span, if_neg hs1, if_pos c] at hlen
      exact hlen rfl
    have ew : (wr s' n' t).1 = front s' n' 0 ++ b8 (18446744073709551615 - t) := by rw [wr, if_neg hw1, if_neg hw2]
    have ea : span s n 0 = front s n 0 ++ [] := by rw [span, if_neg hs1, if_neg hs2, List.append_nil]
    have eb : span s n 1 = front s n 1 ++ [] := by rw [span, if_neg hs1, if_neg hs2, List.append_nil]
    have k1 : ltL (wr s' n' t).1 (span s n 0) = if s' = s then (if n' = n then false else ltL n' n) else decide (s' < s) := by
      rw [ew, ea, lt_fronts (by omega) (by omega) hn' hn (by omega) (by omega)]
      rfl
    have k2 : ltL (wr s' n' t).1 (span s n 1) = if s' = s then (if n' = n then true else ltL n' n) else decide (s' < s) := by
      rw [ew, eb, lt_fronts (by omega) (by omega) hn' hn (by omega) (by omega)]
      rfl
    refine ev_bind (less_ev _ _ (by have := wr_length s' n' t; omega)) ?_
    refine ev_ite (fun hx => ?_) (fun hx => ?_)
    · refine ev_ite (fun hss => ?_) (fun hss => ev_some rfl)
      refine ev_bind (same_ev _ _ (by omega)) (ev_some ?_)
      rw [k1, if_pos hss] at hx
      by_cases e : n' = n
      · rw [if_pos e] at hx; exact absurd hx (by decide)
      · simp [e]
    · refine ev_bind (less_ev _ _ (by have := wr_length s' n' t; omega)) ?_
      refine ev_ite (fun hss => ?_) (fun hss => ev_some ?_)
      · refine ev_bind (same_ev _ _ (by omega)) (ev_some ?_)
        rw [k1, if_pos hss] at hx
        rw [k2, if_pos hss]
        by_cases e : n' = n
        · simp [e]
        · rw [if_neg e] at hx ⊢
          simp only [Bool.not_eq_true] at hx
          simp [e, hx]
      · rw [k1, if_neg hss] at hx
        rw [k2, if_neg hss]
        simp only [Bool.not_eq_true] at hx
        rw [hx]
        rfl
  have hj : ∀ b : Bool, (b = true ∨ (n.length ≤ 1000 ∧ n'.length ≤ 1000)) → Ev (fun k => munimentlaw05_StampSpans.j0 k s n b s' n' t) true := by
    intro b hb
    refine ev_succ ?_
    simp only [munimentlaw05_StampSpans.j0]
    refine ev_ite (fun _ => ev_bind awake_ev (ev_some rfl)) (fun hbf => ?_)
    have hlen : n.length ≤ 1000 ∧ n'.length ≤ 1000 := by
      rcases hb with hb | hb
      · exact absurd hb hbf
      · exact hb
    refine ev_bind (first_ev s n) (ev_bind (behind_ev s n) (ev_bind (rfirst_ev s n) (ev_bind (same_ev _ _ (by have := span_length s n 0; omega)) ?_)))
    refine ev_pos (by simp) (ev_bind (rbehind_ev s n) (ev_bind (same_ev _ _ (by have := span_length s n 1; omega)) ?_))
    refine ev_succ ?_
    simp only [munimentlaw05_StampSpans.j1]
    refine ev_neg (by simp) (ev_bind (write_ev s' n' t h0 h1) ?_)
    refine ev_ite (fun hw => ?_) (fun hw => ?_)
    · refine hj2 _ hw ?_ (by omega) (by omega)
      by_cases e : (span s n 0).length = 0
      · left; simp [e]
      · right; exact e
    · refine ev_succ ?_
      simp only [munimentlaw05_StampSpans.j2]
      exact ev_pos (by simp) (ev_some rfl)
  unfold munimentlaw05_StampSpans.f
  refine ev_bind awake_ev (ev_pos rfl ?_)
  refine ev_ite (fun h => hj _ (.inl rfl)) (fun h => hj _ ?_)
  by_cases e : (n'.length : Int) > 1000
  · left; simpa using e
  · right; omega
end Go.Proofs.Ytpbcjhckhocgeaa.Pl
