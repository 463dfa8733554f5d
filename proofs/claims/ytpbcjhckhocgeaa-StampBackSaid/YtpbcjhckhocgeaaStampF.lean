/- What the stamp chapter's functions answer, each as a plain word. -/
import Derived.Test.YtpbcjhckhocgeaaBig
import Derived.Test.YtpbcjhckhocgeaaPSx3
import Derived.Test.YtpbcjhckhocgeaaPSx4
import Derived.Test.YtpbcjhckhocgeaaPSx6
import Derived.Test.YtpbcjhckhocgeaaPSx7
set_option linter.unusedSimpArgs false
set_option linter.unusedVariables false
namespace Go.Proofs.Ytpbcjhckhocgeaa.Pl
open Go.RowKit Go.Proofs.YtpbcjhckhocgeaaW.PrintWords Go.Proofs.YtpbcjhckhocgeaaW.PrintMore Go.Proofs.Ytpbcjhckhocgeaa.PS

theorem same_loop : ∀ (ra rb p : List Int), ra.length = rb.length → (p ++ ra).length < 4611686018427387904 → Ev (fun k => munimentref04_Same.l0 k (p ++ ra) (p ++ rb) p.length) (decide (ra = rb))
  | [], rb, p, hl, _ => by
    obtain rfl : rb = [] := List.length_eq_zero_iff.1 hl.symm
    refine ev_succ ?_
    simp only [munimentref04_Same.l0]
    exact ev_neg (by simp) (ev_some (by simp))
  | x :: ra, [], p, hl, _ => by simp at hl
  | x :: ra, y :: rb, p, hl, hs => by
    have hl' : ra.length = rb.length := by simpa using hl
    have ih := same_loop ra rb (p ++ [x]) hl' (by simpa using hs)
    rw [List.length_append, List.length_cons] at hs
    refine ev_succ ?_
    simp only [munimentref04_Same.l0]
    refine ev_pos (by simp; omega) (ev_pos (by omega) (ev_pos (by simp; omega) ?_))
    rw [rd_mid, rd_mid, wrap64_id (by omega) (by omega)]
    by_cases e : x = y
    · subst e
      refine ev_pos rfl ?_
      simpa using ih
    · exact ev_neg e (ev_some (by simp [e]))
theorem same_ev (a b : List Int) (h : a.length < 4611686018427387904) : Ev (fun k => munimentref04_Same.f k a b) (decide (a = b)) := by
  unfold munimentref04_Same.f
  by_cases e : a.length = b.length
  · exact ev_pos (by omega) (same_loop a b [] e (by simpa using h))
  · exact ev_neg (by omega) (ev_some (by simp; rintro rfl; exact e rfl))

theorem wrong_ev (s : Int) (n : List Int) : Ev (fun k => stamp_wrong.f k s n) (if s < 0 ∨ s > 255 then 1 else if n.length > 200 then 3 else 0) := by
  unfold stamp_wrong.f
  refine ev_ite (fun h => ?_) (fun h => ?_)
  · refine ev_succ ?_
    simp only [stamp_wrong.j0]
    exact ev_some (by simp [h])
  · refine ev_succ ?_
    simp only [stamp_wrong.j0]
    refine ev_ite (fun h2 => ?_) (fun h2 => ?_)
    · exact ev_some (by have : s > 255 := by simpa using h2
                        simp [this])
    · have h3 : ¬ (s < 0 ∨ s > 255) := by simp at h2; omega
      rw [if_neg h3]
      refine ev_ite (fun h4 => ?_) (fun h4 => ?_)
      · exact ev_some (by rw [if_pos (by omega)])
      · exact ev_some (by rw [if_neg (by omega)])

theorem append64_loop (x : Int) : ∀ (j : Nat) (acc : List Int), j ≤ 8 → acc.length + j < 140737488355328 → Ev (fun k => stamp_append64.l0 k acc x (8 * (j : Int) - 8)) (acc ++ bt x j)
  | 0, acc, _, _ => by
    refine ev_succ ?_
    simp only [stamp_append64.l0]
    exact ev_neg (by omega) (ev_some (by simp [bt]))
  | j + 1, acc, hj, hl => by
    have ih := append64_loop x j (acc ++ [x / 256 ^ j % 256]) (by omega) (by simp; omega)
    refine ev_succ ?_
    simp only [stamp_append64.l0]
    have e1 : 8 * ((j + 1 : Nat) : Int) - 8 = 8 * (j : Int) := by omega
    have e2 : IntKind.u64.wrap (8 * (j : Int)) = 8 * (j : Int) := wrapU64_id (by omega) (by omega)
    have e3 : wrap64 (8 * (j : Int) - 8) = 8 * (j : Int) - 8 := wrap64_id (by omega) (by omega)
    rw [e1, e2, e3, shr_bytes x j (by omega)]
    refine ev_pos (by omega) (ev_pos (by omega) (ev_pos (by omega) ?_))
    simpa [bt] using ih
theorem append64_ev (b : List Int) (x : Int) (h : b.length + 8 < 140737488355328) : Ev (fun k => stamp_append64.f k b x) (b ++ b8 x) := by
  have := append64_loop x 8 b (by omega) h
  rw [bt_8] at this
  exact this

theorem big_loop : ∀ (j : Nat) (y : Int) (tl : List Int), 0 ≤ y → y < 18446744073709551616 → j ≤ 8 → Ev (fun k => munimentref04_Big.l0 k y (List.replicate j 0 ++ tl) ((j : Int) - 1)) (bt y j ++ tl)
  | 0, y, tl, _, _, _ => by
    refine ev_succ ?_
    simp only [munimentref04_Big.l0]
    exact ev_neg (by omega) (ev_some (by simp [bt]))
  | j + 1, y, tl, h0, h1, hj => by
    have ih := big_loop j (y / 256) (y % 256 :: tl) (by omega) (by omega) (by omega)
    refine ev_succ ?_
    simp only [munimentref04_Big.l0]
    have e1 : ((j + 1 : Nat) : Int) - 1 = (j : Int) := by omega
    have e2 : IntKind.u64.wrap (Int.tdiv y 256) = y / 256 := by
      rw [Int.tdiv_eq_ediv_of_nonneg h0]; exact wrapU64_id (by omega) (by omega)
    have e3 : Int.tmod y 256 % 256 = y % 256 := by
      rw [Int.tmod_eq_emod_of_nonneg h0]; omega
    have e4 : wrap64 ((j : Int) - 1) = (j : Int) - 1 := wrap64_id (by omega) (by omega)
    have e5 : (List.replicate (j + 1) (0 : Int) ++ tl).set j (y % 256) = List.replicate j 0 ++ y % 256 :: tl := by
      rw [List.replicate_succ', List.append_assoc, List.set_append_right _ _ (by simp)]
      simp
    rw [e1, e2, e3, e4, Int.toNat_natCast, e5]
    refine ev_pos (by omega) (ev_pos (by omega) (ev_pos (by simp; omega) ?_))
    rw [bt_snoc, List.append_assoc]
    exact ih
theorem big_ev (x : Int) (h0 : 0 ≤ x) (h1 : x < 18446744073709551616) : Ev (fun k => munimentref04_Big.f k x) (b8 x) := by
  unfold munimentref04_Big.f
  refine ev_pos (by omega) ?_
  have := big_loop 8 x [] h0 h1 (by omega)
  rw [bt_8] at this
  simpa using this

theorem front_loop (m : Int) : ∀ (r p acc : List Int), (p ++ r).length < 1000000 → acc.length < 1000000000 - 2 * r.length → Ev (fun k => stamp_front.l0 k m acc (p ++ r) ((p ++ r).length : Int) p.length) (acc ++ esc r ++ [0, m])
  | [], p, acc, _, ha => by
    refine ev_succ ?_
    simp only [stamp_front.l0]
    refine ev_neg (by simp) (ev_let (ev_pos (by simp; omega) (ev_some (by simp [esc]))))
  | x :: r, p, acc, hs, ha => by
    have hs' := hs
    rw [List.length_append, List.length_cons] at hs'
    simp only [List.length_cons] at ha
    have w : wrap64 ((p.length : Int) + 1) = ((p ++ [x]).length : Int) := by rw [wrap64_id (by omega) (by omega)]; simp
    refine ev_succ ?_
    simp only [stamp_front.l0]
    refine ev_pos (by simp; omega) (ev_pos (by omega) (ev_pos (by simp; omega) (ev_pos (by omega) (ev_let ?_))))
    rw [rd_mid, w]
    by_cases e : x = 0
    · subst e
      refine ev_pos rfl (ev_pos (by simp; omega) ?_)
      have ih := front_loop m r (p ++ [0]) (acc ++ [0] ++ [255]) (by simpa using hs) (by simp; omega)
      simpa [esc] using ih
    · refine ev_neg e ?_
      have ih := front_loop m r (p ++ [x]) (acc ++ [x]) (by simpa using hs) (by simp; omega)
      simpa [esc, e] using ih
def front (s : Int) (n : List Int) (m : Int) : List Int := s % 256 :: (esc n ++ [0, m])
theorem front_ev (s : Int) (n : List Int) (m : Int) (h : n.length < 1000000) : Ev (fun k => stamp_front.f k s n m) (front s n m) := by
  have := front_loop m n [] [s % 256] (by simpa using h) (by simp; omega)
  unfold stamp_front.f front
  simpa using this
theorem rfront_loop (m : Int) : ∀ (r p acc : List Int), (p ++ r).length < 1000000 → acc.length < 1000000000 - 2 * r.length → Ev (fun k => munimentref05_front.l0 k (p ++ r) m acc p.length) (acc ++ esc r ++ [0, m])
  | [], p, acc, _, ha => by
    refine ev_succ ?_
    simp only [munimentref05_front.l0]
    refine ev_neg (by simp) (ev_pos (by simp at ha; omega) (ev_let (ev_pos (by simp at ha ⊢; omega) (ev_some (by simp [esc])))))
  | x :: r, p, acc, hs, ha => by
    have hs' := hs
    rw [List.length_append, List.length_cons] at hs'
    simp only [List.length_cons] at ha
    have w : wrap64 ((p.length : Int) + 1) = ((p ++ [x]).length : Int) := by rw [wrap64_id (by omega) (by omega)]; simp
    refine ev_succ ?_
    simp only [munimentref05_front.l0]
    refine ev_pos (by simp; omega) (ev_pos (by omega) (ev_pos (by omega) (ev_let ?_)))
    rw [rd_mid, w]
    by_cases e : x = 0
    · subst e
      refine ev_pos rfl (ev_pos (by simp; omega) ?_)
      have ih := rfront_loop m r (p ++ [0]) (acc ++ [0] ++ [255]) (by simpa using hs) (by simp; omega)
      simpa [esc] using ih
    · refine ev_neg e ?_
      have ih := rfront_loop m r (p ++ [x]) (acc ++ [x]) (by simpa using hs) (by simp; omega)
      simpa [esc, e] using ih
theorem rfront_ev (s : Int) (n : List Int) (m : Int) (h : n.length < 1000000) : Ev (fun k => munimentref05_front.f k s n m) (front s n m) := by
  have := rfront_loop m n [] [s % 256] (by simpa using h) (by simp; omega)
  unfold munimentref05_front.f front
  simpa using this
theorem front_length (s : Int) (n : List Int) (m : Int) : (front s n m).length = (esc n).length + 3 := by simp [front]

/-- A key's bytes, or why there are none. -/
def wr (s : Int) (n : List Int) (t : Int) : List Int × Int :=
  if s < 0 ∨ s > 255 then ([], 1) else if n.length > 200 then ([], 3) else (front s n 0 ++ b8 (18446744073709551615 - t), 0)
theorem write_ev (s : Int) (n : List Int) (t : Int) (h0 : 0 ≤ t) (h1 : t < 18446744073709551616) : Ev (fun k => stamp_Write.f k s n t) (wr s n t) := by
  unfold stamp_Write.f
  refine ev_bind (wrong_ev s n) ?_
  unfold wr
  by_cases c : s < 0 ∨ s > 255
  · rw [if_pos c, if_pos c]
    exact ev_neg (by decide) (ev_some rfl)
  · rw [if_neg c, if_neg c]
    by_cases c2 : n.length > 200
    · rw [if_pos c2, if_pos c2]
      exact ev_neg (by decide) (ev_some rfl)
    · rw [if_neg c2, if_neg c2]
      have hl := esc_length n
      refine ev_pos rfl (ev_bind (front_ev s n 0 (by omega)) (ev_bind (append64_ev _ _ (by rw [front_length]; omega)) (ev_some ?_)))
      rw [xor_all t h0 h1]
theorem rwrite_ev (s : Int) (n : List Int) (t : Int) (h0 : 0 ≤ t) (h1 : t < 18446744073709551616) : Ev (fun k => munimentref05_Write.f k s n t) (wr s n t) := by
  have hj : ∀ b : Bool, b = decide (s < 0 ∨ s > 255) → Ev (fun k => munimentref05_Write.j0 k b s n t) (wr s n t) := by
    intro b hb
    refine ev_succ ?_
    simp only [munimentref05_Write.j0]
    unfold wr
    by_cases c : s < 0 ∨ s > 255
    · rw [if_pos c]
      exact ev_pos (by simp [hb, c]) (ev_some rfl)
    · rw [if_neg c]
      refine ev_neg (by simp [hb]; omega) ?_
      by_cases c2 : n.length > 200
      · rw [if_pos c2]
        exact ev_pos (by omega) (ev_some rfl)
      · rw [if_neg c2]
        have hl := esc_length n
        refine ev_neg (by omega) (ev_bind (rfront_ev s n 0 (by omega)) ?_)
        rw [wrapU64_id (x := 18446744073709551615 - t) (by omega) (by omega)]
        refine ev_bind (big_ev _ (by omega) (by omega)) (ev_pos ?_ (ev_some rfl))
        rw [front_length, b8_length]; omega
  unfold munimentref05_Write.f
  refine ev_ite (fun h => hj _ (by simp [h])) (fun h => hj _ (by simp; omega))
theorem awake_ev : Ev (fun k => munimentlaw05_awake.f k) true := by
  exact ev_some rfl
end Go.Proofs.Ytpbcjhckhocgeaa.Pl
