/- The plain law of StampOrder: keys are compared as their spaces, names and times are, and their bytes as they are. -/
import Derived.Test.YtpbcjhckhocgeaaPureStampSpans
import Derived.Test.YtpbcjhckhocgeaaPSx21
set_option linter.unusedSimpArgs false
set_option linter.unusedVariables false
namespace Go.Proofs.Ytpbcjhckhocgeaa.Pl
open Go.RowKit Go.Proofs.YtpbcjhckhocgeaaW.PrintWords Go.Proofs.YtpbcjhckhocgeaaW.PrintMore Go.Proofs.Ytpbcjhckhocgeaa.PS

theorem compareBytes_eq : ∀ (a b : List Int), Bytes a → Bytes b → Lib.compareBytes (Lib.bytesOf a) (Lib.bytesOf b) = if ltL a b = true then -1 else if ltL b a = true then 1 else 0
  | [], [], _, _ => by simp [Lib.bytesOf, Lib.compareBytes, ltL]
  | [], _ :: _, _, _ => by simp [Lib.bytesOf, Lib.compareBytes, ltL]
  | _ :: _, [], _, _ => by simp [Lib.bytesOf, Lib.compareBytes, ltL]
  | x :: a, y :: b, ha, hb => by
    have ih := compareBytes_eq a b ha.tail hb.tail
    have hx := ha.head
    have hy := hb.head
    unfold Byte at hx hy
    have hlt : ∀ u v : Int, 0 ≤ u ∧ u < 256 → 0 ≤ v ∧ v < 256 → (u.toNat.toUInt8 < v.toNat.toUInt8 ↔ u < v) := by
      intro u v hu hv
      rw [UInt8.lt_iff_toNat_lt]
      have e : ∀ w : Int, 0 ≤ w ∧ w < 256 → (w.toNat.toUInt8).toNat = w.toNat := by
        intro w hw
        simp [Nat.toUInt8]
        omega
      rw [e u hu, e v hv]
      omega
    show (if x.toNat.toUInt8 < y.toNat.toUInt8 then (-1 : Int) else if y.toNat.toUInt8 < x.toNat.toUInt8 then 1 else Lib.compareBytes (Lib.bytesOf a) (Lib.bytesOf b)) = _
    simp only [hlt x y hx hy, hlt y x hy hx, ih]
    rw [show ltL (x :: a) (y :: b) = if x = y then ltL a b else decide (x < y) from rfl, show ltL (y :: b) (x :: a) = if y = x then ltL b a else decide (y < x) from rfl]
    by_cases e : x = y
    · subst e
      simp
    · by_cases c : x < y
      · simp [c, e]
      · have c' : y < x := by omega
        simp [c, c', e, Ne.symm e]

/-- How two keys stand to each other. -/
def cmpK (s : Int) (n : List Int) (t : Int) (s' : Int) (n' : List Int) (t' : Int) : Int :=
  if s < s' then -1 else if s > s' then 1 else if ltL n n' = true then -1 else if ltL n' n = true then 1 else if t > t' then -1 else if t < t' then 1 else 0
theorem cmpi_ev (a b : Int) : cmp_Compare_int.f a b = some (if a < b then -1 else if a > b then 1 else 0) := by
  unfold cmp_Compare_int.f cmp_isNaN_int.f
  simp
  split
  · rfl
  · split <;> rfl
theorem cmpu_ev (a b : Int) : cmp_Compare_uint64.f a b = some (if a < b then -1 else if a > b then 1 else 0) := by
  unfold cmp_Compare_uint64.f cmp_isNaN_uint64.f
  simp
  split
  · rfl
  · split <;> rfl
theorem or3_ev (a b c : Int) : Ev (fun k => cmp_Or_int.f k [a, b, c]) (if a ≠ 0 then a else if b ≠ 0 then b else c) := by
  unfold cmp_Or_int.f
  refine ev_succ ?_
  simp only [cmp_Or_int.l0]
  refine ev_pos (by simp) (ev_pos (by decide) (ev_pos (by simp) ?_))
  rw [show rd [a, b, c] 0 = a from rfl]
  refine ev_ite (fun ha => ?_) (fun ha => ev_some (by rw [if_pos ha]))
  rw [if_neg (by simpa using ha), show wrap64 (0 + 1) = 1 from wrap64_id (by decide) (by decide)]
  refine ev_succ ?_
  simp only [cmp_Or_int.l0]
  refine ev_pos (by simp) (ev_pos (by decide) (ev_pos (by simp) ?_))
  rw [show rd [a, b, c] 1 = b from rfl]
  refine ev_ite (fun hb => ?_) (fun hb => ev_some (by rw [if_pos hb]))
  rw [if_neg (by simpa using hb), show wrap64 (1 + 1) = 2 from wrap64_id (by decide) (by decide)]
  refine ev_succ ?_
  simp only [cmp_Or_int.l0]
  refine ev_pos (by simp) (ev_pos (by decide) (ev_pos (by simp) ?_))
  rw [show rd [a, b, c] 2 = c from rfl]
  refine ev_ite (fun hc => ?_) (fun hc => ev_some rfl)
  rw [show wrap64 (2 + 1) = 3 from wrap64_id (by decide) (by decide)]
  refine ev_succ ?_
  simp only [cmp_Or_int.l0]
  exact ev_neg (by simp) (ev_some hc.symm)
theorem compare_ev (s : Int) (n : List Int) (t : Int) (s' : Int) (n' : List Int) (t' : Int) (hn : Bytes n) (hn' : Bytes n') : Ev (fun k => stamp_Compare.f k s n t s' n' t') (cmpK s n t s' n' t') := by
  unfold stamp_Compare.f
  refine ev_bind0 (cmpi_ev _ _) (ev_bind0 (b := Lib.compareBytes (Lib.bytesOf n) (Lib.bytesOf n')) rfl (ev_bind0 (cmpu_ev _ _) (ev_bind (or3_ev _ _ _) (ev_some ?_))))
  rw [compareBytes_eq n n' hn hn']
  unfold cmpK
  by_cases c1 : s < s'
  · simp [c1]
  · by_cases c2 : s > s'
    · simp [c1, c2]
    · simp only [c1, c2, if_false, ne_eq, not_true]
      by_cases c3 : ltL n n' = true
      · simp [c3]
      · by_cases c4 : ltL n' n = true
        · simp [c3, c4]
        · simp only [c3, c4]
          by_cases c5 : t' < t
          · simp [c5]
          · by_cases c6 : t' > t
            · have : t < t' := by omega
              simp [c5, c6, this]
            · have : ¬ t < t' := by omega
              simp [c5, c6, this]
theorem rcompare_ev (s : Int) (n : List Int) (t : Int) (s' : Int) (n' : List Int) (t' : Int) (hl : n.length < 4611686018427387904) (hl' : n'.length < 4611686018427387904) : Ev (fun k => munimentref05_Compare.f k s n t s' n' t') (cmpK s n t s' n' t') := by
  unfold munimentref05_Compare.f cmpK
  refine ev_ite (fun c => ev_some (by simp [c])) (fun c => ?_)
  rw [if_neg c]
  refine ev_ite (fun c2 => ev_some (by simp [c2])) (fun c2 => ?_)
  rw [if_neg c2]
  refine ev_bind (less_ev _ _ hl) (ev_ite (fun c3 => ev_some (by rw [if_pos c3])) (fun c3 => ?_))
  rw [if_neg c3]
  refine ev_bind (less_ev _ _ hl') (ev_ite (fun c4 => ev_some (by rw [if_pos c4])) (fun c4 => ?_))
  rw [if_neg c4]
  refine ev_ite (fun c5 => ev_some (by rw [if_pos c5])) (fun c5 => ?_)
  rw [if_neg c5]
  refine ev_ite (fun c6 => ev_some (by rw [if_pos c6])) (fun c6 => ev_some (by rw [if_neg c6]))

/-- Keys' bytes are ordered as the keys are. -/
theorem wr_order {s s' t t' : Int} {n n' : List Int} (hn : Bytes n) (hn' : Bytes n') (h0 : 0 ≤ t) (h1 : t < 18446744073709551616) (k0 : 0 ≤ t') (k1 : t' < 18446744073709551616)
    (e : (wr s n t).2 = 0) (e' : (wr s' n' t').2 = 0) :
    ltL (wr s n t).1 (wr s' n' t').1 = decide (cmpK s n t s' n' t' < 0) ∧ decide ((wr s n t).1 = (wr s' n' t').1) = (cmpK s n t s' n' t' == 0) := by
  have hw1 : ∀ {s : Int} {n : List Int} {t : Int}, (wr s n t).2 = 0 → ¬ (s < 0 ∨ s > 255) ∧ ¬ n.length > 200 := by
    intro s n t hw
    have a1 : ¬ (s < 0 ∨ s > 255) := by
      intro c
      rw [wr, if_pos c] at hw
      exact absurd hw (by decide)
    refine ⟨a1, fun c => ?_⟩
    rw [wr, if_neg a1, if_pos c] at hw
    exact absurd hw (by decide)
  obtain ⟨a1, a2⟩ := hw1 e
  obtain ⟨b1, b2⟩ := hw1 e'
  have ew : (wr s n t).1 = front s n 0 ++ b8 (18446744073709551615 - t) := by rw [wr, if_neg a1, if_neg a2]
  have ew' : (wr s' n' t').1 = front s' n' 0 ++ b8 (18446744073709551615 - t') := by rw [wr, if_neg b1, if_neg b2]
  have hlt := lt_fronts (x := b8 (18446744073709551615 - t)) (y := b8 (18446744073709551615 - t')) (s := s) (s' := s') (n := n) (n' := n') (p := 0) (q := 0) (by omega) (by omega) hn hn' (by omega) (by omega)
  have hgt := lt_fronts (x := b8 (18446744073709551615 - t')) (y := b8 (18446744073709551615 - t)) (s := s') (s' := s) (n := n') (n' := n) (p := 0) (q := 0) (by omega) (by omega) hn' hn (by omega) (by omega)
  have hb : ltL (0 :: b8 (18446744073709551615 - t)) (0 :: b8 (18446744073709551615 - t')) = decide (18446744073709551615 - t < 18446744073709551615 - t') := by
    show (if (0 : Int) = 0 then _ else _) = _
    rw [if_pos rfl, ltL_b8 (by omega) (by omega) (by omega) (by omega)]
  have hb' : ltL (0 :: b8 (18446744073709551615 - t')) (0 :: b8 (18446744073709551615 - t)) = decide (18446744073709551615 - t' < 18446744073709551615 - t) := by
    show (if (0 : Int) = 0 then _ else _) = _
    rw [if_pos rfl, ltL_b8 (by omega) (by omega) (by omega) (by omega)]
  rw [hb] at hlt
  rw [hb'] at hgt
  rw [ew, ew']
  generalize front s n 0 ++ b8 (18446744073709551615 - t) = X at *
  generalize front s' n' 0 ++ b8 (18446744073709551615 - t') = Y at *
  have key : ltL X Y = decide (cmpK s n t s' n' t' < 0) ∧ ltL Y X = decide (cmpK s n t s' n' t' > 0) := by
    rw [hlt, hgt]
    unfold cmpK
    by_cases c : s = s'
    · subst c
      simp only [if_true, Int.lt_irrefl, gt_iff_lt, if_false]
      by_cases d : n = n'
      · subst d
        simp only [if_true, ltL_irrefl]
        by_cases f : t' < t
        · have f2 : ¬ 18446744073709551615 - t' < 18446744073709551615 - t := by omega
          have f3 : 18446744073709551615 - t < 18446744073709551615 - t' := by omega
          simp [f, f2, f3]
        · by_cases g : t < t'
          · have f2 : 18446744073709551615 - t' < 18446744073709551615 - t := by omega
            have f3 : ¬ 18446744073709551615 - t < 18446744073709551615 - t' := by omega
            simp [f, g, f2, f3]
          · have f2 : ¬ 18446744073709551615 - t' < 18446744073709551615 - t := by omega
            have f3 : ¬ 18446744073709551615 - t < 18446744073709551615 - t' := by omega
            simp [f, g, f2, f3]
      · rw [if_neg d, if_neg (Ne.symm d)]
        by_cases f : ltL n n' = true
        · have := ltL_asymm _ _ f
          simp [f, this]
        · by_cases g : ltL n' n = true
          · simp [f, g]
          · exact absurd (ltL_total _ _ (by simpa using f) (by simpa using g)) d
    · rw [if_neg c, if_neg (Ne.symm c)]
      by_cases f : s < s'
      · have : ¬ s' < s := by omega
        simp [f, this]
      · have g : s' < s := by omega
        simp [f, g]
  refine ⟨key.1, ?_⟩
  by_cases d : X = Y
  · subst d
    have a := key.1
    have b := key.2
    rw [ltL_irrefl] at a b
    have a' := of_decide_eq_false a.symm
    have b' := of_decide_eq_false b.symm
    have : cmpK s n t s' n' t' = 0 := by omega
    simp [this]
  · have : cmpK s n t s' n' t' ≠ 0 := by
      intro z
      rw [z] at key
      exact d (ltL_total _ _ (by simpa using key.1) (by simpa using key.2))
    simp [d, this]

theorem stampOrder_ev (s : Int) (n : List Int) (t : Int) (s' : Int) (n' : List Int) (t' : Int) (hn : Bytes n) (hn' : Bytes n') (h0 : 0 ≤ t) (h1 : t < 18446744073709551616) (k0 : 0 ≤ t') (k1 : t' < 18446744073709551616) :
    Ev (fun k => munimentlaw05_StampOrder.f k s n t s' n' t') true := by
  have hj : ∀ b : Bool, (b = true ∨ (n.length ≤ 1000 ∧ n'.length ≤ 1000)) → Ev (fun k => munimentlaw05_StampOrder.j0 k b s n t s' n' t') true := by
    intro b hb
    refine ev_succ ?_
    simp only [munimentlaw05_StampOrder.j0]
    refine ev_ite (fun _ => ev_bind awake_ev (ev_some rfl)) (fun hbf => ?_)
    have hlen : n.length ≤ 1000 ∧ n'.length ≤ 1000 := by
      rcases hb with hb | hb
      · exact absurd hb hbf
      · exact hb
    refine ev_bind (compare_ev s n t s' n' t' hn hn') (ev_bind (rcompare_ev s n t s' n' t' (by omega) (by omega)) (ev_pos rfl ?_))
    refine ev_bind (write_ev s n t h0 h1) (ev_bind (write_ev s' n' t' k0 k1) ?_)
    refine ev_ite (fun e => ?_) (fun _ => ev_some rfl)
    refine ev_ite (fun e' => ?_) (fun _ => ev_some rfl)
    obtain ⟨x1, x2⟩ := wr_order hn hn' h0 h1 k0 k1 e e'
    refine ev_bind (less_ev _ _ (by have := wr_length s n t; omega)) ?_
    refine ev_pos (by rw [x1]; simp) (ev_bind (same_ev _ _ (by have := wr_length s n t; omega)) (ev_some ?_))
    rw [x2]
    simp
  unfold munimentlaw05_StampOrder.f
  refine ev_bind awake_ev (ev_pos rfl ?_)
  refine ev_ite (fun h => hj _ (.inl rfl)) (fun h => hj _ ?_)
  by_cases e : (n'.length : Int) > 1000
  · left; simpa using e
  · right; omega
end Go.Proofs.Ytpbcjhckhocgeaa.Pl
