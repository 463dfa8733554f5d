import Derived.Test.YtmkcmfamdnjmdaaZnpesNodeF
import Derived.Test.YtmkcmfamdnjmdaaZnpesPNx16
import Derived.Test.YtmkcmfamdnjmdaaZnpesPNx20
set_option linter.unusedSimpArgs false
set_option linter.unusedVariables false
set_option linter.unusedSectionVars false
namespace Go.Proofs.Ytmkcmfamdnjmdaa.Pl
open Go.RowKit Go.Proofs.YtmkcmfamdnjmdaaW.PrintWords Go.Proofs.YtmkcmfamdnjmdaaW.PrintMore Go.Proofs.Ytmkcmfamdnjmdaa.PN
def keysFrom : Option (List Int) → List (List Int) → Bool
  | _, [] => true
  | p, x :: r => decide (1 ≤ x.length) && decide (x.length ≤ 240) && (match p with | none => true | some q => ltL q x) && keysFrom (some x) r
def valsOk (vs : List (List Int)) : Bool := vs.all fun v => decide (v.length ≤ 260)
def kidsOk (ks : List Int) : Bool := ks.all fun c => decide (0 ≤ c) && decide (c ≤ 2147483647)
def shape2 (a : Bool) (l vs : List (List Int)) (ks : List Int) : Bool :=
  if a = true then decide (vs.length = l.length) && decide (ks.length = 0) && valsOk vs else decide (vs.length = 0) && decide (ks.length = l.length + 1) && kidsOk ks
def shapedB (a : Bool) (l vs : List (List Int)) (ks : List Int) : Bool := keysFrom none l && shape2 a l vs ks
/-- A node not too large to be looked at. -/
structure Small (l vs : List (List Int)) (ks : List Int) : Prop where
  kl : l.length ≤ 100000
  vl : vs.length ≤ 100000
  cl : ks.length ≤ 100000
  kb : ∀ x ∈ l, x.length ≤ 100000 ∧ Bytes x
  vb : ∀ x ∈ vs, x.length ≤ 100000 ∧ Bytes x
theorem wrapS {n : Nat} (h : n ≤ 1000000) : wrap64 ((n : Int) + 1) = ((n + 1 : Nat) : Int) := wrapN (by unfold maxLen; omega)
/-- What the guard tells. -/
theorem nsmall_v (a : Bool) (l vs : List (List Int)) (ks : List Int) (hv : vs.length ≤ 100000) : ∀ (r p : List (List Int)), vs = p ++ r → ∃ b, Ev (fun k => munimentref09_Few.l1 k (p.length : Int) a l vs ks) b ∧ (b = true → ∀ x ∈ r, x.length ≤ 300)
  | [], p, e => by
    refine ⟨true, ev_succ ?_, fun _ x hx => absurd hx (by simp)⟩
    simp only [munimentref09_Few.l1]
    exact ev_neg (by rw [e]; simp) (ev_some rfl)
  | x :: r, p, e => by
    have hlen : vs.length = p.length + (r.length + 1) := by rw [e, List.length_append, List.length_cons]
    have hx : rd_L1 vs (p.length : Int) = x := by rw [e]; exact rdL_mid _ _ _
    have e4 : ((p.length + 1 : Nat) : Int) = (((p ++ [x]).length : Nat) : Int) := by simp
    obtain ⟨b, ih, hb⟩ := nsmall_v a l vs ks hv r (p ++ [x]) (by rw [e]; simp)
    by_cases c : (x.length : Int) > 300
    · refine ⟨false, ev_succ ?_, fun h => absurd h (by simp)⟩
      simp only [munimentref09_Few.l1]
      rw [hx]
      exact ev_pos (by omega) (ev_pos (by omega) (ev_pos c (ev_some rfl)))
    · refine ⟨b, ev_succ ?_, fun h y hy => ?_⟩
      · simp only [munimentref09_Few.l1]
        rw [hx, wrapS (by omega), e4]
        exact ev_pos (by omega) (ev_pos (by omega) (ev_neg c ih))
      · rcases List.mem_cons.1 hy with rfl | h2
        · omega
        · exact hb h y h2
theorem nsmall_k (a : Bool) (l vs : List (List Int)) (ks : List Int) (hl : l.length ≤ 100000) (hv : vs.length ≤ 100000) : ∀ (r p : List (List Int)), l = p ++ r → ∃ b, Ev (fun k => munimentref09_Few.l0 k (p.length : Int) a l vs ks) b ∧ (b = true → (∀ x ∈ r, x.length ≤ 300) ∧ ∀ x ∈ vs, x.length ≤ 300)
  | [], p, e => by
    obtain ⟨b, h, hb⟩ := nsmall_v a l vs ks hv vs [] rfl
    refine ⟨b, ev_succ ?_, fun h => ⟨fun x hx => absurd hx (by simp), hb h⟩⟩
    simp only [munimentref09_Few.l0]
    exact ev_neg (by rw [e]; simp) h
  | x :: r, p, e => by
    have hlen : l.length = p.length + (r.length + 1) := by rw [e, List.length_append, List.length_cons]
    have hx : rd_L1 l (p.length : Int) = x := by rw [e]; exact rdL_mid _ _ _
    have e4 : ((p.length + 1 : Nat) : Int) = (((p ++ [x]).length : Nat) : Int) := by simp
    obtain ⟨b, ih, hb⟩ := nsmall_k a l vs ks hl hv r (p ++ [x]) (by rw [e]; simp)
    by_cases c : (x.length : Int) > 300
    · refine ⟨false, ev_succ ?_, fun h => absurd h (by simp)⟩
      simp only [munimentref09_Few.l0]
      rw [hx]
      exact ev_pos (by omega) (ev_pos (by omega) (ev_pos c (ev_some rfl)))
    · refine ⟨b, ev_succ ?_, fun h => ⟨fun y hy => ?_, (hb h).2⟩⟩
      · simp only [munimentref09_Few.l0]
        rw [hx, wrapS (by omega), e4]
        exact ev_pos (by omega) (ev_pos (by omega) (ev_neg c ih))
      · rcases List.mem_cons.1 hy with rfl | h2
        · omega
        · exact (hb h).1 y h2
theorem nsmall_ev (a : Bool) (l vs : List (List Int)) (ks : List Int) (hl : Op.Rows8 l) (hv : Op.Rows8 vs) : ∃ b, Ev (fun k => munimentref09_Few.f k a l vs ks) b ∧ (b = true → Small l vs ks) := by
  have no : Ev (fun k => munimentref09_Few.j0 k true a l vs ks) false := by
    refine ev_succ ?_
    simp only [munimentref09_Few.j0]
    exact ev_pos trivial (ev_some rfl)
  by_cases h1 : (l.length : Int) > 120
  · refine ⟨false, ?_, fun h => absurd h (by simp)⟩
    unfold munimentref09_Few.f
    exact ev_pos h1 no
  · by_cases h2 : (vs.length : Int) > 120
    · refine ⟨false, ?_, fun h => absurd h (by simp)⟩
      unfold munimentref09_Few.f
      exact ev_neg h1 (ev_pos h2 no)
    · by_cases h3 : (ks.length : Int) > 120
      · refine ⟨false, ?_, fun h => absurd h (by simp)⟩
        unfold munimentref09_Few.f
        refine ev_neg h1 (ev_neg h2 ?_)
        rw [show decide ((ks.length : Int) > 120) = true by simpa using h3]
        exact no
      · obtain ⟨b, hb, hs⟩ := nsmall_k a l vs ks (by omega) (by omega) l [] rfl
        refine ⟨b, ?_, fun h => ⟨by omega, by omega, by omega, fun x hx => ⟨by have := (hs h).1 x hx; omega, bb_of hl x hx⟩, fun x hx => ⟨by have := (hs h).2 x hx; omega, bb_of hv x hx⟩⟩⟩
        unfold munimentref09_Few.f
        refine ev_neg h1 (ev_neg h2 ?_)
        rw [show decide ((ks.length : Int) > 120) = false by simpa using h3]
        refine ev_succ ?_
        simp only [munimentref09_Few.j0]
        exact ev_neg (by simp) hb
theorem index_v (vs : List (List Int)) (hv : vs.length ≤ 100000) : ∀ (r p : List (List Int)), vs = p ++ r → ∃ t, Ev (fun k => slices_IndexFunc_byte_byte.l0 k vs (vs.length : Int) (p.length : Int)) t ∧ (t ≥ 0 ↔ valsOk r = false)
  | [], p, e => ⟨-1, ev_succ (by simp only [slices_IndexFunc_byte_byte.l0]; exact ev_neg (by rw [e]; simp) (ev_some rfl)), by simp [valsOk]⟩
  | x :: r, p, e => by
    have hlen : vs.length = p.length + (r.length + 1) := by rw [e, List.length_append, List.length_cons]
    have hx : rd_L1 vs (p.length : Int) = x := by rw [e]; exact rdL_mid _ _ _
    obtain ⟨t, ht, hi⟩ := index_v vs hv r (p ++ [x]) (by rw [e]; simp)
    by_cases c : x.length ≤ 260
    · refine ⟨t, ev_succ ?_, by rw [hi]; simp [valsOk, c]⟩
      simp only [slices_IndexFunc_byte_byte.l0]
      rw [hx, wrapS (by omega)]
      refine ev_pos (by omega) (ev_pos (by omega) (ev_pos (by omega) (ev_bind0 (b := false) (by unfold node_shaped_1.f; simp; omega) (ev_neg (by simp) ?_))))
      simpa using ht
    · refine ⟨(p.length : Int), ev_succ ?_, by simp [valsOk, c]⟩
      simp only [slices_IndexFunc_byte_byte.l0]
      rw [hx]
      exact ev_pos (by omega) (ev_pos (by omega) (ev_pos (by omega) (ev_bind0 (b := true) (by unfold node_shaped_1.f; simp; omega) (ev_pos rfl (ev_some rfl)))))
theorem contains_v (vs : List (List Int)) (hv : vs.length ≤ 100000) : Ev (fun k => slices_ContainsFunc_byte_byte.f k vs) (!valsOk vs) := by
  obtain ⟨t, ht, hi⟩ := index_v vs hv vs [] rfl
  unfold slices_ContainsFunc_byte_byte.f slices_IndexFunc_byte_byte.f
  refine ev_bind ht (ev_some ?_)
  cases h : valsOk vs with
  | true => rw [h] at hi; simp at hi; simp; omega
  | false => rw [h] at hi; simp at hi; simpa using hi
theorem index_c (ks : List Int) (hv : ks.length ≤ 100000) : ∀ (r p : List Int), ks = p ++ r → ∃ t, Ev (fun k => slices_IndexFunc_int_int.l0 k ks (ks.length : Int) (p.length : Int)) t ∧ (t ≥ 0 ↔ kidsOk r = false)
  | [], p, e => ⟨-1, ev_succ (by simp only [slices_IndexFunc_int_int.l0]; exact ev_neg (by rw [e]; simp) (ev_some rfl)), by simp [kidsOk]⟩
  | x :: r, p, e => by
    have hlen : ks.length = p.length + (r.length + 1) := by rw [e, List.length_append, List.length_cons]
    have hx : rd ks (p.length : Int) = x := by rw [e]; exact rd_mid _ _ _
    obtain ⟨t, ht, hi⟩ := index_c ks hv r (p ++ [x]) (by rw [e]; simp)
    have two : node_shaped_2.f x = some (!(decide (0 ≤ x) && decide (x ≤ 2147483647))) := by
      unfold node_shaped_2.f
      by_cases c : x < 0
      · have c' : ¬ 0 ≤ x := by omega
        rw [if_pos c]
        simp [c']
      · have c' : 0 ≤ x := by omega
        rw [if_neg c]
        by_cases c2 : x > 2147483647
        · have c3 : ¬ x ≤ 2147483647 := by omega
          simp [c', c2, c3]
        · have c3 : x ≤ 2147483647 := by omega
          simp [c', c2, c3]
    by_cases c : (decide (0 ≤ x) && decide (x ≤ 2147483647)) = true
    · refine ⟨t, ev_succ ?_, by rw [hi]; simp only [kidsOk, List.all_cons, c, Bool.true_and]⟩
      simp only [slices_IndexFunc_int_int.l0]
      rw [hx, wrapS (by omega)]
      refine ev_pos (by omega) (ev_pos (by omega) (ev_pos (by omega) (ev_bind0 (b := false) (by rw [two, c]; rfl) (ev_neg (by simp) ?_))))
      simpa using ht
    · simp only [Bool.not_eq_true] at c
      refine ⟨(p.length : Int), ev_succ ?_, ?_⟩
      · simp only [slices_IndexFunc_int_int.l0]
        rw [hx]
        exact ev_pos (by omega) (ev_pos (by omega) (ev_pos (by omega) (ev_bind0 (b := true) (by rw [two, c]; rfl) (ev_pos rfl (ev_some rfl)))))
      · have : kidsOk (x :: r) = false := by
          unfold kidsOk
          rw [List.all_cons, c, Bool.false_and]
        rw [this]
        simp
theorem contains_c (ks : List Int) (hv : ks.length ≤ 100000) : Ev (fun k => slices_ContainsFunc_int_int.f k ks) (!kidsOk ks) := by
  obtain ⟨t, ht, hi⟩ := index_c ks hv ks [] rfl
  unfold slices_ContainsFunc_int_int.f slices_IndexFunc_int_int.f
  refine ev_bind ht (ev_some ?_)
  cases h : kidsOk ks with
  | true => rw [h] at hi; simp at hi; simp; omega
  | false => rw [h] at hi; simp at hi; simpa using hi
section
variable {a : Bool} {l vs : List (List Int)} {ks : List Int} (S : Small l vs ks)
include S
theorem shape2_ev : Ev (fun k => if a = true then (if (vs.length : Int) = (l.length : Int) then (if (ks.length : Int) = 0 then ((slices_ContainsFunc_byte_byte.f k vs).bind fun t => some (!t)) else some false) else some false) else (if (vs.length : Int) = 0 then (if (ks.length : Int) = (wrap64 ((l.length : Int) + 1)) then ((slices_ContainsFunc_int_int.f k ks).bind fun t => some (!t)) else some false) else some false)) (shape2 a l vs ks) := by
  rw [wrapS (by have := S.kl; omega)]
  unfold shape2
  refine ev_ite (fun h => ?_) (fun h => ?_)
  · rw [if_pos h]
    refine ev_ite (fun h1 => ev_ite (fun h2 => ev_bind (contains_v vs S.vl) (ev_some ?_)) (fun h2 => ev_some ?_)) (fun h1 => ev_some ?_)
    · have e1 : vs.length = l.length := by omega
      have e2 : ks.length = 0 := by omega
      simp [e1, e2]
    · have e2 : ¬ ks.length = 0 := by omega
      simp only [decide_eq_false e2, Bool.and_false, Bool.false_and]
    · have e2 : ¬ vs.length = l.length := by omega
      simp only [decide_eq_false e2, Bool.and_false, Bool.false_and]
  · rw [if_neg h]
    refine ev_ite (fun h1 => ev_ite (fun h2 => ev_bind (contains_c ks S.cl) (ev_some ?_)) (fun h2 => ev_some ?_)) (fun h1 => ev_some ?_)
    · have e1 : vs.length = 0 := by omega
      have e2 : ks.length = l.length + 1 := by omega
      simp [e1, e2]
    · have e2 : ¬ ks.length = l.length + 1 := by omega
      simp only [decide_eq_false e2, Bool.and_false, Bool.false_and]
    · have e2 : ¬ vs.length = 0 := by omega
      simp only [decide_eq_false e2, Bool.and_false, Bool.false_and]
theorem shaped_loop : ∀ (r p : List (List Int)) (pr : Option (List Int)), l = p ++ r → pr = p.getLast? → Ev (fun k => node_shaped.l0 k l (l.length : Int) (p.length : Int) a l vs ks) (keysFrom pr r && shape2 a l vs ks)
  | [], p, pr, e, _ => by
    refine ev_succ ?_
    simp only [node_shaped.l0]
    refine ev_neg (by rw [e]; simp) ?_
    simpa [keysFrom] using shape2_ev (a := a) S
  | x :: r, p, pr, e, hp => by
    have hkl := S.kl
    have hlen : l.length = p.length + (r.length + 1) := by rw [e, List.length_append, List.length_cons]
    have ih := shaped_loop r (p ++ [x]) (some x) (by rw [e]; simp) (by simp)
    have hx : rd_L1 l (p.length : Int) = x := by rw [e]; exact rdL_mid _ _ _
    have hbx := (S.kb x (by rw [e]; simp)).2
    have e4 : ((p.length + 1 : Nat) : Int) = (((p ++ [x]).length : Nat) : Int) := by simp
    refine ev_succ ?_
    simp only [node_shaped.l0]
    rw [hx, wrapS (by omega), e4]
    refine ev_pos (by omega) (ev_pos (by omega) (ev_pos (by omega) ?_))
    unfold keysFrom
    refine ev_ite (fun h1 => ev_some ?_) (fun h1 => ev_ite (fun h2 => ev_some ?_) (fun h2 => ?_))
    · have : ¬ 1 ≤ x.length := by omega
      simp [this]
    · have : ¬ x.length ≤ 240 := by omega
      simp only [decide_eq_false this, Bool.and_false, Bool.false_and]
    · have q1 : 1 ≤ x.length := by omega
      have q2 : x.length ≤ 240 := by omega
      rw [decide_eq_true q1, decide_eq_true q2, Bool.true_and, Bool.true_and]
      refine ev_ite (fun hpos => ?_) (fun hpos => ?_)
      · have hp1 : wrap64 ((p.length : Int) - 1) = ((p.length - 1 : Nat) : Int) := by
          rw [wrap64_id (by omega) (by omega)]
          omega
        obtain ⟨p', y, rfl⟩ : ∃ p' y, p = p' ++ [y] := by
          refine ⟨p.dropLast, p.getLast (by intro c; rw [c] at hpos; simp at hpos), ?_⟩
          exact (List.dropLast_concat_getLast _).symm
        have hy : rd_L1 l (((p' ++ [y]).length - 1 : Nat) : Int) = y := by
          rw [e, List.length_append, List.length_singleton, Nat.add_sub_cancel, List.append_assoc]
          exact rdL_mid _ _ _
        have hby := (S.kb y (by rw [e]; simp)).2
        have hl2 : (p' ++ [y]).length = p'.length + 1 := by simp
        rw [hp1, hy, hp]
        obtain ⟨c, hc, hc1, hc2⟩ := cmp_lt hby hbx
        refine ev_pos (by omega) (ev_pos (by omega) (ev_bind0 hc (ev_ite (fun h => ev_some ?_) (fun h => ?_))))
        · have := hc2.1 h
          simp [this]
        · have hlt : ltL y x = true := by
            cases hh : ltL y x with
            | true => rfl
            | false => exact absurd (hc2.2 hh) h
          have e1 : (p' ++ [y]).getLast? = some y := by simp
          rw [e1]
          simp only [hlt, Bool.true_and]
          exact ih
      · have hp0 : p = [] := List.length_eq_zero_iff.1 (by omega)
        subst hp0
        rw [hp]
        simpa using ih
theorem shaped_ev : Ev (fun k => node_shaped.f k a l vs ks) (shapedB a l vs ks) := by
  unfold node_shaped.f shapedB
  exact shaped_loop S l [] none rfl rfl
theorem rshape_c : ∀ (r p : List Int), ks = p ++ r → Ev (fun k => munimentref09_Shaped.l2 k (p.length : Int) a l vs ks) (kidsOk r && if a = true then decide (ks.length = 0) && decide (vs.length = l.length) else decide (vs.length = 0) && decide (ks.length = l.length + 1))
  | [], p, e => by
    have hkl := S.kl
    refine ev_succ ?_
    simp only [munimentref09_Shaped.l2]
    refine ev_neg (by rw [e]; simp) ?_
    rw [wrapS (by omega)]
    have hk : kidsOk [] = true := rfl
    rw [hk, Bool.true_and]
    refine ev_ite (fun h => ?_) (fun h => ?_)
    · rw [if_pos h]
      refine ev_ite (fun h1 => ev_some ?_) (fun h1 => ev_some ?_)
      · have e1 : ks.length = 0 := by omega
        rw [decide_eq_true e1, Bool.true_and, Bool.eq_iff_iff]
        simp
        omega
      · have e1 : ¬ ks.length = 0 := by omega
        rw [decide_eq_false e1, Bool.false_and]
    · rw [if_neg h]
      refine ev_ite (fun h1 => ev_some ?_) (fun h1 => ev_some ?_)
      · have e1 : vs.length = 0 := by omega
        rw [decide_eq_true e1, Bool.true_and, Bool.eq_iff_iff]
        simp
        omega
      · have e1 : ¬ vs.length = 0 := by omega
        rw [decide_eq_false e1, Bool.false_and]
  | x :: r, p, e => by
    have hkl := S.cl
    have hlen : ks.length = p.length + (r.length + 1) := by rw [e, List.length_append, List.length_cons]
    have hx : rd ks (p.length : Int) = x := by rw [e]; exact rd_mid _ _ _
    have ih := rshape_c r (p ++ [x]) (by rw [e]; simp)
    have e4 : ((p.length + 1 : Nat) : Int) = (((p ++ [x]).length : Nat) : Int) := by simp
    refine ev_succ ?_
    simp only [munimentref09_Shaped.l2]
    rw [hx, wrapS (by omega), e4]
    refine ev_pos (by omega) (ev_pos (by omega) (ev_ite (fun h1 => ev_some ?_) (fun h1 => ev_ite (fun h2 => ev_some ?_) (fun h2 => ?_))))
    · have : ¬ 0 ≤ x := by omega
      simp [kidsOk, this]
    · have : ¬ x ≤ 2147483647 := by omega
      simp [kidsOk, this]
    · have q1 : 0 ≤ x := by omega
      have q2 : x ≤ 2147483647 := by omega
      have : kidsOk (x :: r) = kidsOk r := by simp [kidsOk, q1, q2]
      rw [this]
      exact ih
theorem rshape_v : ∀ (r p : List (List Int)), vs = p ++ r → Ev (fun k => munimentref09_Shaped.l1 k (p.length : Int) a l vs ks) (valsOk r && (kidsOk ks && if a = true then decide (ks.length = 0) && decide (vs.length = l.length) else decide (vs.length = 0) && decide (ks.length = l.length + 1)))
  | [], p, e => by
    refine ev_succ ?_
    simp only [munimentref09_Shaped.l1]
    refine ev_neg (by rw [e]; simp) ?_
    simpa [valsOk] using rshape_c (a := a) S ks [] rfl
  | x :: r, p, e => by
    have hkl := S.vl
    have hlen : vs.length = p.length + (r.length + 1) := by rw [e, List.length_append, List.length_cons]
    have hx : rd_L1 vs (p.length : Int) = x := by rw [e]; exact rdL_mid _ _ _
    have ih := rshape_v r (p ++ [x]) (by rw [e]; simp)
    have e4 : ((p.length + 1 : Nat) : Int) = (((p ++ [x]).length : Nat) : Int) := by simp
    refine ev_succ ?_
    simp only [munimentref09_Shaped.l1]
    rw [hx, wrapS (by omega), e4]
    refine ev_pos (by omega) (ev_pos (by omega) (ev_ite (fun h1 => ev_some ?_) (fun h1 => ?_)))
    · have : ¬ x.length ≤ 260 := by omega
      simp [valsOk, this]
    · have q1 : x.length ≤ 260 := by omega
      have : valsOk (x :: r) = valsOk r := by simp [valsOk, q1]
      rw [this]
      exact ih
theorem rshaped_loop : ∀ (r p : List (List Int)) (pr : Option (List Int)), l = p ++ r → pr = p.getLast? → Ev (fun k => munimentref09_Shaped.l0 k (p.length : Int) a l vs ks)
    (keysFrom pr r && (valsOk vs && (kidsOk ks && if a = true then decide (ks.length = 0) && decide (vs.length = l.length) else decide (vs.length = 0) && decide (ks.length = l.length + 1))))
  | [], p, pr, e, _ => by
    refine ev_succ ?_
    simp only [munimentref09_Shaped.l0]
    refine ev_neg (by rw [e]; simp) ?_
    simpa [keysFrom] using rshape_v (a := a) S vs [] rfl
  | x :: r, p, pr, e, hp => by
    have hkl := S.kl
    have hlen : l.length = p.length + (r.length + 1) := by rw [e, List.length_append, List.length_cons]
    have ih := rshaped_loop r (p ++ [x]) (some x) (by rw [e]; simp) (by simp)
    have hx : rd_L1 l (p.length : Int) = x := by rw [e]; exact rdL_mid _ _ _
    have e4 : ((p.length + 1 : Nat) : Int) = (((p ++ [x]).length : Nat) : Int) := by simp
    refine ev_succ ?_
    simp only [munimentref09_Shaped.l0]
    rw [hx, wrapS (by omega), e4]
    refine ev_pos (by omega) (ev_pos (by omega) ?_)
    unfold keysFrom
    refine ev_ite (fun h1 => ev_some ?_) (fun h1 => ev_ite (fun h2 => ev_some ?_) (fun h2 => ?_))
    · have : ¬ 1 ≤ x.length := by omega
      simp [this]
    · have : ¬ x.length ≤ 240 := by omega
      simp only [decide_eq_false this, Bool.and_false, Bool.false_and]
    · have q1 : 1 ≤ x.length := by omega
      have q2 : x.length ≤ 240 := by omega
      rw [decide_eq_true q1, decide_eq_true q2, Bool.true_and, Bool.true_and]
      refine ev_ite (fun hpos => ?_) (fun hpos => ?_)
      · have hp1 : wrap64 ((p.length : Int) - 1) = ((p.length - 1 : Nat) : Int) := by
          rw [wrap64_id (by omega) (by omega)]
          omega
        obtain ⟨p', y, rfl⟩ : ∃ p' y, p = p' ++ [y] := by
          refine ⟨p.dropLast, p.getLast (by intro c; rw [c] at hpos; simp at hpos), ?_⟩
          exact (List.dropLast_concat_getLast _).symm
        have hy : rd_L1 l (((p' ++ [y]).length - 1 : Nat) : Int) = y := by
          rw [e, List.length_append, List.length_singleton, Nat.add_sub_cancel, List.append_assoc]
          exact rdL_mid _ _ _
        have hly := (S.kb y (by rw [e]; simp)).1
        have hl2 : (p' ++ [y]).length = p'.length + 1 := by simp
        rw [hp1, hy, hp]
        have e1 : (p' ++ [y]).getLast? = some y := by simp
        rw [e1]
        refine ev_pos (by omega) (ev_pos (by omega) (ev_bind (bless_ev y x (by omega)) (ev_ite (fun h => ?_) (fun h => ev_some ?_))))
        · simp only [h, Bool.true_and]
          exact ih
        · simp only [Bool.not_eq_true] at h
          simp [h]
      · have hp0 : p = [] := List.length_eq_zero_iff.1 (by omega)
        subst hp0
        rw [hp]
        simpa using ih
theorem rshaped_ev : Ev (fun k => munimentref09_Shaped.f k a l vs ks) (shapedB a l vs ks) := by
  have h := rshaped_loop (a := a) S l [] none rfl rfl
  have e : (keysFrom none l && (valsOk vs && (kidsOk ks && if a = true then decide (ks.length = 0) && decide (vs.length = l.length) else decide (vs.length = 0) && decide (ks.length = l.length + 1)))) = shapedB a l vs ks := by
    unfold shapedB shape2
    congr 1
    cases a with
    | true =>
      simp only [if_true]
      by_cases h0 : ks = []
      · subst h0
        simp [kidsOk, Bool.and_comm]
      · have : ¬ ks.length = 0 := fun h => h0 (List.length_eq_zero_iff.1 h)
        simp [this]
    | false =>
      simp only [Bool.false_eq_true, if_false]
      by_cases h0 : vs = []
      · subst h0
        simp [valsOk, Bool.and_comm]
      · have : ¬ vs.length = 0 := fun h => h0 (List.length_eq_zero_iff.1 h)
        simp [this]
  rw [e] at h
  unfold munimentref09_Shaped.f
  exact h
end
end Go.Proofs.Ytmkcmfamdnjmdaa.Pl
