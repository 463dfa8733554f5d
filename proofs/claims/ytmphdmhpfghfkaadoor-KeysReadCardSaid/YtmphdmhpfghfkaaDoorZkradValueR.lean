import Derived.Test.YtmphdmhpfghfkaaDoorZkradValue
set_option linter.unusedSimpArgs false
set_option linter.unusedVariables false
namespace Go.Proofs.YtmphdmhpfghfkaaDoor.Pl
open Go.RowKit Go.Proofs.YtmphdmhpfghfkaaDoorW.PrintWords Go.Proofs.YtmphdmhpfghfkaaDoorW.PrintMore Go.Proofs.YtmphdmhpfghfkaaDoor.PK
def maxL (f : V → Nat) : List V → Nat
  | [] => 0
  | x :: l => max (f x) (maxL f l)
def dep : Nat → V → Nat
  | 0, _ => 1
  | m + 1, v => if (v.f0 = 5 ∨ v.f0 = 6) ∧ m ≠ 0 then maxL (dep m) v.f4 + 1 else 1
theorem maxL_le {f : V → Nat} {b : Nat} : ∀ l : List V, (maxL f l ≤ b ↔ ∀ x ∈ l, f x ≤ b)
  | [] => by simp [maxL]
  | x :: l => by
    have ih := maxL_le (f := f) (b := b) l
    simp only [maxL, List.mem_cons, forall_eq_or_imp]
    rw [← ih]
    omega
theorem dep_le : ∀ (m : Nat) (v : V), dep (m + 1) v ≤ m + 1
  | 0, v => by simp [dep]
  | m + 1, v => by
    unfold dep
    split
    · have := (maxL_le (f := dep (m + 1)) (b := m + 1) v.f4).2 (fun x _ => dep_le m x)
      omega
    · omega
theorem mx_nat (a b : Nat) : mx (a : Int) (b : Int) = ((max a b : Nat) : Int) := by unfold mx; omega
theorem depth_loop (m : Nat) (hm : m ≤ 6) (h : ∀ (n : Nat) (x : V), FineN n x → Ev (fun k => munimentref01_depth.f k x.f0 x.f1 x.f2 x.f3 x.f4 ((m + 1 : Nat) : Int)) (dep (m + 1) x : Int))
    (n : Nat) (a0 a1 : Int) (a2 : ByteArray) (a3 : List ByteArray) (items : List V) (hi : items.length ≤ maxLen) (hf : ∀ x ∈ items, FineN n x) :
    ∀ (r p : List V) (acc : Nat), items = p ++ r → acc ≤ 7 → Ev (fun k => munimentref01_depth.l0 k ((m + 2 : Nat) : Int) (acc : Int) (p.length : Int) a0 a1 a2 a3 items) ((max acc (maxL (dep (m + 1)) r) + 1 : Nat) : Int)
  | [], p, acc, e, ha => by
    refine ev_succ ?_
    simp only [munimentref01_depth.l0]
    refine ev_neg (by rw [e]; simp) (ev_some ?_)
    rw [wrap64_id (by omega) (by omega)]
    simp [maxL]
  | x :: r, p, acc, e, ha => by
    have hl : items.length = p.length + (r.length + 1) := by rw [e, List.length_append, List.length_cons]
    have hd := dep_le m x
    have ih := depth_loop m hm h n a0 a1 a2 a3 items hi hf r (p ++ [x]) (max acc (dep (m + 1) x)) (by rw [e]; simp) (by omega)
    have hx : rd_T25 items (p.length : Int) = x := by rw [e]; exact rdV_mid _ _ _
    refine ev_succ ?_
    simp only [munimentref01_depth.l0]
    rw [hx, wrapN (by omega), show wrap64 (((m + 2 : Nat) : Int) - 1) = ((m + 1 : Nat) : Int) from by rw [wrap64_id (by omega) (by omega)]; omega]
    refine ev_pos (by omega) (ev_pos (by omega) (ev_bind (h n x (hf x (by rw [e]; simp))) ?_))
    rw [mx_nat]
    simp only [maxL]
    rw [show max acc (max (dep (m + 1) x) (maxL (dep (m + 1)) r)) = max (max acc (dep (m + 1) x)) (maxL (dep (m + 1)) r) by omega]
    simpa using ih
theorem rdepth_ev : ∀ (m n : Nat) (v : V), m ≤ 6 → FineN n v → Ev (fun k => munimentref01_depth.f k v.f0 v.f1 v.f2 v.f3 v.f4 ((m + 1 : Nat) : Int)) (dep (m + 1) v : Int) := by
  intro m
  induction m with
  | zero =>
    intro n v _ hv
    have h1 : Ev (fun k => munimentref01_depth.j0 k ((0 + 1 : Nat) : Int) true v.f0 v.f1 v.f2 v.f3 v.f4) (dep (0 + 1) v : Int) := by
      refine ev_succ ?_
      simp only [munimentref01_depth.j0]
      exact ev_pos (by simp) (ev_some (by simp [dep]))
    refine ev_succ ?_
    simp only [munimentref01_depth.f]
    exact ev_ite (fun _ => h1) (fun _ => ev_ite (fun _ => h1) (fun _ => h1))
  | succ m ih =>
    intro n v hm hv
    obtain ⟨n, rfl⟩ : ∃ q, n = q + 1 := ⟨n - 1, by cases n with | zero => exact hv.elim | succ n => rfl⟩
    have e1 : (((m + 1 + 1 : Nat) : Int) == 1) = false := by rw [beq_eq_false_iff_ne]; omega
    have h1 : (v.f0 = 5 ∨ v.f0 = 6) → Ev (fun k => munimentref01_depth.j0 k ((m + 1 + 1 : Nat) : Int) false v.f0 v.f1 v.f2 v.f3 v.f4) (dep (m + 1 + 1) v : Int) := by
      intro hc
      refine ev_succ ?_
      simp only [munimentref01_depth.j0]
      refine ev_neg (by simp) ?_
      have := depth_loop m (by omega) (fun n x hx => ih n x (by omega) hx) n v.f0 v.f1 v.f2 v.f3 v.f4 hv.2.2.2.2.2.1 hv.2.2.2.2.2.2 v.f4 [] 0 rfl (by omega)
      have e2 : dep (m + 1 + 1) v = max 0 (maxL (dep (m + 1)) v.f4) + 1 := by
        rw [dep, if_pos ⟨hc, by omega⟩]; omega
      rw [e2]
      exact this
    refine ev_succ ?_
    simp only [munimentref01_depth.f]
    rw [e1]
    refine ev_ite (fun h => h1 (.inl h)) (fun h => ev_ite (fun h' => h1 (.inr h')) (fun h' => ?_))
    refine ev_succ ?_
    simp only [munimentref01_depth.j0]
    exact ev_pos (by simp) (ev_some (by rw [dep, if_neg (by simp [h, h'])]; rfl))
theorem rnames_loop (items : List V) (a0 a1 : Int) (a2 : ByteArray) (names : List ByteArray) (hn : names.length ≤ maxLen) (q : Bool)
    (hq : Ev (fun k => munimentref01_formed.l1 k 0 a0 a1 a2 names items) q) :
    ∀ (r p : List ByteArray) (pr : Option ByteArray), names = p ++ r → pr = p.getLast? → Ev (fun k => munimentref01_formed.l0 k (p.length : Int) a0 a1 a2 names items) (namesFrom pr r && q)
  | [], p, pr, e, _ => by
    refine ev_succ ?_
    simp only [munimentref01_formed.l0]
    refine ev_neg (by rw [e]; simp) ?_
    simpa [namesFrom] using hq
  | x :: r, p, pr, e, hp => by
    have hl : names.length = p.length + (r.length + 1) := by rw [e, List.length_append, List.length_cons]
    have ih := rnames_loop items a0 a1 a2 names hn q hq r (p ++ [x]) (some x) (by rw [e]; simp) (by simp)
    have hx : rdOf ByteArray.empty names (p.length : Int) = x := by rw [e]; exact rdS_mid _ _ _
    refine ev_succ ?_
    simp only [munimentref01_formed.l0]
    rw [hx, wrapN (by omega)]
    refine ev_pos (by omega) (ev_pos (by omega) (ev_bind0 (rtext_eq x) ?_))
    unfold namesFrom
    refine ev_ite (fun ht => ?_) (fun ht => ?_)
    · refine ev_ite (fun hpos => ?_) (fun hpos => ?_)
      · have hp1 : wrap64 ((p.length : Int) - 1) = ((p.length - 1 : Nat) : Int) := by
          unfold maxLen at hn
          rw [wrap64_id (by omega) (by omega)]
          omega
        obtain ⟨p', y, rfl⟩ : ∃ p' y, p = p' ++ [y] := by
          refine ⟨p.dropLast, p.getLast (by intro c; rw [c] at hpos; simp at hpos), ?_⟩
          exact (List.dropLast_concat_getLast _).symm
        have hy : rdOf ByteArray.empty names (((p' ++ [y]).length - 1 : Nat) : Int) = y := by
          rw [e, List.length_append, List.length_singleton, Nat.add_sub_cancel, List.append_assoc]
          exact rdS_mid _ _ _
        rw [hp1]
        rw [hp]
        refine ev_pos (by omega) (ev_pos (by simp at hl ⊢; omega) ?_)
        rw [hy]
        refine ev_ite (fun hlt => ?_) (fun hlt => ev_some ?_)
        · have e1 : (p' ++ [y]).getLast? = some y := by simp
          rw [e1, ht]
          have e2 : lessB y x = true := hlt
          simp only [e2, Bool.true_and]
          have e4 : (((p' ++ [y]).length + 1 : Nat) : Int) = ((((p' ++ [y]) ++ [x]).length : Nat) : Int) := by rw [List.length_append (bs := [x])]; rfl
          rw [e4]
          exact ih
        · have e1 : (p' ++ [y]).getLast? = some y := by simp
          rw [e1]
          have e2 : lessB y x = false := by simpa [lessB] using hlt
          simp [e2]
      · have hp0 : p = [] := List.length_eq_zero_iff.1 (by omega)
        subst hp0
        rw [hp, ht]
        simpa using ih
    · simp only [Bool.not_eq_true] at ht
      exact ev_some (by simp [ht])
theorem ritems_loop (n : Nat) (h : ∀ x : V, FineN n x → Ev (fun k => munimentref01_formed.f k x.f0 x.f1 x.f2 x.f3 x.f4) (fm n x)) (a0 a1 : Int) (a2 : ByteArray) (names : List ByteArray) (items : List V) (hi : items.length ≤ maxLen) (hf : ∀ x ∈ items, FineN n x) :
    ∀ (r p : List V), items = p ++ r → Ev (fun k => munimentref01_formed.l1 k (p.length : Int) a0 a1 a2 names items) (r.all (fm n))
  | [], p, e => by
    refine ev_succ ?_
    simp only [munimentref01_formed.l1]
    exact ev_neg (by rw [e]; simp) (ev_some rfl)
  | x :: r, p, e => by
    have hl : items.length = p.length + (r.length + 1) := by rw [e, List.length_append, List.length_cons]
    have ih := ritems_loop n h a0 a1 a2 names items hi hf r (p ++ [x]) (by rw [e]; simp)
    have hx : rd_T25 items (p.length : Int) = x := by rw [e]; exact rdV_mid _ _ _
    refine ev_succ ?_
    simp only [munimentref01_formed.l1]
    rw [hx, wrapN (by omega)]
    refine ev_pos (by omega) (ev_pos (by omega) (ev_bind (h x (hf x (by rw [e]; simp))) ?_))
    rw [List.all_cons]
    refine ev_ite (fun c => ?_) (fun c => ev_some ?_)
    · rw [c, Bool.true_and]
      simpa using ih
    · simp only [Bool.not_eq_true] at c
      rw [c]; rfl
theorem rformed_ev : ∀ (n : Nat) (v : V), FineN n v → Ev (fun k => munimentref01_formed.f k v.f0 v.f1 v.f2 v.f3 v.f4) (fm n v) := by
  intro n
  induction n with
  | zero => intro v hv; exact hv.elim
  | succ n ih =>
    intro v hv
    obtain ⟨w0, w1, w2, w3, w4, w5, w6⟩ := hv
    have bad0 : shallow v = false → Ev (fun k => munimentref01_formed.j0 k true v.f0 v.f1 v.f2 v.f3 v.f4) (fm (n + 1) v) := by
      intro hs
      refine ev_succ ?_
      simp only [munimentref01_formed.j0]
      exact ev_pos (by simp) (ev_some (by simp [fm, hs]))
    have bad1 : shallow v = false → Ev (fun k => munimentref01_formed.j1 k true v.f0 v.f1 v.f2 v.f3 v.f4) (fm (n + 1) v) := by
      intro hs
      refine ev_succ ?_
      simp only [munimentref01_formed.j1]
      exact ev_pos (by simp) (ev_some (by simp [fm, hs]))
    have bad2 : shallow v = false → Ev (fun k => munimentref01_formed.j2 k true v.f0 v.f1 v.f2 v.f3 v.f4) (fm (n + 1) v) := by
      intro hs
      refine ev_succ ?_
      simp only [munimentref01_formed.j2]
      exact ev_pos (by simp) (ev_some (by simp [fm, hs]))
    have good : 0 ≤ v.f0 → v.f0 ≤ 6 → (v.f0 = 3 ∨ v.f1 = 0) → (v.f0 = 4 ∨ v.f2.toList = []) → Ev (fun k => munimentref01_formed.j0 k false v.f0 v.f1 v.f2 v.f3 v.f4) (fm (n + 1) v) := by
      intro g0 g1 g2 g3
      have hsh : shallow v = (textB v.f2 && if v.f0 < 5 then decide (v.f4.length = 0) && decide (v.f3.length = 0) else decide (v.f4.length ≤ 24) && decide (v.f3.length = if v.f0 = 6 then v.f4.length else 0) && namesFrom none v.f3) := by
        unfold shallow
        have e2 : (decide (v.f0 = 3) || decide (v.f1 = 0)) = true := by simpa using g2
        have e3 : (decide (v.f0 = 4) || decide (v.f2.toList = [])) = true := by simpa using g3
        rw [e2, e3]
        simp [g0, g1]
      have last : (v.f0 = 6 → v.f3.length = v.f4.length) → (v.f0 ≠ 6 → v.f3.length = 0) → (v.f0 < 5 → v.f4.length = 0) → v.f4.length ≤ 24 → textB v.f2 = true → Ev (fun k => munimentref01_formed.l0 k 0 v.f0 v.f1 v.f2 v.f3 v.f4) (fm (n + 1) v) := by
        intro k1 k2 k3 k4 k5
        have hit := ritems_loop n ih v.f0 v.f1 v.f2 v.f3 v.f4 w5 w6 v.f4 [] rfl
        have := rnames_loop v.f4 v.f0 v.f1 v.f2 v.f3 w3 _ hit v.f3 [] none rfl rfl
        have e : fm (n + 1) v = (namesFrom none v.f3 && v.f4.all (fm n)) := by
          simp only [fm]
          rw [hsh, k5, Bool.true_and]
          by_cases h5 : v.f0 < 5
          · have hi : v.f4 = [] := List.length_eq_zero_iff.1 (k3 h5)
            have hn : v.f3 = [] := List.length_eq_zero_iff.1 (k2 (by omega))
            rw [if_pos h5, hi, hn]
            rfl
          · rw [if_neg h5]
            by_cases h6 : v.f0 = 6
            · rw [if_pos h6]
              simp [k4, k1 h6]
            · rw [if_neg h6]
              simp [k4, k2 h6]
        rw [e]
        exact this
      have mid : ∀ b : Bool, b = textB v.f2 → (v.f0 ≠ 6 → v.f3.length = 0) → (v.f0 < 5 → v.f4.length = 0) → v.f4.length ≤ 24 → Ev (fun k => munimentref01_formed.j1 k (!b) v.f0 v.f1 v.f2 v.f3 v.f4) (fm (n + 1) v) := by
        intro b hb k2 k3 k4
        cases b with
        | false => exact bad1 (by rw [hsh, ← hb]; rfl)
        | true =>
          refine ev_succ ?_
          simp only [munimentref01_formed.j1]
          refine ev_neg (by simp) (ev_ite (fun h6 => ?_) (fun h6 => ?_))
          · by_cases hnm : v.f3.length = v.f4.length
            · have e1 : ((v.f3.length : Int) != (v.f4.length : Int)) = false := by rw [hnm]; simp
              rw [e1]
              refine ev_succ ?_
              simp only [munimentref01_formed.j2]
              exact ev_neg (by simp) (last (fun _ => hnm) k2 k3 k4 hb.symm)
            · have e1 : ((v.f3.length : Int) != (v.f4.length : Int)) = true := by rw [bne_iff_ne]; omega
              rw [e1]
              refine bad2 ?_
              rw [hsh, if_neg (by omega), if_pos h6]
              simp [hnm]
          · refine ev_succ ?_
            simp only [munimentref01_formed.j2]
            exact ev_neg (by simp) (last (fun h => absurd h h6) k2 k3 k4 hb.symm)
      have sizes : (v.f0 ≠ 6 → v.f3.length = 0) → Ev (fun k => if v.f0 < 5 then (if (v.f4.length : Int) > 0 then munimentref01_formed.j1 k true v.f0 v.f1 v.f2 v.f3 v.f4 else (if (v.f4.length : Int) > 24 then munimentref01_formed.j1 k true v.f0 v.f1 v.f2 v.f3 v.f4 else (munimentref01_text.f v.f2).bind fun t => munimentref01_formed.j1 k (!t) v.f0 v.f1 v.f2 v.f3 v.f4)) else (if (v.f4.length : Int) > 24 then munimentref01_formed.j1 k true v.f0 v.f1 v.f2 v.f3 v.f4 else (munimentref01_text.f v.f2).bind fun t => munimentref01_formed.j1 k (!t) v.f0 v.f1 v.f2 v.f3 v.f4)) (fm (n + 1) v) := by
        intro k2
        refine ev_ite (fun h5 => ?_) (fun h5 => ?_)
        · refine ev_ite (fun hi => bad1 (by rw [hsh, if_pos h5]; have : ¬ v.f4.length = 0 := by omega
                                            simp [this])) (fun hi => ?_)
          refine ev_neg (by omega) (ev_bind0 (rtext_eq _) (mid _ rfl k2 (fun _ => by omega) (by omega)))
        · refine ev_ite (fun hi => bad1 (by rw [hsh, if_neg h5]; have : ¬ v.f4.length ≤ 24 := by omega
                                            simp [this])) (fun hi => ?_)
          exact ev_bind0 (rtext_eq _) (mid _ rfl k2 (fun h => absurd h h5) (by omega))
      refine ev_succ ?_
      simp only [munimentref01_formed.j0]
      refine ev_neg (by simp) (ev_ite (fun h6 => sizes (fun h => absurd h6 h)) (fun h6 => ?_))
      refine ev_ite (fun hn => bad1 ?_) (fun hn => sizes (fun _ => by omega))
      rw [hsh]
      have : ¬ v.f3.length = 0 := by omega
      by_cases h5 : v.f0 < 5
      · simp [h5, this]
      · rw [if_neg h5, if_neg h6]
        simp [this]
    have txt : 0 ≤ v.f0 → v.f0 ≤ 6 → (v.f0 = 3 ∨ v.f1 = 0) → ¬ v.f0 = 4 → Ev (fun k => munimentref01_formed.j0 k (v.f2.toList != ([] : List UInt8)) v.f0 v.f1 v.f2 v.f3 v.f4) (fm (n + 1) v) := by
      intro g0 g1 g2 g4
      by_cases he : v.f2.toList = []
      · have e1 : (v.f2.toList != ([] : List UInt8)) = false := by rw [he]; rfl
        rw [e1]
        exact good g0 g1 g2 (.inr he)
      · have e1 : (v.f2.toList != ([] : List UInt8)) = true := by rw [bne_iff_ne]; exact he
        rw [e1]
        exact bad0 (by simp [shallow, g4, he])
    refine ev_succ ?_
    simp only [munimentref01_formed.f]
    refine ev_ite (fun h => bad0 (by simp [shallow]; omega)) (fun h0 => ?_)
    refine ev_ite (fun h => bad0 (by simp [shallow]; omega)) (fun h6 => ?_)
    refine ev_ite (fun h3 => ev_ite (fun h4 => by omega) (fun h4 => txt (by omega) (by omega) (.inl h3) h4)) (fun h3 => ?_)
    refine ev_ite (fun h1 => ?_) (fun h1 => bad0 (by simp [shallow, h3, h1]))
    exact ev_ite (fun h4 => good (by omega) (by omega) (.inr h1) (.inl h4)) (fun h4 => txt (by omega) (by omega) (.inr h1) h4)
theorem fm_dep : ∀ (L n : Nat) (v : V), FineN n v → fm L v = (decide (dep (L + 1) v ≤ L) && fm n v)
  | 0, n, v, _ => by simp [fm, dep]
  | L + 1, 0, v, h => h.elim
  | L + 1, n + 1, v, h => by
    simp only [fm]
    cases hs : shallow v with
    | false => simp
    | true =>
      rw [Bool.true_and, Bool.true_and]
      by_cases hc : v.f0 = 5 ∨ v.f0 = 6
      · have e : dep (L + 1 + 1) v = maxL (dep (L + 1)) v.f4 + 1 := by rw [dep, if_pos ⟨hc, by omega⟩]
        rw [e, Bool.eq_iff_iff]
        simp only [List.all_eq_true, Bool.and_eq_true, decide_eq_true_eq, Nat.add_le_add_iff_right, maxL_le]
        constructor
        · intro hx
          exact ⟨fun x hm => by have := hx x hm; rw [fm_dep L n x (h.2.2.2.2.2.2 x hm)] at this; simp at this; exact this.1,
            fun x hm => by have := hx x hm; rw [fm_dep L n x (h.2.2.2.2.2.2 x hm)] at this; simp at this; exact this.2⟩
        · rintro ⟨h1, h2⟩ x hm
          rw [fm_dep L n x (h.2.2.2.2.2.2 x hm)]
          simp [h1 x hm, h2 x hm]
      · have hi : v.f4 = [] := by
          unfold shallow at hs
          have h5 : v.f0 < 5 := by simp at hs; omega
          rw [if_pos h5] at hs
          simp only [Bool.and_eq_true, decide_eq_true_eq] at hs
          exact List.length_eq_zero_iff.1 hs.2.1
        have e : dep (L + 1 + 1) v = 1 := by rw [dep, if_neg (fun c => hc c.1)]
        rw [e, hi]
        simp
theorem rFormed_ev {n : Nat} {v : V} (hv : FineN n v) : Ev (fun k => munimentref01_Formed.f k v.f0 v.f1 v.f2 v.f3 v.f4) (fm 6 v) := by
  unfold munimentref01_Formed.f munimentref01_Depth.f
  refine ev_bind (ev_bind (rdepth_ev 6 n v (by omega) hv) (ev_some rfl)) ?_
  rw [fm_dep 6 n v hv]
  refine ev_ite (fun h => ev_bind (rformed_ev n v hv) (ev_some ?_)) (fun h => ev_some ?_)
  · have : dep (6 + 1) v ≤ 6 := by omega
    simp [this]
  · have : ¬ dep (6 + 1) v ≤ 6 := by omega
    simp [this]
end Go.Proofs.YtmphdmhpfghfkaaDoor.Pl
