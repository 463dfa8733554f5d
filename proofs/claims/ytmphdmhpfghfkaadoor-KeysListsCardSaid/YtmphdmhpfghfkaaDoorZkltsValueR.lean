import Derived.Test.YtmphdmhpfghfkaaDoorZkltsValue
set_option linter.unusedSimpArgs false
set_option linter.unusedVariables false
namespace Go.Proofs.YtmphdmhpfghfkaaDoor.Pl
open Go.RowKit Go.Proofs.YtmphdmhpfghfkaaDoorW.PrintWords Go.Proofs.YtmphdmhpfghfkaaDoorW.PrintMore Go.Proofs.YtmphdmhpfghfkaaDoor.PK
theorem mn_int (a b : Int) : mn a b = min a b := by unfold mn; omega
theorem nodes_loop (m : Nat) (hm : m + 1 ≤ 40) (h : ∀ (n : Nat) (x : V), FineN n x → ∃ r : Int, 1 ≤ r ∧ r ≤ 1001 ∧ Ev (fun k => munimentref01_nodes.f k x.f0 x.f1 x.f2 x.f3 x.f4 (m : Int)) r)
    (n : Nat) (a0 a1 : Int) (a2 : ByteArray) (a3 : List ByteArray) (items : List V) (hi : items.length ≤ maxLen) (hf : ∀ x ∈ items, FineN n x) :
    ∀ (r p : List V) (acc : Int), items = p ++ r → 1 ≤ acc → acc ≤ 2001 → ∃ q : Int, 1 ≤ q ∧ q ≤ 1001 ∧ Ev (fun k => munimentref01_nodes.l0 k ((m + 1 : Nat) : Int) acc (p.length : Int) a0 a1 a2 a3 items) q
  | [], p, acc, e, h1, h2 => by
    refine ⟨mn acc 1001, by rw [mn_int]; omega, by rw [mn_int]; omega, ev_succ ?_⟩
    simp only [munimentref01_nodes.l0]
    exact ev_neg (by rw [e]; simp) (ev_some rfl)
  | x :: r, p, acc, e, h1, h2 => by
    have hl : items.length = p.length + (r.length + 1) := by rw [e, List.length_append, List.length_cons]
    by_cases hacc : acc ≤ 1000
    · obtain ⟨t, t1, t2, ht⟩ := h n x (hf x (by rw [e]; simp))
      obtain ⟨q, q1, q2, hq⟩ := nodes_loop m hm h n a0 a1 a2 a3 items hi hf r (p ++ [x]) (acc + t) (by rw [e]; simp) (by omega) (by omega)
      have hx : rd_T25 items (p.length : Int) = x := by rw [e]; exact rdV_mid _ _ _
      refine ⟨q, q1, q2, ev_succ ?_⟩
      simp only [munimentref01_nodes.l0]
      rw [hx, wrapN (by omega), show wrap64 (((m + 1 : Nat) : Int) - 1) = (m : Int) from by rw [wrap64_id (by omega) (by omega)]; omega]
      refine ev_pos (by omega) (ev_pos hacc (ev_pos (by omega) (ev_bind ht ?_)))
      rw [wrap64_id (x := acc + t) (by omega) (by omega)]
      simpa using hq
    · refine ⟨mn acc 1001, by rw [mn_int]; omega, by rw [mn_int]; omega, ev_succ ?_⟩
      simp only [munimentref01_nodes.l0]
      exact ev_pos (by omega) (ev_neg hacc (ev_some rfl))
theorem nodes_ev : ∀ (m n : Nat) (v : V), m ≤ 40 → FineN n v → ∃ r : Int, 1 ≤ r ∧ r ≤ 1001 ∧ Ev (fun k => munimentref01_nodes.f k v.f0 v.f1 v.f2 v.f3 v.f4 (m : Int)) r := by
  intro m
  induction m with
  | zero =>
    intro n v _ _
    refine ⟨1001, by omega, by omega, ev_succ ?_⟩
    simp only [munimentref01_nodes.f]
    exact ev_pos (by omega) (ev_some rfl)
  | succ m ih =>
    intro n v hm hv
    obtain ⟨n, rfl⟩ : ∃ q, n = q + 1 := ⟨n - 1, by cases n with | zero => exact hv.elim | succ n => rfl⟩
    obtain ⟨q, q1, q2, hq⟩ := nodes_loop m hm (fun n x hx => ih n x (by omega) hx) n v.f0 v.f1 v.f2 v.f3 v.f4 hv.2.2.2.2.2.1 hv.2.2.2.2.2.2 v.f4 [] 1 rfl (by omega) (by omega)
    refine ⟨q, q1, q2, ev_succ ?_⟩
    simp only [munimentref01_nodes.f]
    exact ev_neg (by omega) hq
theorem Nodes_ev {n : Nat} {v : V} (hv : FineN n v) : ∃ r : Int, 1 ≤ r ∧ r ≤ 1001 ∧ Ev (fun k => munimentref01_Nodes.f k v.f0 v.f1 v.f2 v.f3 v.f4) r := by
  obtain ⟨r, r1, r2, h⟩ := nodes_ev 40 n v (by omega) hv
  refine ⟨r, r1, r2, ?_⟩
  unfold munimentref01_Nodes.f
  exact ev_bind h (ev_some rfl)
theorem few_items (n : Nat) (h : ∀ x : V, FineN n x → ∃ b, Ev (fun k => munimentref01_Few.f k x.f0 x.f1 x.f2 x.f3 x.f4) b) (a0 a1 : Int) (a2 : ByteArray) (names : List ByteArray) (items : List V) (hi : items.length ≤ maxLen) (hf : ∀ x ∈ items, FineN n x) :
    ∀ (r p : List V), items = p ++ r → ∃ b, Ev (fun k => munimentref01_Few.l1 k (p.length : Int) a0 a1 a2 names items) b
  | [], p, e => by
    refine ⟨true, ev_succ ?_⟩
    simp only [munimentref01_Few.l1]
    exact ev_neg (by rw [e]; simp) (ev_some rfl)
  | x :: r, p, e => by
    have hl : items.length = p.length + (r.length + 1) := by rw [e, List.length_append, List.length_cons]
    obtain ⟨b, ih⟩ := few_items n h a0 a1 a2 names items hi hf r (p ++ [x]) (by rw [e]; simp)
    obtain ⟨c, hc⟩ := h x (hf x (by rw [e]; simp))
    have hx : rd_T25 items (p.length : Int) = x := by rw [e]; exact rdV_mid _ _ _
    refine ⟨if c = true then b else false, ev_succ ?_⟩
    simp only [munimentref01_Few.l1]
    rw [hx, wrapN (by omega)]
    refine ev_pos (by omega) (ev_pos (by omega) (ev_bind hc ?_))
    refine ev_ite (fun d => ?_) (fun d => ev_some (by rw [if_neg d]))
    rw [if_pos d]
    simpa using ih
theorem few_names (items : List V) (a0 a1 : Int) (a2 : ByteArray) (names : List ByteArray) (hn : names.length ≤ maxLen) (hq : ∃ b, Ev (fun k => munimentref01_Few.l1 k 0 a0 a1 a2 names items) b) :
    ∀ (r p : List ByteArray), names = p ++ r → ∃ b, Ev (fun k => munimentref01_Few.l0 k (p.length : Int) a0 a1 a2 names items) b
  | [], p, e => by
    obtain ⟨b, hb⟩ := hq
    refine ⟨b, ev_succ ?_⟩
    simp only [munimentref01_Few.l0]
    exact ev_neg (by rw [e]; simp) hb
  | x :: r, p, e => by
    have hl : names.length = p.length + (r.length + 1) := by rw [e, List.length_append, List.length_cons]
    obtain ⟨b, ih⟩ := few_names items a0 a1 a2 names hn hq r (p ++ [x]) (by rw [e]; simp)
    have hx : rdOf ByteArray.empty names (p.length : Int) = x := by rw [e]; exact rdS_mid _ _ _
    refine ⟨if (x.size : Int) > 1000 then false else b, ev_succ ?_⟩
    simp only [munimentref01_Few.l0]
    rw [hx, wrapN (by omega)]
    refine ev_pos (by omega) (ev_pos (by omega) (ev_ite (fun d => ev_some (by rw [if_pos d])) (fun d => ?_)))
    rw [if_neg d]
    simpa using ih
theorem few_ev : ∀ (n : Nat) (v : V), FineN n v → ∃ b, Ev (fun k => munimentref01_Few.f k v.f0 v.f1 v.f2 v.f3 v.f4) b := by
  intro n
  induction n with
  | zero => intro v hv; exact hv.elim
  | succ n ih =>
    intro v hv
    obtain ⟨r, r1, r2, hr⟩ := Nodes_ev hv
    obtain ⟨b, hb⟩ := few_names v.f4 v.f0 v.f1 v.f2 v.f3 hv.2.2.2.1 (few_items n ih v.f0 v.f1 v.f2 v.f3 v.f4 hv.2.2.2.2.2.1 hv.2.2.2.2.2.2 v.f4 [] rfl) v.f3 [] rfl
    have hj : ∀ c : Bool, Ev (fun k => munimentref01_Few.j0 k c v.f0 v.f1 v.f2 v.f3 v.f4) (if c = true then false else b) := by
      intro c
      refine ev_succ ?_
      simp only [munimentref01_Few.j0]
      refine ev_ite (fun d => ev_some (by rw [if_pos d])) (fun d => ?_)
      rw [if_neg d]
      exact hb
    have : ∃ c : Bool, Ev (fun k => if r > 300 then munimentref01_Few.j0 k true v.f0 v.f1 v.f2 v.f3 v.f4 else if (v.f3.length : Int) > 100 then munimentref01_Few.j0 k true v.f0 v.f1 v.f2 v.f3 v.f4 else munimentref01_Few.j0 k (decide ((v.f2.size : Int) > 1000)) v.f0 v.f1 v.f2 v.f3 v.f4) (if c = true then false else b) := by
      by_cases d1 : r > 300
      · exact ⟨true, ev_pos d1 (hj true)⟩
      · by_cases d2 : (v.f3.length : Int) > 100
        · exact ⟨true, ev_neg d1 (ev_pos d2 (hj true))⟩
        · exact ⟨_, ev_neg d1 (ev_neg d2 (hj _))⟩
    obtain ⟨c, hc⟩ := this
    refine ⟨if c = true then false else b, ev_succ ?_⟩
    simp only [munimentref01_Few.f]
    exact ev_bind hr hc
end Go.Proofs.YtmphdmhpfghfkaaDoor.Pl
