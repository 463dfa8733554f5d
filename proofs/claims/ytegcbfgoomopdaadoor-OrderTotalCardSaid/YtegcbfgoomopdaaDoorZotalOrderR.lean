import Derived.Test.YtegcbfgoomopdaaDoorZotalOrder
import Derived.Test.YtegcbfgoomopdaaDoorZotalPOx0
import Derived.Test.YtegcbfgoomopdaaDoorZotalPOx5
import Derived.Test.YtegcbfgoomopdaaDoorZotalPOx7
import Derived.Test.YtegcbfgoomopdaaDoorZotalPOx14
set_option linter.unusedSimpArgs false
set_option linter.unusedVariables false
namespace Go.Proofs.YtegcbfgoomopdaaDoor.Pl
open Go.RowKit Go.Proofs.YtegcbfgoomopdaaDoorW.PrintWords Go.Proofs.YtegcbfgoomopdaaDoorW.PrintMore Go.Proofs.YtegcbfgoomopdaaDoor.PO
theorem few3_loop (n : Nat) (l : List V) (hl : l.length ≤ maxLen) (hf : ∀ x ∈ l, FineN n x) : ∀ (r p : List V) (acc : Int), l = p ++ r → 0 ≤ acc → acc ≤ 1601 → ∃ b, Ev (fun k => munimentlaw03_few.l0 k l acc (p.length : Int)) b := by
  have stop : ∀ (acc i : Int), ∃ b, Ev (fun k => munimentlaw03_few.j1 k l acc i false) b := by
    intro acc i
    refine ⟨decide (acc ≤ 600), ev_succ ?_⟩
    simp only [munimentlaw03_few.j1]
    exact ev_neg (by simp) (ev_some rfl)
  intro r
  induction r with
  | nil =>
    intro p acc e a0 a1
    obtain ⟨b, hb⟩ := stop acc p.length
    refine ⟨b, ev_succ ?_⟩
    simp only [munimentlaw03_few.l0]
    exact ev_neg (by rw [e]; simp) hb
  | cons x r ih =>
    intro p acc e a0 a1
    have hlen : l.length = p.length + (r.length + 1) := by rw [e, List.length_append, List.length_cons]
    have hx : rd_T30 l (p.length : Int) = x := by rw [e]; exact rdV_mid _ _ _
    have fx := hf x (by rw [e]; simp)
    by_cases h6 : acc ≤ 600
    · obtain ⟨q, q1, q2, hq⟩ := Nodes_ev fx
      obtain ⟨c, hc⟩ := few_ev n x fx
      obtain ⟨b, hb⟩ := ih (p ++ [x]) (acc + q) (by rw [e]; simp) (by omega) (by omega)
      refine ⟨if c = true then b else false, ev_succ ?_⟩
      simp only [munimentlaw03_few.l0]
      refine ev_pos (by omega) ?_
      rw [show decide (acc ≤ 600) = true by simp [h6]]
      refine ev_succ ?_
      simp only [munimentlaw03_few.j1]
      rw [hx, wrapN (by omega)]
      refine ev_pos (by simp) (ev_pos (by omega) (ev_pos (by omega) (ev_bind hq (ev_bind hc (ev_ite (fun d => ?_) (fun d => ev_some (by rw [if_neg d])))))))
      rw [if_pos d, wrap64_id (by omega) (by omega)]
      simpa using hb
    · obtain ⟨b, hb⟩ := stop acc p.length
      refine ⟨b, ev_succ ?_⟩
      simp only [munimentlaw03_few.l0]
      refine ev_pos (by omega) ?_
      rw [show decide (acc ≤ 600) = false by simp [h6]]
      exact hb
theorem few3_ev {n : Nat} {l : List V} (hl : l.length ≤ maxLen) (hf : ∀ x ∈ l, FineN n x) : ∃ b, Ev (fun k => munimentlaw03_few.f k l) b := by
  unfold munimentlaw03_few.f
  exact few3_loop n l hl hf l [] 0 rfl (by omega) (by omega)
theorem fm_leaf (i x : Int) (h0 : 0 ≤ i) (h5 : i < 5) (h3 : i = 3 ∨ x = 0) (n : Nat) : fm (n + 1) ⟨i, x, ⟨#[]⟩, [], []⟩ = true := by
  have e : textB ⟨#[]⟩ = true := by
    unfold textB
    rfl
  have e2 : (⟨#[]⟩ : ByteArray).toList = [] := by rw [ByteArray.toList_eq]
  have e3 : (decide (i = 3) || decide (x = 0)) = true := by simpa using h3
  simp only [fm, shallow, e, e2, e3, List.all_nil, Bool.and_true]
  simp [h5]
  omega
theorem fine_leaf (i x : Int) (hi : (Lit.int .i64 i).wf = true) (hx : (Lit.int .i64 x).wf = true) : FineN 1 ⟨i, x, ⟨#[]⟩, [], []⟩ :=
  ⟨hi, hx, Nat.zero_le _, Nat.zero_le _, fun _ h => by simp at h, Nat.zero_le _, fun _ h => by simp at h⟩
theorem awake3_ev : Ev (fun k => munimentlaw03_awake.f k) true := by
  unfold munimentlaw03_awake.f
  have f2 := fine_leaf 2 0 (by decide) (by decide)
  have f3 := fine_leaf 3 0 (by decide) (by decide)
  refine ev_bind (Compare_ev f2 f3) (ev_some ?_)
  unfold cmpF
  rw [if_pos ⟨fm_leaf 2 0 (by omega) (by omega) (by omega) 5, fm_leaf 3 0 (by omega) (by omega) (by omega) 5⟩]
  rfl
end Go.Proofs.YtegcbfgoomopdaaDoor.Pl
