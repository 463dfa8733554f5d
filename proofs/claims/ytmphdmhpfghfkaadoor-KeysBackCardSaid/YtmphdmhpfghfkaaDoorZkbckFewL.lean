import Derived.Test.YtmphdmhpfghfkaaDoorZkbckValueR
import Derived.Test.YtmphdmhpfghfkaaDoorZkbckPKx9
set_option linter.unusedSimpArgs false
set_option linter.unusedVariables false
namespace Go.Proofs.YtmphdmhpfghfkaaDoor.Pl
open Go.RowKit Go.Proofs.YtmphdmhpfghfkaaDoorW.PrintWords Go.Proofs.YtmphdmhpfghfkaaDoorW.PrintMore Go.Proofs.YtmphdmhpfghfkaaDoor.PK
theorem fewL_loop (n : Nat) (l : List V) (hl : l.length ≤ maxLen) (hf : ∀ x ∈ l, FineN n x) : ∀ (r p : List V) (acc : Int), l = p ++ r → 0 ≤ acc → acc ≤ 1601 → ∃ b, Ev (fun k => munimentlaw04_few.l0 k l acc (p.length : Int)) b := by
  have stop : ∀ (acc i : Int), ∃ b, Ev (fun k => munimentlaw04_few.j1 k l acc i false) b := by
    intro acc i
    refine ⟨decide (acc ≤ 600), ev_succ ?_⟩
    simp only [munimentlaw04_few.j1]
    exact ev_neg (by simp) (ev_some rfl)
  intro r
  induction r with
  | nil =>
    intro p acc e a0 a1
    obtain ⟨b, hb⟩ := stop acc p.length
    refine ⟨b, ev_succ ?_⟩
    simp only [munimentlaw04_few.l0]
    exact ev_neg (by rw [e]; simp) hb
  | cons x r ih =>
    intro p acc e a0 a1
    have hlen : l.length = p.length + (r.length + 1) := by rw [e, List.length_append, List.length_cons]
    have hx : rd_T25 l (p.length : Int) = x := by rw [e]; exact rdV_mid _ _ _
    have fx := hf x (by rw [e]; simp)
    by_cases h6 : acc ≤ 600
    · obtain ⟨q, q1, q2, hq⟩ := Nodes_ev fx
      obtain ⟨c, hc⟩ := few_ev n x fx
      obtain ⟨b, hb⟩ := ih (p ++ [x]) (acc + q) (by rw [e]; simp) (by omega) (by omega)
      refine ⟨if c = true then b else false, ev_succ ?_⟩
      simp only [munimentlaw04_few.l0]
      refine ev_pos (by omega) ?_
      rw [show decide (acc ≤ 600) = true by simp [h6]]
      refine ev_succ ?_
      simp only [munimentlaw04_few.j1]
      rw [hx, wrapN (by omega)]
      refine ev_pos (by simp) (ev_pos (by omega) (ev_pos (by omega) (ev_bind hq (ev_bind hc (ev_ite (fun d => ?_) (fun d => ev_some (by rw [if_neg d])))))))
      rw [if_pos d, wrap64_id (by omega) (by omega)]
      simpa using hb
    · obtain ⟨b, hb⟩ := stop acc p.length
      refine ⟨b, ev_succ ?_⟩
      simp only [munimentlaw04_few.l0]
      refine ev_pos (by omega) ?_
      rw [show decide (acc ≤ 600) = false by simp [h6]]
      exact hb
theorem fewL_ev {n : Nat} {l : List V} (hl : l.length ≤ maxLen) (hf : ∀ x ∈ l, FineN n x) : ∃ b, Ev (fun k => munimentlaw04_few.f k l) b := by
  unfold munimentlaw04_few.f
  exact fewL_loop n l hl hf l [] 0 rfl (by omega) (by omega)
end Go.Proofs.YtmphdmhpfghfkaaDoor.Pl
