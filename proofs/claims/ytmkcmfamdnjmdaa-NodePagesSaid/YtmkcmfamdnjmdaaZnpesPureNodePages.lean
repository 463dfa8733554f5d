import Derived.Test.YtmkcmfamdnjmdaaZnpesNodeX
import Derived.Test.YtmkcmfamdnjmdaaZnpesPNx21
set_option linter.unusedSimpArgs false
set_option linter.unusedVariables false
namespace Go.Proofs.Ytmkcmfamdnjmdaa.Pl
open Go.RowKit Go.Proofs.YtmkcmfamdnjmdaaW.PrintWords Go.Proofs.YtmkcmfamdnjmdaaW.PrintMore Go.Proofs.Ytmkcmfamdnjmdaa.PN
theorem pad_len {b : List Int} (h : b.length ≤ 1024) : (pad b).length = 1024 := by unfold pad; rw [List.length_append, List.length_replicate]; omega
theorem nodePages_ev (a : Bool) (l vs : List (List Int)) (ks : List Int) (hl : Op.Rows8 l) (hv : Op.Rows8 vs) : Ev (fun k => munimentlaw09_NodePages.f k a l vs ks) true := by
  have no : Ev (fun k => munimentlaw09_NodePages.j0 k true a l vs ks) true := by
    refine ev_succ ?_
    simp only [munimentlaw09_NodePages.j0]
    exact ev_pos trivial (ev_bind nawake_ev (ev_some rfl))
  obtain ⟨c, hc, hc2⟩ := nsmall_ev a l vs ks hl hv
  unfold munimentlaw09_NodePages.f
  refine ev_bind nawake_ev (ev_pos rfl (ev_bind0 (b := (a, l, vs, ks)) rfl (ev_bind hc ?_)))
  cases c with
  | false => exact no
  | true =>
    have S : Small l vs ks := hc2 rfl
    refine ev_succ ?_
    simp only [munimentlaw09_NodePages.j0]
    refine ev_neg (by simp) (ev_bind (write_ev S) (ev_bind0 (b := (a, l, vs, ks)) rfl (ev_bind (rwrite_ev S) (ev_pos rfl (ev_bind (bsame_ev _ _ ?_) (ev_some (by simp)))))))
    unfold writeN
    split
    · rename_i hf
      rw [pad_len (by rw [body_len]; exact (Frm.of hf).size)]
      omega
    · simp
end Go.Proofs.Ytmkcmfamdnjmdaa.Pl
