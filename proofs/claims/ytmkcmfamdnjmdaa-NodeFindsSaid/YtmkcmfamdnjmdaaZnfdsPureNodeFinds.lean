import Derived.Test.YtmkcmfamdnjmdaaZnfdsNodeF
import Derived.Test.YtmkcmfamdnjmdaaZnfdsPNx11
set_option linter.unusedSimpArgs false
set_option linter.unusedVariables false
namespace Go.Proofs.Ytmkcmfamdnjmdaa.Pl
open Go.RowKit Go.Proofs.YtmkcmfamdnjmdaaW.PrintWords Go.Proofs.YtmkcmfamdnjmdaaW.PrintMore Go.Proofs.Ytmkcmfamdnjmdaa.PN
theorem nodeFinds_ev (a : Bool) (l vs : List (List Int)) (ks key : List Int) (hl : Op.Rows8 l) (hv : Op.Rows8 vs) (hk : Bytes key) (hkl : key.length ≤ maxLen) : Ev (fun k => munimentlaw09_NodeFinds.f k a l vs ks key) true := by
  have no : Ev (fun k => munimentlaw09_NodeFinds.j0 k key true a l vs ks) true := by
    refine ev_succ ?_
    simp only [munimentlaw09_NodeFinds.j0]
    exact ev_pos trivial (ev_bind nawake_ev (ev_some rfl))
  obtain ⟨c, hc, hc2⟩ := nfew_ev a l vs ks hl.1 hv.1
  unfold munimentlaw09_NodeFinds.f
  refine ev_bind nawake_ev (ev_pos rfl (ev_bind0 (b := (a, l, vs, ks)) rfl (ev_bind hc (ev_ite (fun h => ?_) (fun _ => no)))))
  have h3 := hc2 h
  by_cases h : (key.length : Int) > 1000
  · rw [show decide ((key.length : Int) > 1000) = true by simpa using h]
    exact no
  · rw [show decide ((key.length : Int) > 1000) = false by simpa using h]
    refine ev_succ ?_
    simp only [munimentlaw09_NodeFinds.j0]
    refine ev_neg (by simp) (ev_bind (find_ev l key a vs ks hl.1 (bb_of hl) hk (by omega)) (ev_bind0 (b := (a, l, vs, ks)) rfl (ev_bind (rfind_ev l key a vs ks hl.1 (bb_of hl) hk hkl (fun x hx => (hl.2 x hx).1)) (ev_pos rfl (ev_some (by simp))))))
end Go.Proofs.Ytmkcmfamdnjmdaa.Pl
