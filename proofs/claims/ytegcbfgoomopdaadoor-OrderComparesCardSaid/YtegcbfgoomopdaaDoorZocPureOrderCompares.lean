import Derived.Test.YtegcbfgoomopdaaDoorZocOrderR
import Derived.Test.YtegcbfgoomopdaaDoorZocPOx15
set_option linter.unusedSimpArgs false
set_option linter.unusedVariables false
namespace Go.Proofs.YtegcbfgoomopdaaDoor.Pl
open Go.RowKit Go.Proofs.YtegcbfgoomopdaaDoorW.PrintWords Go.Proofs.YtegcbfgoomopdaaDoorW.PrintMore Go.Proofs.YtegcbfgoomopdaaDoor.PO
theorem orderCompares_ev {n m : Nat} (a b : V) (ha : FineN n a) (hb : FineN m b) : Ev (fun k => munimentlaw03_OrderCompares.f k a.f0 a.f1 a.f2 a.f3 a.f4 b.f0 b.f1 b.f2 b.f3 b.f4) true := by
  have hj : ∀ c : Bool, Ev (fun k => munimentlaw03_OrderCompares.j0 k c a.f0 a.f1 a.f2 a.f3 a.f4 b.f0 b.f1 b.f2 b.f3 b.f4) true := by
    intro c
    refine ev_succ ?_
    simp only [munimentlaw03_OrderCompares.j0]
    refine ev_ite (fun _ => ev_bind awake3_ev (ev_some rfl)) (fun _ => ev_bind (Compare_ev ha hb) (ev_bind (RCompare_ev ha hb) (ev_some (by simp))))
  obtain ⟨q, hq⟩ := few3_ev (n := max n m) (l := [a, b]) (by simp [maxLen]) (fun x hx => by
    simp only [List.mem_cons, List.not_mem_nil, or_false] at hx
    rcases hx with rfl | rfl
    · exact ha.mono (by omega)
    · exact hb.mono (by omega))
  obtain ⟨a0, a1, a2, a3, a4⟩ := a
  obtain ⟨b0, b1, b2, b3, b4⟩ := b
  unfold munimentlaw03_OrderCompares.f
  exact ev_bind awake3_ev (ev_pos rfl (ev_bind hq (hj _)))
end Go.Proofs.YtegcbfgoomopdaaDoor.Pl
