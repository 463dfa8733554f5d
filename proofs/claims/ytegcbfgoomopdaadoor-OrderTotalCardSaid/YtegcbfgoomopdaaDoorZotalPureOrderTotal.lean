import Derived.Test.YtegcbfgoomopdaaDoorZotalOrderR
import Derived.Test.YtegcbfgoomopdaaDoorZotalSame
import Derived.Test.YtegcbfgoomopdaaDoorZotalPOx16
set_option linter.unusedSimpArgs false
set_option linter.unusedVariables false
namespace Go.Proofs.YtegcbfgoomopdaaDoor.Pl
open Go.RowKit Go.Proofs.YtegcbfgoomopdaaDoorW.PrintWords Go.Proofs.YtegcbfgoomopdaaDoorW.PrintMore Go.Proofs.YtegcbfgoomopdaaDoor.PO
theorem orderTotal_ev {n m l : Nat} (a b c : V) (ha : FineN n a) (hb : FineN m b) (hc : FineN l c) :
    Ev (fun k => munimentlaw03_OrderTotal.f k a.f0 a.f1 a.f2 a.f3 a.f4 b.f0 b.f1 b.f2 b.f3 b.f4 c.f0 c.f1 c.f2 c.f3 c.f4) true := by
  have g := good_cmpV 6
  have hno : Ev (fun k => munimentlaw03_OrderTotal.j0 k true a.f0 a.f1 a.f2 a.f3 a.f4 b.f0 b.f1 b.f2 b.f3 b.f4 c.f0 c.f1 c.f2 c.f3 c.f4) true := by
    refine ev_succ ?_
    simp only [munimentlaw03_OrderTotal.j0]
    exact ev_pos (by simp) (ev_bind awake3_ev (ev_some rfl))
  have hyes : fm 6 a = true → fm 6 b = true → fm 6 c = true → Ev (fun k => munimentlaw03_OrderTotal.j0 k false a.f0 a.f1 a.f2 a.f3 a.f4 b.f0 b.f1 b.f2 b.f3 b.f4 c.f0 c.f1 c.f2 c.f3 c.f4) true := by
    intro fa fb fc
    have e1 : cmpF a b = cmpV 6 a b := if_pos ⟨fa, fb⟩
    have e2 : cmpF b c = cmpV 6 b c := if_pos ⟨fb, fc⟩
    have e3 : cmpF a c = cmpV 6 a c := if_pos ⟨fa, fc⟩
    have e4 : cmpF b a = cmpV 6 b a := if_pos ⟨fb, fa⟩
    have e5 : cmpF a a = 0 := (if_pos ⟨fa, fa⟩).trans ((g.zero a a fa fa).2 rfl)
    obtain ⟨r, hr, er⟩ := same_ev n a b ha
    have hz := g.zero a b fa fb
    have hs := g.small a b fa fb
    have hanti := g.anti a b fa fb
    have t1 := g.trans a b c fa fb fc
    have t2 := g.trans c b a fc fb fa
    have an2 := g.anti b c fb fc
    have an3 := g.anti a c fa fc
    refine ev_succ ?_
    simp only [munimentlaw03_OrderTotal.j0]
    refine ev_neg (by simp) (ev_bind (Compare_ev ha hb) (ev_bind (Compare_ev hb hc) (ev_bind (Compare_ev ha hc) (ev_bind (Compare_ev hb ha) ?_))))
    rw [e1, e2, e3, e4]
    refine ev_pos (by rw [wrap64_id (by omega) (by omega)]; exact hanti) (ev_bind hr ?_)
    have hx : ((cmpV 6 a b == 0) != r) = false := by
      have : (cmpV 6 a b == 0) = r := by
        rw [Bool.eq_iff_iff, er, ← hz]
        simp
      rw [this]
      simp
    rw [hx]
    refine ev_neg (by simp) (ev_bind (Compare_ev ha ha) ?_)
    rw [e5]
    refine ev_succ ?_
    simp only [munimentlaw03_OrderTotal.j1]
    refine ev_neg (by simp) ?_
    have up : cmpV 6 a b ≥ 0 → cmpV 6 b c ≥ 0 → ¬ cmpV 6 a c < 0 := by
      intro h1 h2
      have := t2 (by omega) (by omega)
      omega
    have last : Ev (fun k => if cmpV 6 a b ≥ 0 then if cmpV 6 b c ≥ 0 then some (!decide (cmpV 6 a c < 0)) else some (!false) else some (!false)) true := by
      refine ev_ite (fun h1 => ev_ite (fun h2 => ev_some (by simp [up h1 h2])) (fun _ => ev_some rfl)) (fun _ => ev_some rfl)
    exact ev_ite (fun h1 => ev_ite (fun h2 => ev_ite (fun h3 => by have := t1 h1 h2; omega) (fun _ => last)) (fun _ => last)) (fun _ => last)
  obtain ⟨q, hq⟩ := few3_ev (n := max n (max m l)) (l := [a, b, c]) (by simp [maxLen]) (fun x hx => by
    simp only [List.mem_cons, List.not_mem_nil, or_false] at hx
    rcases hx with rfl | rfl | rfl
    · exact ha.mono (by omega)
    · exact hb.mono (by omega)
    · exact hc.mono (by omega))
  have fa := Formed_ev ha
  have fb := Formed_ev hb
  have fc := Formed_ev hc
  generalize fm 6 a = qa at fa hyes
  generalize fm 6 b = qb at fb hyes
  generalize fm 6 c = qc at fc hyes
  obtain ⟨a0, a1, a2, a3, a4⟩ := a
  obtain ⟨b0, b1, b2, b3, b4⟩ := b
  obtain ⟨c0, c1, c2, c3, c4⟩ := c
  unfold munimentlaw03_OrderTotal.f
  refine ev_bind awake3_ev (ev_pos rfl (ev_bind hq (ev_ite (fun _ => ?_) (fun _ => hno))))
  refine ev_bind fa (ev_ite (fun ta => ?_) (fun _ => hno))
  refine ev_bind fb (ev_ite (fun tb => ?_) (fun _ => hno))
  refine ev_bind fc ?_
  cases qc with
  | false => exact hno
  | true => exact hyes ta tb rfl
end Go.Proofs.YtegcbfgoomopdaaDoor.Pl
