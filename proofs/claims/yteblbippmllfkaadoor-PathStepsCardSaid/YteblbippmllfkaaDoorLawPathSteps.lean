/- PathSteps holds: every text that is handed in, without condition, is told the same steps, or that it is no path, by the program and by the reference. The row lists two tables of the library (unicode/utf8); the card ties them to the program's text. -/
import Derived.Test.YteblbippmllfkaaDoorLaid
import Derived.Test.YteblbippmllfkaaDoorTie
import Derived.Test.YteblbippmllfkaaDoorCards
import Derived.Test.YteblbippmllfkaaDoorPPx5
import Derived.Test.YteblbippmllfkaaDoorPurePathSteps
import Derived.Test.YteblbippmllfkaaDoorArgOpen
import Derived.SevenTiedAt
set_option linter.unusedVariables false
set_option linter.unusedSimpArgs false
namespace Go.Proofs.YteblbippmllfkaaDoor.pathSteps
open Go Go.ChangeShapes Go.WideShapes Go.ChangeAt Go.RowKit Go.Lib Go.Shelf
open Go.ChangeMaps (open_string shut_string)
theorem witness_row (os : Os) {H : Type} (enc : TypeId × Value → H) :
    (OpenSpec.ofChange Rows.pathStepsSpec).preRow enc Tryd.prog Tryd.f3 Rows.pathStepsRow.domain false Rows.pathStepsRow.laid ((Op.laidWorld os).forCall (fun _ _ => 0) ⟨#[], #[.string ⟨#[]⟩], []⟩).memory #[.string ⟨#[]⟩] := by
  have hw : (DataW.whole enc Tryd.prog ((Op.laidWorld os).forCall (fun _ _ => 0) ⟨#[], #[.string ⟨#[]⟩], []⟩).memory Tryd.f3.params.toList (OpenSpec.ofChange Rows.pathStepsSpec).vars false [.string ⟨#[]⟩] 8).map (fun x => (x.1, x.2.1)) =
      some ([.lit (.string [])], []) := by kernel_rfl
  obtain ⟨⟨x1, x2, x3⟩, hx, hx1⟩ := Option.map_eq_some_iff.1 hw
  simp only [Prod.mk.injEq] at hx1
  obtain ⟨rfl, rfl⟩ := hx1
  exact OpenSpec.preRow_of_cond 8 hx (by kernel_rfl) (fun k hk => by cases hk) (by kernel_rfl) (Op.laid_met os _)
set_option maxRecDepth 100000 in
set_option maxHeartbeats 2000000 in
theorem lifted (os : Os) (started : os.Started) (H : Type) (enc : TypeId × Value → H) (F : Stop.Interp) :
    ReturnsInHanded {} Tryd.checked os 3 .any ((OpenSpec.ofChange Rows.pathStepsSpec).preRow enc Tryd.prog Tryd.f3 Rows.pathStepsRow.domain false Rows.pathStepsRow.laid) (((OpenSpec.ofChange Rows.pathStepsSpec).at F).post enc Tryd.prog Tryd.f3 false true false false) := by
  refine returnsInHanded_of_row (C := Tryd.checked) (s := (OpenSpec.ofChange Rows.pathStepsSpec)) Op.own started (by kernel_rfl) Tryd.func3
    (witness_row_atRef (enc := enc) (C := Tryd.checked) false (Op.laidWorld os) #[.string ⟨#[]⟩] rfl (by kernel_rfl) (by kernel_rfl) (by kernel_rfl) (witness_row os enc)) ?_
  intro W base args ds gs before hval0 hW _ _ _ hL _ _
  have hval : ∀ (j : Nat) t v, Tryd.f3.params[j]? = some t → args[j]? = some v → Value.okWide Tryd.prog W .any base t v := hval0
  have hW' := hW
  obtain ⟨p, q, hA0, hV0, rfl, _, _⟩ := hW
  have hA : DataW.TrodAll enc Tryd.prog W 0 (fun _ => true) true Tryd.f3.params.toList args.toList ds p := hA0
  rw [Tryd.params3] at hA hval
  obtain ⟨v0, vs0, d0, ds0, p0, q0, hargs, rfl, rfl, h0, r0⟩ := trodAll_cons hA
  obtain ⟨rfl, rfl, rfl⟩ := trodAll_nil r0
  obtain rfl : args = #[v0] := by cases args; simp_all
  obtain ⟨rfl, rfl⟩ := trodVars_none hV0
  have lt0 : ∀ x ∈ p0, x.block < W.heap.size := by obtain ⟨m, hm⟩ := h0; exact DataW.trod_lt m _ _ _ hm
  obtain ⟨a0, rfl, wa0⟩ := Op.string_arg (hval 0 9 v0 rfl rfl) h0
  clear hA0 hV0 hval0
  have htab : YteblbippmllfkaaDoorW.PrintWords.Tabs W := Op.tabs_of hL
  obtain ⟨k, hk⟩ := (Pl.pathSteps_ev a0).rounds
  refine (PP.munimentlaw02_PathSteps.calls k a0 true W  htab hk).mono ?_
  rintro e W' ⟨rfl, bel⟩
  exact ⟨_, rfl, _, _, _, [], _, [], hW', trodAll_mk1 (shut_bool Tryd.underlying4 _), (trodAll_cons_mk (Below.trod Op.laidOut (by kernel_rfl) (of_decide_eq_true (by kernel_rfl)) h0 bel lt0) trodAll_mk0), rfl, bel.frame _, fun h => by cases h⟩
theorem row_holds : Rows.PathStepsSaid :=
  OpenClaim.holds_of_cond 3 Tryd.f3 rfl rfl rfl rfl rfl rfl rfl ⟨rfl, rfl, rfl, rfl, rfl⟩ rfl rfl rfl rfl rfl (by kernel_rfl) Tryd.func3 (by kernel_rfl)
    (of_decide_eq_true (by kernel_rfl)) (by unfold Func.isWrapper; rw [if_neg (of_decide_eq_false (by kernel_rfl))]; exact ⟨rfl, rfl⟩)
    (fun os started H enc _ F0 => by rw [OpenClaim.pre_eq_preRow]; exact lifted os started H enc F0)
theorem proved : Rows.PathStepsCardSaid :=
  Claim7.holds_tied_plain_at .later [] [.data, .pinned] true (true, "90db1ecc57ff902beeeebb7d5a695564283d2e7059f9af60d218afa3a5ecbf77") false
    row_holds (fun _ h => by cases h) (by kernel_rfl) (fun _ h => by cases h) pathSteps_row_tie rfl ⟨rfl, rfl⟩ (by kernel_rfl) rfl
    (fun f fn hf hfn => by
      obtain rfl : f = 3 := Option.some.inj ((show Tryd.prog.funcNamed "muniment/munimentlaw02.PathSteps" = some 3 by kernel_rfl).symm.trans hf) |>.symm
      obtain rfl : fn = Tryd.f3 := (Option.some.inj (Tryd.func3.symm.trans hfn)).symm
      exact ⟨by kernel_rfl, fun j t ht => by
        rw [Tryd.params3] at ht
        have hall : ∀ t ∈ [9], Tryd.prog.wantsStandIn t = false := by
          intro t ht
          simp only [List.mem_cons, List.not_mem_nil, or_false] at ht
          rcases ht with rfl <;> kernel_rfl
        have hm := List.mem_of_getElem? ((Array.getElem?_toList).symm ▸ ht : ([9] : List TypeId)[j]? = some t)
        exact hall t hm⟩)
    (by kernel_rfl)
end Go.Proofs.YteblbippmllfkaaDoor.pathSteps
namespace Go.Proofs.YteblbippmllfkaaDoor
theorem pathSteps_holds : Rows.PathStepsCardSaid := pathSteps.proved
end Go.Proofs.YteblbippmllfkaaDoor
#print axioms Go.Proofs.YteblbippmllfkaaDoor.pathSteps_holds
