/- NodePages holds: of every node that is handed in, without condition, the page written is the page that the reference tells, or both refuse. -/
import Derived.Test.YtmkcmfamdnjmdaaRows
import Derived.Test.YtmkcmfamdnjmdaaZnpesPNx21
import Derived.Test.YtmkcmfamdnjmdaaZnpesPureNodePages
import Derived.Test.YtmkcmfamdnjmdaaZnpesNodeOpen
import Derived.Test.YtmkcmfamdnjmdaaZnpesOpen
import Derived.Test.YtmkcmfamdnjmdaaChecked
import Derived.ProofKit
import Derived.WalkKit
import Derived.OpenShut
import Derived.ShutString
import Derived.ChangeOld
import Derived.Below
import Derived.SizedLaws
set_option linter.unusedVariables false
set_option linter.unusedSimpArgs false
namespace Go.Proofs.Ytmkcmfamdnjmdaa.nodePages
open Go.ChangeShapes Go.WideShapes Go.ChangeAt Go.RowKit
open Go.ChangeMaps (open_string shut_string)
theorem own : ownKnob Try.prog.godebug = none := by kernel_rfl
theorem laidOut : laidOutB Try.prog = true := by kernel_rfl
set_option maxRecDepth 100000 in
theorem lifted (os : Os) (started : os.Started) (H : Type) (enc : TypeId × Value → H) :
    ReturnsInHanded {} Try.checked os 4 .any (Rows.nodePagesSpec.pre6 enc Try.prog Try.f4 Rows.nodePagesRow.domain false) (Rows.nodePagesSpec.post enc Try.prog Try.f4 false true false false) := by
  refine returnsInHanded_of_change_sized (C := Try.checked) own started (by kernel_rfl) Try.func4
    (ChangeSpec.witness6 (enc := enc) (C := Try.checked) false ⟨#[], #[.agg #[.bool false, .slice none 0 0, .slice none 0 0, .slice none 0 0]], []⟩ 8 (by kernel_rfl) (by kernel_rfl) (by kernel_rfl) (by kernel_rfl)) ?_
  intro W base args ds gs before hval0 hW hcnd hsz0 _
  have hval : ∀ (j : Nat) t v, Try.f4.params[j]? = some t → args[j]? = some v → Value.okWide Try.prog W .any base t v := hval0
  have hW' := hW
  obtain ⟨p, q, hA0, hV, rfl, hfz, hnd⟩ := hW
  have hA : DataW.TrodAll enc Try.prog W 0 (fun _ => true) true Try.f4.params.toList args.toList ds p := hA0
  rw [Try.params4] at hA hval
  obtain ⟨v0, vs0, d0, ds0, p0, q0, hargs, rfl, rfl, h0, r0⟩ := trodAll_cons hA
  obtain ⟨rfl, rfl, rfl⟩ := trodAll_nil r0
  obtain rfl : args = #[v0] := by cases args; simp_all
  obtain ⟨rfl, rfl⟩ := trodVars_none hV
  have lt0 : ∀ x ∈ p0, x.block < W.heap.size := by obtain ⟨m, hm⟩ := h0; exact DataW.trod_lt m _ _ _ hm
  obtain ⟨b0, A10, c10, l10, A20, c20, l20, A30, c30, l30, rfl, hc10, hr10, hc20, hr20, hc30, hr30, w10, w20, w30⟩ := Op.node_arg (hval 0 25 v0 rfl rfl) h0
  clear hA0 hval0 hsz0
  obtain ⟨k, hk⟩ := (Pl.nodePages_ev b0 l10 l20 l30 w10 w20).rounds
  refine (PN.munimentlaw09_NodePages.calls k b0 A10 c10 l10 A20 c20 l20 A30 c30 l30 true W hr10 hc10 hr20 hc20 hr30 hc30 hk).mono fun e W' ⟨he, bel⟩ => ?_
  subst he
  exact ⟨_, rfl, _, _, _, [], _, [], hW', trodAll_mk1 (shut_bool Try.underlying4 _), (trodAll_cons_mk (Below.trod laidOut (by kernel_rfl) (of_decide_eq_true (by kernel_rfl)) h0 bel lt0) trodAll_mk0), rfl, bel.frame _, fun h => by cases h⟩
theorem over : Rows.nodePagesRow.holds Try.pinned (OpenSpec.ofChange Rows.nodePagesSpec) :=
  OpenClaim.holds_of_wide 4 Try.f4 rfl rfl rfl rfl rfl rfl rfl ⟨rfl, rfl, rfl, rfl, rfl⟩ rfl rfl rfl rfl rfl (by kernel_rfl) Try.func4 (by kernel_rfl)
    (of_decide_eq_true (by kernel_rfl)) (by unfold Func.isWrapper; first | (rw [if_pos (by decide +kernel)]; kernel_rfl) | (rw [if_neg (by decide +kernel)]; exact ⟨rfl, rfl⟩))
    (fun os started H enc _ => lifted os started H enc)
theorem proved : Rows.NodePagesSaid := over
end Go.Proofs.Ytmkcmfamdnjmdaa.nodePages
namespace Go.Proofs.Ytmkcmfamdnjmdaa
theorem nodePages_holds : Rows.NodePagesSaid := nodePages.proved
end Go.Proofs.Ytmkcmfamdnjmdaa
#print axioms Go.Proofs.Ytmkcmfamdnjmdaa.nodePages_holds
