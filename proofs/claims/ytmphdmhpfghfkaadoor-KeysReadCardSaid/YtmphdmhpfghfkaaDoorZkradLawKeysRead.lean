/- KeysRead holds: all bytes that are handed in, without condition, are read by the program as the reference reads them: as the value whose key they begin with, or refused. The row lists two tables of the library (unicode/utf8); the card ties them to the program's text. -/
import Derived.Test.YtmphdmhpfghfkaaDoorZkradU8
import Derived.Test.YtmphdmhpfghfkaaDoorTie
import Derived.Test.YtmphdmhpfghfkaaDoorCards
import Derived.Test.YtmphdmhpfghfkaaDoorZkradPKx36
import Derived.Test.YtmphdmhpfghfkaaDoorZkradPureKeysRead
import Derived.Test.YtmphdmhpfghfkaaDoorZkradOpen
import Derived.Test.YtmphdmhpfghfkaaDoorChecked
import Derived.Test.YtmphdmhpfghfkaaDoorZkradWMore
import Derived.Test.YtmphdmhpfghfkaaDoorZkradValue
import Derived.ProofKit
import Derived.SevenTiedAt
set_option linter.unusedVariables false
set_option linter.unusedSimpArgs false
namespace Go.Proofs.YtmphdmhpfghfkaaDoor.keysRead
open Go Go.ChangeShapes Go.WideShapes Go.ChangeAt Go.RowKit Go.Lib Go.Shelf
open Go.ChangeMaps (open_string shut_string)
theorem witness_row (os : Os) {H : Type} (enc : TypeId × Value → H) :
    (OpenSpec.ofChange Rows.keysReadSpec).preRow enc Tryd.prog Tryd.f6 Rows.keysReadRow.domain false Rows.keysReadRow.laid ((Op.laidWorld os).forCall (fun _ _ => 0) ⟨#[], #[.slice none 0 0], []⟩).memory #[.slice none 0 0] := by
  have hw : (DataW.whole enc Tryd.prog ((Op.laidWorld os).forCall (fun _ _ => 0) ⟨#[], #[.slice none 0 0], []⟩).memory Tryd.f6.params.toList (OpenSpec.ofChange Rows.keysReadSpec).vars false [.slice none 0 0] 8).map (fun x => (x.1, x.2.1)) =
      some ([.nil], []) := by kernel_rfl
  obtain ⟨⟨x1, x2, x3⟩, hx, hx1⟩ := Option.map_eq_some_iff.1 hw
  simp only [Prod.mk.injEq] at hx1
  obtain ⟨rfl, rfl⟩ := hx1
  exact OpenSpec.preRow_of_cond 8 hx (by kernel_rfl) (fun k hk => by cases hk) (by kernel_rfl) (Op.laid_met os _)
set_option maxRecDepth 100000 in
set_option maxHeartbeats 2000000 in
theorem lifted (os : Os) (started : os.Started) (H : Type) (enc : TypeId × Value → H) (F : Stop.Interp) :
    ReturnsInHanded {} Tryd.checked os 6 .any ((OpenSpec.ofChange Rows.keysReadSpec).preRow enc Tryd.prog Tryd.f6 Rows.keysReadRow.domain false Rows.keysReadRow.laid) (((OpenSpec.ofChange Rows.keysReadSpec).at F).post enc Tryd.prog Tryd.f6 false true false false) := by
  refine returnsInHanded_of_row (C := Tryd.checked) (s := (OpenSpec.ofChange Rows.keysReadSpec)) Op.own started (by kernel_rfl) Tryd.func6
    (witness_row_atRef (enc := enc) (C := Tryd.checked) false (Op.laidWorld os) #[.slice none 0 0] rfl (by kernel_rfl) (by kernel_rfl) (by kernel_rfl) (witness_row os enc)) ?_
  intro W base args ds gs before hval0 hW _ _ _ hL _ _
  have hval : ∀ (j : Nat) t v, Tryd.f6.params[j]? = some t → args[j]? = some v → Value.okWide Tryd.prog W .any base t v := hval0
  have hW' := hW
  obtain ⟨p, q, hA0, hV0, rfl, _, _⟩ := hW
  have hA : DataW.TrodAll enc Tryd.prog W 0 (fun _ => true) true Tryd.f6.params.toList args.toList ds p := hA0
  rw [Tryd.params6] at hA hval
  obtain ⟨v0, vs0, d0, ds0, p0, q0, hargs, rfl, rfl, h0, r0⟩ := trodAll_cons hA
  obtain ⟨rfl, rfl, rfl⟩ := trodAll_nil r0
  obtain rfl : args = #[v0] := by cases args; simp_all
  obtain ⟨rfl, rfl⟩ := trodVars_none hV0
  have lt0 : ∀ x ∈ p0, x.block < W.heap.size := by obtain ⟨m, hm⟩ := h0; exact DataW.trod_lt m _ _ _ hm
  obtain ⟨A0, c0, l0, rfl, hc0, hr0, hm0, wl0⟩ := Op.bytes_arg (hval 0 28 v0 rfl rfl) h0
  clear hA0 hV0 hval0
  have htab : YtmphdmhpfghfkaaDoorW.PrintWords.Tabs W := Op.tabs_of hL
  obtain ⟨k, hk⟩ := (Pl.keysRead_ev l0 (Pl.bytes_of_wf wl0)).rounds
  refine (PK.munimentlaw04_KeysRead.calls k A0 c0 l0 true W hr0 hc0 htab hk).mono ?_
  rintro e W' ⟨rfl, bel⟩
  exact ⟨_, rfl, _, _, _, [], _, [], hW', trodAll_mk1 (shut_bool Tryd.underlying4 _), (trodAll_cons_mk (Below.trod Op.laidOut (by kernel_rfl) (of_decide_eq_true (by kernel_rfl)) h0 bel lt0) trodAll_mk0), rfl, bel.frame _, fun h => by cases h⟩
theorem row_holds : Rows.KeysReadSaid :=
  OpenClaim.holds_of_cond 6 Tryd.f6 rfl rfl rfl rfl rfl rfl rfl ⟨rfl, rfl, rfl, rfl, rfl⟩ rfl rfl rfl rfl rfl (by kernel_rfl) Tryd.func6 (by kernel_rfl)
    (of_decide_eq_true (by kernel_rfl)) (by unfold Func.isWrapper; rw [if_neg (of_decide_eq_false (by kernel_rfl))]; exact ⟨rfl, rfl⟩)
    (fun os started H enc _ F0 => by rw [OpenClaim.pre_eq_preRow]; exact lifted os started H enc F0)
theorem proved : Rows.KeysReadCardSaid :=
  Claim7.holds_tied_plain_at .later [] [.data, .pinned] true (true, "1e44047ea7e3da9546d1288fb297cc3822ad455c44e68756bc393cdf24ba0669") false
    row_holds (fun _ h => by cases h) (by kernel_rfl) (fun _ h => by cases h) keysRead_row_tie rfl ⟨rfl, rfl⟩ (by kernel_rfl) rfl
    (fun f fn hf hfn => by
      obtain rfl : f = 6 := Option.some.inj ((show Tryd.prog.funcNamed "muniment/munimentlaw04.KeysRead" = some 6 by kernel_rfl).symm.trans hf) |>.symm
      obtain rfl : fn = Tryd.f6 := (Option.some.inj (Tryd.func6.symm.trans hfn)).symm
      exact ⟨by kernel_rfl, fun j t ht => by
        rw [Tryd.params6] at ht
        have hall : ∀ t ∈ [28], Tryd.prog.wantsStandIn t = false := by
          intro t ht
          simp only [List.mem_cons, List.not_mem_nil, or_false] at ht
          rcases ht with rfl <;> kernel_rfl
        have hm := List.mem_of_getElem? ((Array.getElem?_toList).symm ▸ ht : ([28] : List TypeId)[j]? = some t)
        exact hall t hm⟩)
    (by kernel_rfl)
end Go.Proofs.YtmphdmhpfghfkaaDoor.keysRead
namespace Go.Proofs.YtmphdmhpfghfkaaDoor
theorem keysRead_holds : Rows.KeysReadCardSaid := keysRead.proved
end Go.Proofs.YtmphdmhpfghfkaaDoor
#print axioms Go.Proofs.YtmphdmhpfghfkaaDoor.keysRead_holds
