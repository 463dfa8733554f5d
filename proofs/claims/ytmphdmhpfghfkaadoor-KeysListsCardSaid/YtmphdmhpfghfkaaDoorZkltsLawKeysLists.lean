import Derived.Test.YtmphdmhpfghfkaaDoorZkltsUtf
import Derived.Test.YtmphdmhpfghfkaaDoorTie
import Derived.Test.YtmphdmhpfghfkaaDoorCards
import Derived.Test.YtmphdmhpfghfkaaDoorZkltsPKx42
import Derived.Test.YtmphdmhpfghfkaaDoorZkltsPureKeysLists
import Derived.Test.YtmphdmhpfghfkaaDoorZkltsOpen
import Derived.Test.YtmphdmhpfghfkaaDoorChecked
import Derived.ProofKit
import Derived.SevenTiedAt
set_option linter.unusedVariables false
set_option linter.unusedSimpArgs false
namespace Go.Proofs.YtmphdmhpfghfkaaDoor.keysLists
open Go Go.ChangeShapes Go.WideShapes Go.ChangeAt Go.RowKit Go.Lib Go.Shelf
open Go.ChangeMaps (open_string shut_string)
theorem witness_row (os : Os) {H : Type} (enc : TypeId × Value → H) :
    (OpenSpec.ofChange Rows.keysListsSpec).preRow enc Tryd.prog Tryd.f8 Rows.keysListsRow.domain false Rows.keysListsRow.laid ((Op.laidWorld os).forCall (fun _ _ => 0) ⟨#[], #[.agg #[.slice none 0 0, .slice none 0 0], .slice none 0 0], []⟩).memory #[.agg #[.slice none 0 0, .slice none 0 0], .slice none 0 0] := by
  have hw : (DataW.whole enc Tryd.prog ((Op.laidWorld os).forCall (fun _ _ => 0) ⟨#[], #[.agg #[.slice none 0 0, .slice none 0 0], .slice none 0 0], []⟩).memory Tryd.f8.params.toList (OpenSpec.ofChange Rows.keysListsSpec).vars false [.agg #[.slice none 0 0, .slice none 0 0], .slice none 0 0] 8).map (fun x => (x.1, x.2.1)) =
      some ([.agg [.nil, .nil], .nil], []) := by kernel_rfl
  obtain ⟨⟨x1, x2, x3⟩, hx, hx1⟩ := Option.map_eq_some_iff.1 hw
  simp only [Prod.mk.injEq] at hx1
  obtain ⟨rfl, rfl⟩ := hx1
  exact OpenSpec.preRow_of_cond 8 hx (by kernel_rfl) (fun k hk => by cases hk) (by kernel_rfl) (Op.laid_met os _)
set_option maxRecDepth 100000 in
set_option maxHeartbeats 2000000 in
theorem lifted (os : Os) (started : os.Started) (H : Type) (enc : TypeId × Value → H) (F : Stop.Interp) :
    ReturnsInHanded {} Tryd.checked os 8 .any ((OpenSpec.ofChange Rows.keysListsSpec).preRow enc Tryd.prog Tryd.f8 Rows.keysListsRow.domain false Rows.keysListsRow.laid) (((OpenSpec.ofChange Rows.keysListsSpec).at F).post enc Tryd.prog Tryd.f8 false true false false) := by
  refine returnsInHanded_of_row (C := Tryd.checked) (s := (OpenSpec.ofChange Rows.keysListsSpec)) Op.own started (by kernel_rfl) Tryd.func8
    (witness_row_atRef (enc := enc) (C := Tryd.checked) false (Op.laidWorld os) #[.agg #[.slice none 0 0, .slice none 0 0], .slice none 0 0] rfl (by kernel_rfl) (by kernel_rfl) (by kernel_rfl) (witness_row os enc)) ?_
  intro W base args ds gs before hval0 hW _ _ _ hL _ _
  have hval : ∀ (j : Nat) t v, Tryd.f8.params[j]? = some t → args[j]? = some v → Value.okWide Tryd.prog W .any base t v := hval0
  have hW' := hW
  obtain ⟨p, q, hA0, hV0, rfl, _, _⟩ := hW
  have hA : DataW.TrodAll enc Tryd.prog W 0 (fun _ => true) true Tryd.f8.params.toList args.toList ds p := hA0
  rw [Tryd.params8] at hA hval
  obtain ⟨v0, vs0, d0, ds0, p0, q0, hargs, rfl, rfl, h0, r0⟩ := trodAll_cons hA
  obtain ⟨v1, vs1, d1, ds1, p1, q1, rfl, rfl, rfl, h1, r1⟩ := trodAll_cons r0
  obtain ⟨rfl, rfl, rfl⟩ := trodAll_nil r1
  obtain rfl : args = #[v0, v1] := by cases args; simp_all
  obtain ⟨rfl, rfl⟩ := trodVars_none hV0
  have lt0 : ∀ x ∈ p0, x.block < W.heap.size := by obtain ⟨m, hm⟩ := h0; exact DataW.trod_lt m _ _ _ hm
  obtain ⟨A10, c10, l10, A20, c20, l20, n0, rfl, hc10, hr10, hc20, hr20, wl0, fn0⟩ := Op.list_arg (hval 0 43 v0 rfl rfl) h0
  have lt1 : ∀ x ∈ p1, x.block < W.heap.size := by obtain ⟨m, hm⟩ := h1; exact DataW.trod_lt m _ _ _ hm
  obtain ⟨A1, c1, l1, n1, rfl, hc1, hr1, hm1, wl1⟩ := Op.values_arg (hval 1 23 v1 rfl rfl) h1
  clear hA0 hV0 hval0
  have htab : YtmphdmhpfghfkaaDoorW.PrintWords.Tabs W := Op.tabs_of hL
  obtain ⟨k, hk⟩ := (Pl.keysLists_ev l10 l20 l1 wl0 fn0 hm1 wl1).rounds
  refine (PK.munimentlaw04_KeysLists.calls k A10 c10 l10 A20 c20 l20 A1 c1 l1 true W hr10 hc10 hr20 hc20 hr1 hc1 htab hk).mono ?_
  rintro e W' ⟨rfl, bel⟩
  exact ⟨_, rfl, _, _, _, [], _, [], hW', trodAll_mk1 (shut_bool Tryd.underlying4 _), (trodAll_cons_mk (Below.trod Op.laidOut (by kernel_rfl) (of_decide_eq_true (by kernel_rfl)) h0 bel lt0) (trodAll_cons_mk (Below.trod Op.laidOut (by kernel_rfl) (of_decide_eq_true (by kernel_rfl)) h1 bel lt1) trodAll_mk0)), rfl, bel.frame _, fun h => by cases h⟩
theorem row_holds : Rows.KeysListsSaid :=
  OpenClaim.holds_of_cond 8 Tryd.f8 rfl rfl rfl rfl rfl rfl rfl ⟨rfl, rfl, rfl, rfl, rfl⟩ rfl rfl rfl rfl rfl (by kernel_rfl) Tryd.func8 (by kernel_rfl)
    (of_decide_eq_true (by kernel_rfl)) (by unfold Func.isWrapper; rw [if_neg (of_decide_eq_false (by kernel_rfl))]; exact ⟨rfl, rfl⟩)
    (fun os started H enc _ F0 => by rw [OpenClaim.pre_eq_preRow]; exact lifted os started H enc F0)
theorem proved : Rows.KeysListsCardSaid :=
  Claim7.holds_tied_plain_at .later [] [.data, .pinned] true (true, "1e44047ea7e3da9546d1288fb297cc3822ad455c44e68756bc393cdf24ba0669") false
    row_holds (fun _ h => by cases h) (by kernel_rfl) (fun _ h => by cases h) keysLists_row_tie rfl ⟨rfl, rfl⟩ (by kernel_rfl) rfl
    (fun f fn hf hfn => by
      obtain rfl : f = 8 := Option.some.inj ((show Tryd.prog.funcNamed "muniment/munimentlaw04.KeysLists" = some 8 by kernel_rfl).symm.trans hf) |>.symm
      obtain rfl : fn = Tryd.f8 := (Option.some.inj (Tryd.func8.symm.trans hfn)).symm
      exact ⟨by kernel_rfl, fun j t ht => by
        rw [Tryd.params8] at ht
        have hall : ∀ t ∈ [43, 23], Tryd.prog.wantsStandIn t = false := by
          intro t ht
          simp only [List.mem_cons, List.not_mem_nil, or_false] at ht
          rcases ht with rfl | rfl <;> kernel_rfl
        have hm := List.mem_of_getElem? ((Array.getElem?_toList).symm ▸ ht : ([43, 23] : List TypeId)[j]? = some t)
        exact hall t hm⟩)
    (by kernel_rfl)
end Go.Proofs.YtmphdmhpfghfkaaDoor.keysLists
namespace Go.Proofs.YtmphdmhpfghfkaaDoor
theorem keysLists_holds : Rows.KeysListsCardSaid := keysLists.proved
end Go.Proofs.YtmphdmhpfghfkaaDoor
#print axioms Go.Proofs.YtmphdmhpfghfkaaDoor.keysLists_holds
