import Derived.Test.YtegcbfgoomopdaaDoorZotalLaid
import Derived.Test.YtegcbfgoomopdaaDoorTie
import Derived.Test.YtegcbfgoomopdaaDoorCards
import Derived.Test.YtegcbfgoomopdaaDoorZotalPOx16
import Derived.Test.YtegcbfgoomopdaaDoorZotalPureOrderTotal
import Derived.Test.YtegcbfgoomopdaaDoorZotalValOpen
import Derived.Test.YtegcbfgoomopdaaDoorZotalOpen
import Derived.Test.YtegcbfgoomopdaaDoorChecked
import Derived.ProofKit
import Derived.SevenTiedAt
set_option linter.unusedVariables false
set_option linter.unusedSimpArgs false
namespace Go.Proofs.YtegcbfgoomopdaaDoor.orderTotal
open Go Go.ChangeShapes Go.WideShapes Go.ChangeAt Go.RowKit Go.Lib Go.Shelf
open Go.ChangeMaps (open_string shut_string)
theorem witness_row (os : Os) {H : Type} (enc : TypeId × Value → H) :
    (OpenSpec.ofChange Rows.orderTotalSpec).preRow enc Tryd.prog Tryd.f6 Rows.orderTotalRow.domain false Rows.orderTotalRow.laid ((Op.laidWorld os).forCall (fun _ _ => 0) ⟨#[], #[.agg #[.int .i64 0, .int .i64 0, .string ⟨#[]⟩, .slice none 0 0, .slice none 0 0], .agg #[.int .i64 0, .int .i64 0, .string ⟨#[]⟩, .slice none 0 0, .slice none 0 0], .agg #[.int .i64 0, .int .i64 0, .string ⟨#[]⟩, .slice none 0 0, .slice none 0 0]], []⟩).memory #[.agg #[.int .i64 0, .int .i64 0, .string ⟨#[]⟩, .slice none 0 0, .slice none 0 0], .agg #[.int .i64 0, .int .i64 0, .string ⟨#[]⟩, .slice none 0 0, .slice none 0 0], .agg #[.int .i64 0, .int .i64 0, .string ⟨#[]⟩, .slice none 0 0, .slice none 0 0]] := by
  have hw : (DataW.whole enc Tryd.prog ((Op.laidWorld os).forCall (fun _ _ => 0) ⟨#[], #[.agg #[.int .i64 0, .int .i64 0, .string ⟨#[]⟩, .slice none 0 0, .slice none 0 0], .agg #[.int .i64 0, .int .i64 0, .string ⟨#[]⟩, .slice none 0 0, .slice none 0 0], .agg #[.int .i64 0, .int .i64 0, .string ⟨#[]⟩, .slice none 0 0, .slice none 0 0]], []⟩).memory Tryd.f6.params.toList (OpenSpec.ofChange Rows.orderTotalSpec).vars false [.agg #[.int .i64 0, .int .i64 0, .string ⟨#[]⟩, .slice none 0 0, .slice none 0 0], .agg #[.int .i64 0, .int .i64 0, .string ⟨#[]⟩, .slice none 0 0, .slice none 0 0], .agg #[.int .i64 0, .int .i64 0, .string ⟨#[]⟩, .slice none 0 0, .slice none 0 0]] 8).map (fun x => (x.1, x.2.1)) =
      some ([.agg [.lit (.int .i64 0), .lit (.int .i64 0), .lit (.string []), .nil, .nil], .agg [.lit (.int .i64 0), .lit (.int .i64 0), .lit (.string []), .nil, .nil], .agg [.lit (.int .i64 0), .lit (.int .i64 0), .lit (.string []), .nil, .nil]], []) := by kernel_rfl
  obtain ⟨⟨x1, x2, x3⟩, hx, hx1⟩ := Option.map_eq_some_iff.1 hw
  simp only [Prod.mk.injEq] at hx1
  obtain ⟨rfl, rfl⟩ := hx1
  exact OpenSpec.preRow_of_cond 8 hx (by kernel_rfl) (fun k hk => by cases hk) (by kernel_rfl) (Op.laid_met os _)
set_option maxRecDepth 100000 in
set_option maxHeartbeats 2000000 in
theorem lifted (os : Os) (started : os.Started) (H : Type) (enc : TypeId × Value → H) (F : Stop.Interp) :
    ReturnsInHanded {} Tryd.checked os 6 .any ((OpenSpec.ofChange Rows.orderTotalSpec).preRow enc Tryd.prog Tryd.f6 Rows.orderTotalRow.domain false Rows.orderTotalRow.laid) (((OpenSpec.ofChange Rows.orderTotalSpec).at F).post enc Tryd.prog Tryd.f6 false true false false) := by
  refine returnsInHanded_of_row (C := Tryd.checked) (s := (OpenSpec.ofChange Rows.orderTotalSpec)) Op.own started (by kernel_rfl) Tryd.func6
    (witness_row_atRef (enc := enc) (C := Tryd.checked) false (Op.laidWorld os) #[.agg #[.int .i64 0, .int .i64 0, .string ⟨#[]⟩, .slice none 0 0, .slice none 0 0], .agg #[.int .i64 0, .int .i64 0, .string ⟨#[]⟩, .slice none 0 0, .slice none 0 0], .agg #[.int .i64 0, .int .i64 0, .string ⟨#[]⟩, .slice none 0 0, .slice none 0 0]] rfl (by kernel_rfl) (by kernel_rfl) (by kernel_rfl) (witness_row os enc)) ?_
  intro W base args ds gs before hval0 hW _ _ _ hL _ _
  have hval : ∀ (j : Nat) t v, Tryd.f6.params[j]? = some t → args[j]? = some v → Value.okWide Tryd.prog W .any base t v := hval0
  have hW' := hW
  obtain ⟨p, q, hA0, hV0, rfl, _, _⟩ := hW
  have hA : DataW.TrodAll enc Tryd.prog W 0 (fun _ => true) true Tryd.f6.params.toList args.toList ds p := hA0
  rw [Tryd.params6] at hA hval
  obtain ⟨v0, vs0, d0, ds0, p0, q0, hargs, rfl, rfl, h0, r0⟩ := trodAll_cons hA
  obtain ⟨v1, vs1, d1, ds1, p1, q1, rfl, rfl, rfl, h1, r1⟩ := trodAll_cons r0
  obtain ⟨v2, vs2, d2, ds2, p2, q2, rfl, rfl, rfl, h2, r2⟩ := trodAll_cons r1
  obtain ⟨rfl, rfl, rfl⟩ := trodAll_nil r2
  obtain rfl : args = #[v0, v1, v2] := by cases args; simp_all
  obtain ⟨rfl, rfl⟩ := trodVars_none hV0
  have lt0 : ∀ x ∈ p0, x.block < W.heap.size := by obtain ⟨m, hm⟩ := h0; exact DataW.trod_lt m _ _ _ hm
  obtain ⟨x0, A30, c30, A40, c40, n0, rfl, l30, g30, l40, g40, fn0⟩ := Op.value_arg (hval 0 30 v0 rfl rfl) h0
  have lt1 : ∀ x ∈ p1, x.block < W.heap.size := by obtain ⟨m, hm⟩ := h1; exact DataW.trod_lt m _ _ _ hm
  obtain ⟨x1, A31, c31, A41, c41, n1, rfl, l31, g31, l41, g41, fn1⟩ := Op.value_arg (hval 1 30 v1 rfl rfl) h1
  have lt2 : ∀ x ∈ p2, x.block < W.heap.size := by obtain ⟨m, hm⟩ := h2; exact DataW.trod_lt m _ _ _ hm
  obtain ⟨x2, A32, c32, A42, c42, n2, rfl, l32, g32, l42, g42, fn2⟩ := Op.value_arg (hval 2 30 v2 rfl rfl) h2
  clear hA0 hV0 hval0
  have htab : YtegcbfgoomopdaaDoorW.PrintWords.Tabs W := Op.tabs_of hL
  obtain ⟨k, hk⟩ := (Pl.orderTotal_ev x0 x1 x2 fn0 fn1 fn2).rounds
  refine (PO.munimentlaw03_OrderTotal.calls k x0.f0 x0.f1 x0.f2 _ A30 c30 x0.f3 _ A40 c40 x0.f4 x1.f0 x1.f1 x1.f2 _ A31 c31 x1.f3 _ A41 c41 x1.f4 x2.f0 x2.f1 x2.f2 _ A32 c32 x2.f3 _ A42 c42 x2.f4 true W (Op.v_of Op.heap_str g30 l30) (Op.v_of Op.heap_val g40 l40) (Op.v_of Op.heap_str g31 l31) (Op.v_of Op.heap_val g41 l41) (Op.v_of Op.heap_str g32 l32) (Op.v_of Op.heap_val g42 l42) htab hk).mono ?_
  rintro e W' ⟨rfl, bel⟩
  exact ⟨_, rfl, _, _, _, [], _, [], hW', trodAll_mk1 (shut_bool Tryd.underlying4 _), (trodAll_cons_mk (Below.trod Op.laidOut (by kernel_rfl) (of_decide_eq_true (by kernel_rfl)) h0 bel lt0) (trodAll_cons_mk (Below.trod Op.laidOut (by kernel_rfl) (of_decide_eq_true (by kernel_rfl)) h1 bel lt1) (trodAll_cons_mk (Below.trod Op.laidOut (by kernel_rfl) (of_decide_eq_true (by kernel_rfl)) h2 bel lt2) trodAll_mk0))), rfl, bel.frame _, fun h => by cases h⟩
theorem row_holds : Rows.OrderTotalSaid :=
  OpenClaim.holds_of_cond 6 Tryd.f6 rfl rfl rfl rfl rfl rfl rfl ⟨rfl, rfl, rfl, rfl, rfl⟩ rfl rfl rfl rfl rfl (by kernel_rfl) Tryd.func6 (by kernel_rfl)
    (of_decide_eq_true (by kernel_rfl)) (by unfold Func.isWrapper; rw [if_neg (of_decide_eq_false (by kernel_rfl))]; exact ⟨rfl, rfl⟩)
    (fun os started H enc _ F0 => by rw [OpenClaim.pre_eq_preRow]; exact lifted os started H enc F0)
theorem proved : Rows.OrderTotalCardSaid :=
  Claim7.holds_tied_plain_at .later [] [.data, .pinned] true (true, "61dce61cccd0dff01ce92159277e5448d358fd4464a3ee9e46203654849550ce") false
    row_holds (fun _ h => by cases h) (by kernel_rfl) (fun _ h => by cases h) orderTotal_row_tie rfl ⟨rfl, rfl⟩ (by kernel_rfl) rfl
    (fun f fn hf hfn => by
      obtain rfl : f = 6 := Option.some.inj ((show Tryd.prog.funcNamed "muniment/munimentlaw03.OrderTotal" = some 6 by kernel_rfl).symm.trans hf) |>.symm
      obtain rfl : fn = Tryd.f6 := (Option.some.inj (Tryd.func6.symm.trans hfn)).symm
      exact ⟨by kernel_rfl, fun j t ht => by
        rw [Tryd.params6] at ht
        have hall : ∀ t ∈ [30, 30, 30], Tryd.prog.wantsStandIn t = false := by
          intro t ht
          simp only [List.mem_cons, List.not_mem_nil, or_false] at ht
          rcases ht with rfl | rfl | rfl <;> kernel_rfl
        have hm := List.mem_of_getElem? ((Array.getElem?_toList).symm ▸ ht : ([30, 30, 30] : List TypeId)[j]? = some t)
        exact hall t hm⟩)
    (by kernel_rfl)
end Go.Proofs.YtegcbfgoomopdaaDoor.orderTotal
namespace Go.Proofs.YtegcbfgoomopdaaDoor
theorem orderTotal_holds : Rows.OrderTotalCardSaid := orderTotal.proved
end Go.Proofs.YtegcbfgoomopdaaDoor
#print axioms Go.Proofs.YtegcbfgoomopdaaDoor.orderTotal_holds
