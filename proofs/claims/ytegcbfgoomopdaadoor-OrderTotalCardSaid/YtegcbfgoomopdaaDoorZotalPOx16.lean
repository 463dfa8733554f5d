import Derived.Test.YtegcbfgoomopdaaDoorZotalPOx0
import Derived.Test.YtegcbfgoomopdaaDoorZotalPOx3
import Derived.Test.YtegcbfgoomopdaaDoorZotalPOx5
import Derived.Test.YtegcbfgoomopdaaDoorZotalPOx7
import Derived.Test.YtegcbfgoomopdaaDoorZotalPOx14
namespace Go.Proofs.YtegcbfgoomopdaaDoor.PO
open Go.RowKit Go.Proofs.YtegcbfgoomopdaaDoorW.PrintWords Go.Proofs.YtegcbfgoomopdaaDoorW.PrintLast Go.Proofs.YtegcbfgoomopdaaDoorW.PrintMore
attribute [local go_sem] max2_mx_ min2_mn_ max_two min_two max_three min_three max_four min_four   -- for this text's walks alone
set_option linter.unusedVariables false
set_option linter.unusedSimpArgs false
mutual
def munimentlaw03_OrderTotal.j0 : Nat → Bool → Int → Int → ByteArray → List ByteArray → List (S30) → Int → Int → ByteArray → List ByteArray → List (S30) → Int → Int → ByteArray → List ByteArray → List (S30) → Option (Bool)
  | 0, _, _, _, _, _, _, _, _, _, _, _, _, _, _, _, _ => none
  | k + 1, x34, x266000, x266001, x266002, x266003, x266004, x267000, x267001, x267002, x267003, x267004, x268000, x268001, x268002, x268003, x268004 => if x34 = true then ((munimentlaw03_awake.f k).bind fun t276 => (some t276)) else ((order_Compare.f k x266000 x266001 x266002 x266003 x266004 x267000 x267001 x267002 x267003 x267004).bind fun t277 => ((order_Compare.f k x267000 x267001 x267002 x267003 x267004 x268000 x268001 x268002 x268003 x268004).bind fun t278 => ((order_Compare.f k x266000 x266001 x266002 x266003 x266004 x268000 x268001 x268002 x268003 x268004).bind fun t279 => ((order_Compare.f k x267000 x267001 x267002 x267003 x267004 x266000 x266001 x266002 x266003 x266004).bind fun t280 => (if t280 = (wrap64 (-t277)) then ((munimentref01_Same.f k x266000 x266001 x266002 x266003 x266004 x267000 x267001 x267002 x267003 x267004).bind fun t281 => (if ((t277 == 0) != t281) = true then (munimentlaw03_OrderTotal.j1 k t277 t278 t279 true) else ((order_Compare.f k x266000 x266001 x266002 x266003 x266004 x266000 x266001 x266002 x266003 x266004).bind fun t282 => (munimentlaw03_OrderTotal.j1 k t277 t278 t279 (t282 != 0))))) else (munimentlaw03_OrderTotal.j1 k t277 t278 t279 true))))))
def munimentlaw03_OrderTotal.j1 : Nat → Int → Int → Int → Bool → Option (Bool)
  | 0, _, _, _, _ => none
  | k + 1, x7, x8, x9, x64 => if x64 = true then (some false) else (if x7 ≤ 0 then (if x8 ≤ 0 then (if x9 > 0 then (some false) else (if x7 ≥ 0 then (if x8 ≥ 0 then (some (!(decide (x9 < 0)))) else (some (!false))) else (some (!false)))) else (if x7 ≥ 0 then (if x8 ≥ 0 then (some (!(decide (x9 < 0)))) else (some (!false))) else (some (!false)))) else (if x7 ≥ 0 then (if x8 ≥ 0 then (some (!(decide (x9 < 0)))) else (some (!false))) else (some (!false))))
end
def munimentlaw03_OrderTotal.f (k : Nat) (a0_0 : Int) (a0_1 : Int) (a0_2 : ByteArray) (l0_3 : List ByteArray) (l0_4 : List (S30)) (a1_0 : Int) (a1_1 : Int) (a1_2 : ByteArray) (l1_3 : List ByteArray) (l1_4 : List (S30)) (a2_0 : Int) (a2_1 : Int) (a2_2 : ByteArray) (l2_3 : List ByteArray) (l2_4 : List (S30)) : Option (Bool) := (munimentlaw03_awake.f k).bind fun t268 => (if t268 = true then ((munimentlaw03_few.f k (([(⟨a0_0, a0_1, a0_2, l0_3, l0_4⟩ : S30), (⟨a1_0, a1_1, a1_2, l1_3, l1_4⟩ : S30), (⟨a2_0, a2_1, a2_2, l2_3, l2_4⟩ : S30)] : List (S30)))).bind fun t272 => (if t272 = true then ((json_Formed.f k a0_0 a0_1 a0_2 l0_3 l0_4).bind fun t273 => (if t273 = true then ((json_Formed.f k a1_0 a1_1 a1_2 l1_3 l1_4).bind fun t274 => (if t274 = true then ((json_Formed.f k a2_0 a2_1 a2_2 l2_3 l2_4).bind fun t275 => (munimentlaw03_OrderTotal.j0 k (!t275) a0_0 a0_1 a0_2 l0_3 l0_4 a1_0 a1_1 a1_2 l1_3 l1_4 a2_0 a2_1 a2_2 l2_3 l2_4)) else (munimentlaw03_OrderTotal.j0 k true a0_0 a0_1 a0_2 l0_3 l0_4 a1_0 a1_1 a1_2 l1_3 l1_4 a2_0 a2_1 a2_2 l2_3 l2_4))) else (munimentlaw03_OrderTotal.j0 k true a0_0 a0_1 a0_2 l0_3 l0_4 a1_0 a1_1 a1_2 l1_3 l1_4 a2_0 a2_1 a2_2 l2_3 l2_4))) else (munimentlaw03_OrderTotal.j0 k true a0_0 a0_1 a0_2 l0_3 l0_4 a1_0 a1_1 a1_2 l1_3 l1_4 a2_0 a2_1 a2_2 l2_3 l2_4))) else (munimentlaw03_OrderTotal.j0 k true a0_0 a0_1 a0_2 l0_3 l0_4 a1_0 a1_1 a1_2 l1_3 l1_4 a2_0 a2_1 a2_2 l2_3 l2_4))
def munimentlaw03_OrderTotal.T3 : Bool × List (List Nat × List Nat) := (true, [([], []), ([], []), ([0, 1], [0, 1]), ([], []), ([], []), ([3, 4, 2], [3, 4]), ([], []), ([], []), ([6, 7, 5], [6, 7]), ([2, 8, 0, 1, 2], [2]), ([5, 9, 0, 1, 2, 3, 4, 5, 9], [5]), ([8, 10, 0, 1, 2, 3, 4, 5, 6, 7, 8, 9, 10], [8])])
def munimentlaw03_OrderTotal.B3 : List Nat := [0, 0, 3, 0, 0, 31, 0, 0, 255, 511, 1023, 2047]
theorem munimentlaw03_OrderTotal.tab3 : rtab .any (opsOf Tryd.f6 3) = munimentlaw03_OrderTotal.T3 := by kernel_rfl
theorem munimentlaw03_OrderTotal.bits3 : waitsOk munimentlaw03_OrderTotal.T3.2 munimentlaw03_OrderTotal.B3 = true := by kernel_rfl
set_option maxHeartbeats 8000000 in
set_option maxRecDepth 100000 in
theorem munimentlaw03_OrderTotal.calls (k : Nat) (a0_0 : Int) (a0_1 : Int) (a0_2 : ByteArray) (P0_3_ : Nat → Prop) (A0_3 : Option Addr) (c0_3 : Nat) (l0_3 : List ByteArray) (P0_4_ : Nat → Prop) (A0_4 : Option Addr) (c0_4 : Nat) (l0_4 : List (S30)) (a1_0 : Int) (a1_1 : Int) (a1_2 : ByteArray) (P1_3_ : Nat → Prop) (A1_3 : Option Addr) (c1_3 : Nat) (l1_3 : List ByteArray) (P1_4_ : Nat → Prop) (A1_4 : Option Addr) (c1_4 : Nat) (l1_4 : List (S30)) (a2_0 : Int) (a2_1 : Int) (a2_2 : ByteArray) (P2_3_ : Nat → Prop) (A2_3 : Option Addr) (c2_3 : Nat) (l2_3 : List ByteArray) (P2_4_ : Nat → Prop) (A2_4 : Option Addr) (c2_4 : Nat) (l2_4 : List (S30)) (r : Bool) (w : World) (hs0_3 : Kd.V Kd.string 9 w w.heap.size (fun k_ => P0_3_ k_) (.slice A0_3 l0_3.length c0_3) l0_3) (hs0_4 : Kd.V k30 30 w w.heap.size (fun k_ => P0_4_ k_) (.slice A0_4 l0_4.length c0_4) l0_4) (hs1_3 : Kd.V Kd.string 9 w w.heap.size (fun k_ => P1_3_ k_) (.slice A1_3 l1_3.length c1_3) l1_3) (hs1_4 : Kd.V k30 30 w w.heap.size (fun k_ => P1_4_ k_) (.slice A1_4 l1_4.length c1_4) l1_4) (hs2_3 : Kd.V Kd.string 9 w w.heap.size (fun k_ => P2_3_ k_) (.slice A2_3 l2_3.length c2_3) l2_3) (hs2_4 : Kd.V k30 30 w w.heap.size (fun k_ => P2_4_ k_) (.slice A2_4 l2_4.length c2_4) l2_4) (hT : Tabs w) (h : munimentlaw03_OrderTotal.f k a0_0 a0_1 a0_2 l0_3 l0_4 a1_0 a1_1 a1_2 l1_3 l1_4 a2_0 a2_1 a2_2 l2_3 l2_4 = some r) :
    Calls Tryd.prog 6 #[.agg #[.int .i64 a0_0, .int .i64 a0_1, .string a0_2, .slice A0_3 l0_3.length c0_3, .slice A0_4 l0_4.length c0_4], .agg #[.int .i64 a1_0, .int .i64 a1_1, .string a1_2, .slice A1_3 l1_3.length c1_3, .slice A1_4 l1_4.length c1_4], .agg #[.int .i64 a2_0, .int .i64 a2_1, .string a2_2, .slice A2_3 l2_3.length c2_3, .slice A2_4 l2_4.length c2_4]] w fun e w' => e = .returned (.bool r) ∧ Below w.heap.size w w' := by
  have hu30 := Tryd.underlying30
  have HT := Aside0.mk hT
  clear hT
  have HO0_3 := Aside0.mk (show Kd.V Kd.string 9 w w.heap.size (fun k_ => ((P0_3_ k_ ∨ P0_4_ k_ ∨ P1_3_ k_ ∨ P1_4_ k_ ∨ P2_3_ k_ ∨ P2_4_ k_) ∨ w.heap.size ≤ k_)) (.slice A0_3 l0_3.length c0_3) l0_3 from Kd.V_mono hs0_3 (fun k_ hk => .inl (.inl hk)))
  have HO0_4 := Aside0.mk (show Kd.V k30 30 w w.heap.size (fun k_ => ((P0_3_ k_ ∨ P0_4_ k_ ∨ P1_3_ k_ ∨ P1_4_ k_ ∨ P2_3_ k_ ∨ P2_4_ k_) ∨ w.heap.size ≤ k_)) (.slice A0_4 l0_4.length c0_4) l0_4 from Kd.V_mono hs0_4 (fun k_ hk => .inl (.inr (.inl hk))))
  have HO1_3 := Aside0.mk (show Kd.V Kd.string 9 w w.heap.size (fun k_ => ((P0_3_ k_ ∨ P0_4_ k_ ∨ P1_3_ k_ ∨ P1_4_ k_ ∨ P2_3_ k_ ∨ P2_4_ k_) ∨ w.heap.size ≤ k_)) (.slice A1_3 l1_3.length c1_3) l1_3 from Kd.V_mono hs1_3 (fun k_ hk => .inl (.inr (.inr (.inl hk)))))
  have HO1_4 := Aside0.mk (show Kd.V k30 30 w w.heap.size (fun k_ => ((P0_3_ k_ ∨ P0_4_ k_ ∨ P1_3_ k_ ∨ P1_4_ k_ ∨ P2_3_ k_ ∨ P2_4_ k_) ∨ w.heap.size ≤ k_)) (.slice A1_4 l1_4.length c1_4) l1_4 from Kd.V_mono hs1_4 (fun k_ hk => .inl (.inr (.inr (.inr (.inl hk))))))
  have HO2_3 := Aside0.mk (show Kd.V Kd.string 9 w w.heap.size (fun k_ => ((P0_3_ k_ ∨ P0_4_ k_ ∨ P1_3_ k_ ∨ P1_4_ k_ ∨ P2_3_ k_ ∨ P2_4_ k_) ∨ w.heap.size ≤ k_)) (.slice A2_3 l2_3.length c2_3) l2_3 from Kd.V_mono hs2_3 (fun k_ hk => .inl (.inr (.inr (.inr (.inr (.inl hk)))))))
  have HO2_4 := Aside0.mk (show Kd.V k30 30 w w.heap.size (fun k_ => ((P0_3_ k_ ∨ P0_4_ k_ ∨ P1_3_ k_ ∨ P1_4_ k_ ∨ P2_3_ k_ ∨ P2_4_ k_) ∨ w.heap.size ≤ k_)) (.slice A2_4 l2_4.length c2_4) l2_4 from Kd.V_mono hs2_4 (fun k_ hk => .inl (.inr (.inr (.inr (.inr (.inr hk)))))))
  have HB := Aside0.mk (Below.refl w.heap.size w)
  have H : ((munimentlaw03_awake.f k).bind fun t268 => (if t268 = true then ((munimentlaw03_few.f k (([(⟨a0_0, a0_1, a0_2, l0_3, l0_4⟩ : S30), (⟨a1_0, a1_1, a1_2, l1_3, l1_4⟩ : S30), (⟨a2_0, a2_1, a2_2, l2_3, l2_4⟩ : S30)] : List (S30)))).bind fun t272 => (if t272 = true then ((json_Formed.f k a0_0 a0_1 a0_2 l0_3 l0_4).bind fun t273 => (if t273 = true then ((json_Formed.f k a1_0 a1_1 a1_2 l1_3 l1_4).bind fun t274 => (if t274 = true then ((json_Formed.f k a2_0 a2_1 a2_2 l2_3 l2_4).bind fun t275 => (munimentlaw03_OrderTotal.j0 k (!t275) a0_0 a0_1 a0_2 l0_3 l0_4 a1_0 a1_1 a1_2 l1_3 l1_4 a2_0 a2_1 a2_2 l2_3 l2_4)) else (munimentlaw03_OrderTotal.j0 k true a0_0 a0_1 a0_2 l0_3 l0_4 a1_0 a1_1 a1_2 l1_3 l1_4 a2_0 a2_1 a2_2 l2_3 l2_4))) else (munimentlaw03_OrderTotal.j0 k true a0_0 a0_1 a0_2 l0_3 l0_4 a1_0 a1_1 a1_2 l1_3 l1_4 a2_0 a2_1 a2_2 l2_3 l2_4))) else (munimentlaw03_OrderTotal.j0 k true a0_0 a0_1 a0_2 l0_3 l0_4 a1_0 a1_1 a1_2 l1_3 l1_4 a2_0 a2_1 a2_2 l2_3 l2_4))) else (munimentlaw03_OrderTotal.j0 k true a0_0 a0_1 a0_2 l0_3 l0_4 a1_0 a1_1 a1_2 l1_3 l1_4 a2_0 a2_1 a2_2 l2_3 l2_4))) = some r := h
  clear h
  have HC4 := Aside0.mk H
  clear H
  go_enter Tryd.func6, Tryd.ntmps6
  go_upto_region 1 with (first | ((with_reducible refine gate_dst (N := 3) rfl ?_); (try (refine gate_guard (by rfl) ?_; dsimp only)); refine box_event ?hg (N := 3) ?hd (cs := #[.int .i64 a0_0, .int .i64 a0_1, .string a0_2, .slice A0_3 l0_3.length c0_3, .slice A0_4 l0_4.length c0_4]) (t := 30) ?hr ?_; (case hd => rfl); (case hg => rfl); (case hr => first | (go_simp; done) | (go_simp; rfl)); intro gb265 hg w5 hbox hb; have n0_ := Aside0.mk (Kd.V_below (Kd.V_elderB (by (with_reducible repeat (first | apply Kd.V_alloc | apply Kd.V_drewN | apply Kd.V_drew)); exact HO0_3.out) gb265 (Nat.le_of_eq hg.symm)) hb); have n1_ := Aside0.mk (Kd.V_below (Kd.V_elderB (by (with_reducible repeat (first | apply Kd.V_alloc | apply Kd.V_drewN | apply Kd.V_drew)); exact HO0_4.out) gb265 (Nat.le_of_eq hg.symm)) hb); have n2_ := Aside0.mk (Kd.V_below (Kd.V_elderB (by (with_reducible repeat (first | apply Kd.V_alloc | apply Kd.V_drewN | apply Kd.V_drew)); exact HO1_3.out) gb265 (Nat.le_of_eq hg.symm)) hb); have n3_ := Aside0.mk (Kd.V_below (Kd.V_elderB (by (with_reducible repeat (first | apply Kd.V_alloc | apply Kd.V_drewN | apply Kd.V_drew)); exact HO1_4.out) gb265 (Nat.le_of_eq hg.symm)) hb); have n4_ := Aside0.mk (Kd.V_below (Kd.V_elderB (by (with_reducible repeat (first | apply Kd.V_alloc | apply Kd.V_drewN | apply Kd.V_drew)); exact HO2_3.out) gb265 (Nat.le_of_eq hg.symm)) hb); have n5_ := Aside0.mk (Kd.V_below (Kd.V_elderB (by (with_reducible repeat (first | apply Kd.V_alloc | apply Kd.V_drewN | apply Kd.V_drew)); exact HO2_4.out) gb265 (Nat.le_of_eq hg.symm)) hb); have n6_ := Aside0.mk (below_step (by repeat (first | (with_reducible first | exact HB.out | apply below_alloc | apply pw_below_drewN | apply below_drew1) | exact HB.out)) hb); have n7_ := Aside0.mk (hbox); have n8_ := Aside0.mk ((by rw [hg]; exact (below_size (by repeat (first | (with_reducible first | exact HB.out | apply below_alloc | apply pw_below_drewN | apply below_drew1) | exact HB.out))) : w.heap.size ≤ gb265)); have n9_ := Aside0.mk ((by rw [hg]; exact (below_size (by repeat (first | (with_reducible first | exact HB.out | apply below_alloc | apply pw_below_drewN | apply below_drew1) | exact HB.out))) : w.heap.size ≤ gb265)); clear HO0_3; clear HO0_4; clear HO1_3; clear HO1_4; clear HO2_3; clear HO2_4; clear HB; have HO0_3 := n0_; have HO0_4 := n1_; have HO1_3 := n2_; have HO1_4 := n3_; have HO2_3 := n4_; have HO2_4 := n5_; have HB := n6_; have BK265 := n7_; have GW265 := n8_; have GE265 := n9_; clear n0_ n1_ n2_ n3_ n4_ n5_ n6_ n7_ n8_ n9_; clear hb hbox hg) | ((with_reducible refine gate_dst (N := 4) rfl ?_); (try (refine gate_guard (by rfl) ?_; dsimp only)); refine box_event ?hg (N := 4) ?hd (cs := #[.int .i64 a1_0, .int .i64 a1_1, .string a1_2, .slice A1_3 l1_3.length c1_3, .slice A1_4 l1_4.length c1_4]) (t := 30) ?hr ?_; (case hd => rfl); (case hg => rfl); (case hr => first | (go_simp; done) | (go_simp; rfl)); intro gb266 hg w6 hbox hb; have n0_ := Aside0.mk (Kd.V_below (Kd.V_elderB (by (with_reducible repeat (first | apply Kd.V_alloc | apply Kd.V_drewN | apply Kd.V_drew)); exact HO0_3.out) gb266 (Nat.le_of_eq hg.symm)) hb); have n1_ := Aside0.mk (Kd.V_below (Kd.V_elderB (by (with_reducible repeat (first | apply Kd.V_alloc | apply Kd.V_drewN | apply Kd.V_drew)); exact HO0_4.out) gb266 (Nat.le_of_eq hg.symm)) hb); have n2_ := Aside0.mk (Kd.V_below (Kd.V_elderB (by (with_reducible repeat (first | apply Kd.V_alloc | apply Kd.V_drewN | apply Kd.V_drew)); exact HO1_3.out) gb266 (Nat.le_of_eq hg.symm)) hb); have n3_ := Aside0.mk (Kd.V_below (Kd.V_elderB (by (with_reducible repeat (first | apply Kd.V_alloc | apply Kd.V_drewN | apply Kd.V_drew)); exact HO1_4.out) gb266 (Nat.le_of_eq hg.symm)) hb); have n4_ := Aside0.mk (Kd.V_below (Kd.V_elderB (by (with_reducible repeat (first | apply Kd.V_alloc | apply Kd.V_drewN | apply Kd.V_drew)); exact HO2_3.out) gb266 (Nat.le_of_eq hg.symm)) hb); have n5_ := Aside0.mk (Kd.V_below (Kd.V_elderB (by (with_reducible repeat (first | apply Kd.V_alloc | apply Kd.V_drewN | apply Kd.V_drew)); exact HO2_4.out) gb266 (Nat.le_of_eq hg.symm)) hb); have n6_ := Aside0.mk (blk_below (g := gb265) (o := .cells #[.int .i64 a0_0, .int .i64 a0_1, .string a0_2, .slice A0_3 l0_3.length c0_3, .slice A0_4 l0_4.length c0_4] 30 (0, 0)) (by (with_reducible repeat (first | refine blk_drewN ?_ _ | refine blk_drew ?_ | refine blk_alloc ?_ _)); exact BK265.out) hb); have n7_ := Aside0.mk (below_step (by repeat (first | (with_reducible first | exact HB.out | apply below_alloc | apply pw_below_drewN | apply below_drew1 | refine below_set ?_ GE265.out) | exact HB.out)) hb); have n8_ := Aside0.mk (hbox); have n9_ := Aside0.mk ((by rw [hg]; exact (below_size (by repeat (first | (with_reducible first | exact HB.out | apply below_alloc | apply pw_below_drewN | apply below_drew1 | refine below_set ?_ GE265.out) | exact HB.out))) : w.heap.size ≤ gb266)); have n10_ := Aside0.mk ((by rw [hg]; exact (below_size (by repeat (first | (with_reducible first | exact HB.out | apply below_alloc | apply pw_below_drewN | apply below_drew1 | refine below_set ?_ GE265.out) | exact HB.out))) : w.heap.size ≤ gb266)); have n11_ := Aside0.mk ((by rw [hg]; exact Nat.ne_of_lt (blk_lt (g := gb265) (o := .cells #[.int .i64 a0_0, .int .i64 a0_1, .string a0_2, .slice A0_3 l0_3.length c0_3, .slice A0_4 l0_4.length c0_4] 30 (0, 0)) (by (with_reducible repeat (first | refine blk_drewN ?_ _ | refine blk_drew ?_ | refine blk_alloc ?_ _)); exact BK265.out)) : gb265 ≠ gb266)); have n12_ := Aside0.mk ((by rw [hg]; exact Nat.ne_of_gt (blk_lt (g := gb265) (o := .cells #[.int .i64 a0_0, .int .i64 a0_1, .string a0_2, .slice A0_3 l0_3.length c0_3, .slice A0_4 l0_4.length c0_4] 30 (0, 0)) (by (with_reducible repeat (first | refine blk_drewN ?_ _ | refine blk_drew ?_ | refine blk_alloc ?_ _)); exact BK265.out)) : gb266 ≠ gb265)); clear HO0_3; clear HO0_4; clear HO1_3; clear HO1_4; clear HO2_3; clear HO2_4; clear BK265; clear HB; have HO0_3 := n0_; have HO0_4 := n1_; have HO1_3 := n2_; have HO1_4 := n3_; have HO2_3 := n4_; have HO2_4 := n5_; have BK265 := n6_; have HB := n7_; have BK266 := n8_; have GW266 := n9_; have GE266 := n10_; have NB265_266 := n11_; have NB266_265 := n12_; clear n0_ n1_ n2_ n3_ n4_ n5_ n6_ n7_ n8_ n9_ n10_ n11_ n12_; clear hb hbox hg) | ((with_reducible refine gate_dst (N := 5) rfl ?_); (try (refine gate_guard (by rfl) ?_; dsimp only)); refine box_event ?hg (N := 5) ?hd (cs := #[.int .i64 a2_0, .int .i64 a2_1, .string a2_2, .slice A2_3 l2_3.length c2_3, .slice A2_4 l2_4.length c2_4]) (t := 30) ?hr ?_; (case hd => rfl); (case hg => rfl); (case hr => first | (go_simp; done) | (go_simp; rfl)); intro gb267 hg w7 hbox hb; have n0_ := Aside0.mk (Kd.V_below (Kd.V_elderB (by (with_reducible repeat (first | apply Kd.V_alloc | apply Kd.V_drewN | apply Kd.V_drew)); exact HO0_3.out) gb267 (Nat.le_of_eq hg.symm)) hb); have n1_ := Aside0.mk (Kd.V_below (Kd.V_elderB (by (with_reducible repeat (first | apply Kd.V_alloc | apply Kd.V_drewN | apply Kd.V_drew)); exact HO0_4.out) gb267 (Nat.le_of_eq hg.symm)) hb); have n2_ := Aside0.mk (Kd.V_below (Kd.V_elderB (by (with_reducible repeat (first | apply Kd.V_alloc | apply Kd.V_drewN | apply Kd.V_drew)); exact HO1_3.out) gb267 (Nat.le_of_eq hg.symm)) hb); have n3_ := Aside0.mk (Kd.V_below (Kd.V_elderB (by (with_reducible repeat (first | apply Kd.V_alloc | apply Kd.V_drewN | apply Kd.V_drew)); exact HO1_4.out) gb267 (Nat.le_of_eq hg.symm)) hb); have n4_ := Aside0.mk (Kd.V_below (Kd.V_elderB (by (with_reducible repeat (first | apply Kd.V_alloc | apply Kd.V_drewN | apply Kd.V_drew)); exact HO2_3.out) gb267 (Nat.le_of_eq hg.symm)) hb); have n5_ := Aside0.mk (Kd.V_below (Kd.V_elderB (by (with_reducible repeat (first | apply Kd.V_alloc | apply Kd.V_drewN | apply Kd.V_drew)); exact HO2_4.out) gb267 (Nat.le_of_eq hg.symm)) hb); have n6_ := Aside0.mk (blk_below (g := gb265) (o := .cells #[.int .i64 a0_0, .int .i64 a0_1, .string a0_2, .slice A0_3 l0_3.length c0_3, .slice A0_4 l0_4.length c0_4] 30 (0, 0)) (by (with_reducible repeat (first | refine blk_drewN ?_ _ | refine blk_drew ?_ | refine blk_alloc ?_ _)); exact BK265.out) hb); have n7_ := Aside0.mk (blk_below (g := gb266) (o := .cells #[.int .i64 a1_0, .int .i64 a1_1, .string a1_2, .slice A1_3 l1_3.length c1_3, .slice A1_4 l1_4.length c1_4] 30 (0, 0)) (by (with_reducible repeat (first | refine blk_drewN ?_ _ | refine blk_drew ?_ | refine blk_alloc ?_ _)); exact BK266.out) hb); have n8_ := Aside0.mk (below_step (by repeat (first | (with_reducible first | exact HB.out | apply below_alloc | apply pw_below_drewN | apply below_drew1 | refine below_set ?_ GE265.out | refine below_set ?_ GE266.out) | exact HB.out)) hb); have n9_ := Aside0.mk (hbox); have n10_ := Aside0.mk ((by rw [hg]; exact (below_size (by repeat (first | (with_reducible first | exact HB.out | apply below_alloc | apply pw_below_drewN | apply below_drew1 | refine below_set ?_ GE265.out | refine below_set ?_ GE266.out) | exact HB.out))) : w.heap.size ≤ gb267)); have n11_ := Aside0.mk ((by rw [hg]; exact (below_size (by repeat (first | (with_reducible first | exact HB.out | apply below_alloc | apply pw_below_drewN | apply below_drew1 | refine below_set ?_ GE265.out | refine below_set ?_ GE266.out) | exact HB.out))) : w.heap.size ≤ gb267)); have n12_ := Aside0.mk ((by rw [hg]; exact Nat.ne_of_lt (blk_lt (g := gb265) (o := .cells #[.int .i64 a0_0, .int .i64 a0_1, .string a0_2, .slice A0_3 l0_3.length c0_3, .slice A0_4 l0_4.length c0_4] 30 (0, 0)) (by (with_reducible repeat (first | refine blk_drewN ?_ _ | refine blk_drew ?_ | refine blk_alloc ?_ _)); exact BK265.out)) : gb265 ≠ gb267)); have n13_ := Aside0.mk ((by rw [hg]; exact Nat.ne_of_gt (blk_lt (g := gb265) (o := .cells #[.int .i64 a0_0, .int .i64 a0_1, .string a0_2, .slice A0_3 l0_3.length c0_3, .slice A0_4 l0_4.length c0_4] 30 (0, 0)) (by (with_reducible repeat (first | refine blk_drewN ?_ _ | refine blk_drew ?_ | refine blk_alloc ?_ _)); exact BK265.out)) : gb267 ≠ gb265)); have n14_ := Aside0.mk ((by rw [hg]; exact Nat.ne_of_lt (blk_lt (g := gb266) (o := .cells #[.int .i64 a1_0, .int .i64 a1_1, .string a1_2, .slice A1_3 l1_3.length c1_3, .slice A1_4 l1_4.length c1_4] 30 (0, 0)) (by (with_reducible repeat (first | refine blk_drewN ?_ _ | refine blk_drew ?_ | refine blk_alloc ?_ _)); exact BK266.out)) : gb266 ≠ gb267)); have n15_ := Aside0.mk ((by rw [hg]; exact Nat.ne_of_gt (blk_lt (g := gb266) (o := .cells #[.int .i64 a1_0, .int .i64 a1_1, .string a1_2, .slice A1_3 l1_3.length c1_3, .slice A1_4 l1_4.length c1_4] 30 (0, 0)) (by (with_reducible repeat (first | refine blk_drewN ?_ _ | refine blk_drew ?_ | refine blk_alloc ?_ _)); exact BK266.out)) : gb267 ≠ gb266)); clear HO0_3; clear HO0_4; clear HO1_3; clear HO1_4; clear HO2_3; clear HO2_4; clear BK265; clear BK266; clear HB; have HO0_3 := n0_; have HO0_4 := n1_; have HO1_3 := n2_; have HO1_4 := n3_; have HO2_3 := n4_; have HO2_4 := n5_; have BK265 := n6_; have BK266 := n7_; have HB := n8_; have BK267 := n9_; have GW267 := n10_; have GE267 := n11_; have NB265_267 := n12_; have NB267_265 := n13_; have NB266_267 := n14_; have NB267_266 := n15_; clear n0_ n1_ n2_ n3_ n4_ n5_ n6_ n7_ n8_ n9_ n10_ n11_ n12_ n13_ n14_ n15_; clear hb hbox hg))
  (try simp only [Act.put, List.setIfInBounds_toArray, List.set_cons_zero, List.set_cons_succ])
  go_cut [34] (fun v34 wc => ∃ (kq : Nat) (x34_3 : Bool), v34 = .bool x34_3 ∧ Aside0 (munimentlaw03_OrderTotal.j0 kq x34_3 a0_0 a0_1 a0_2 l0_3 l0_4 a1_0 a1_1 a1_2 l1_3 l1_4 a2_0 a2_1 a2_2 l2_3 l2_4 = some r) ∧ Aside0 (kq ≤ k) ∧ Aside0 (Kd.V Kd.string 9 wc w.heap.size (fun k_ => ((P0_3_ k_ ∨ P0_4_ k_ ∨ P1_3_ k_ ∨ P1_4_ k_ ∨ P2_3_ k_ ∨ P2_4_ k_) ∨ w.heap.size ≤ k_) ∧ k_ ≠ gb265 ∧ k_ ≠ gb266 ∧ k_ ≠ gb267) (.slice A0_3 l0_3.length c0_3) l0_3) ∧ Aside0 (Kd.V k30 30 wc w.heap.size (fun k_ => ((P0_3_ k_ ∨ P0_4_ k_ ∨ P1_3_ k_ ∨ P1_4_ k_ ∨ P2_3_ k_ ∨ P2_4_ k_) ∨ w.heap.size ≤ k_) ∧ k_ ≠ gb265 ∧ k_ ≠ gb266 ∧ k_ ≠ gb267) (.slice A0_4 l0_4.length c0_4) l0_4) ∧ Aside0 (Kd.V Kd.string 9 wc w.heap.size (fun k_ => ((P0_3_ k_ ∨ P0_4_ k_ ∨ P1_3_ k_ ∨ P1_4_ k_ ∨ P2_3_ k_ ∨ P2_4_ k_) ∨ w.heap.size ≤ k_) ∧ k_ ≠ gb265 ∧ k_ ≠ gb266 ∧ k_ ≠ gb267) (.slice A1_3 l1_3.length c1_3) l1_3) ∧ Aside0 (Kd.V k30 30 wc w.heap.size (fun k_ => ((P0_3_ k_ ∨ P0_4_ k_ ∨ P1_3_ k_ ∨ P1_4_ k_ ∨ P2_3_ k_ ∨ P2_4_ k_) ∨ w.heap.size ≤ k_) ∧ k_ ≠ gb265 ∧ k_ ≠ gb266 ∧ k_ ≠ gb267) (.slice A1_4 l1_4.length c1_4) l1_4) ∧ Aside0 (Kd.V Kd.string 9 wc w.heap.size (fun k_ => ((P0_3_ k_ ∨ P0_4_ k_ ∨ P1_3_ k_ ∨ P1_4_ k_ ∨ P2_3_ k_ ∨ P2_4_ k_) ∨ w.heap.size ≤ k_) ∧ k_ ≠ gb265 ∧ k_ ≠ gb266 ∧ k_ ≠ gb267) (.slice A2_3 l2_3.length c2_3) l2_3) ∧ Aside0 (Kd.V k30 30 wc w.heap.size (fun k_ => ((P0_3_ k_ ∨ P0_4_ k_ ∨ P1_3_ k_ ∨ P1_4_ k_ ∨ P2_3_ k_ ∨ P2_4_ k_) ∨ w.heap.size ≤ k_) ∧ k_ ≠ gb265 ∧ k_ ≠ gb266 ∧ k_ ≠ gb267) (.slice A2_4 l2_4.length c2_4) l2_4) ∧ Aside0 (wc.heap[gb265]? = some (.cells #[.int .i64 a0_0, .int .i64 a0_1, .string a0_2, (.slice A0_3 l0_3.length c0_3), (.slice A0_4 l0_4.length c0_4)] 30 (0, 0))) ∧ Aside0 (wc.heap[gb266]? = some (.cells #[.int .i64 a1_0, .int .i64 a1_1, .string a1_2, (.slice A1_3 l1_3.length c1_3), (.slice A1_4 l1_4.length c1_4)] 30 (0, 0))) ∧ Aside0 (wc.heap[gb267]? = some (.cells #[.int .i64 a2_0, .int .i64 a2_1, .string a2_2, (.slice A2_3 l2_3.length c2_3), (.slice A2_4 l2_4.length c2_4)] 30 (0, 0))) ∧ Aside0 (Below w.heap.size w wc))
  case first =>
    have H := HC4.out
    clear HC4
    replace H := Option.bind_eq_some_iff.mp H
    obtain ⟨t268, A80, H⟩ := H
    replace H : (if t268 = true then ((munimentlaw03_few.f k (([(⟨a0_0, a0_1, a0_2, l0_3, l0_4⟩ : S30), (⟨a1_0, a1_1, a1_2, l1_3, l1_4⟩ : S30), (⟨a2_0, a2_1, a2_2, l2_3, l2_4⟩ : S30)] : List (S30)))).bind fun t272 => (if t272 = true then ((json_Formed.f k a0_0 a0_1 a0_2 l0_3 l0_4).bind fun t273 => (if t273 = true then ((json_Formed.f k a1_0 a1_1 a1_2 l1_3 l1_4).bind fun t274 => (if t274 = true then ((json_Formed.f k a2_0 a2_1 a2_2 l2_3 l2_4).bind fun t275 => (munimentlaw03_OrderTotal.j0 k (!t275) a0_0 a0_1 a0_2 l0_3 l0_4 a1_0 a1_1 a1_2 l1_3 l1_4 a2_0 a2_1 a2_2 l2_3 l2_4)) else (munimentlaw03_OrderTotal.j0 k true a0_0 a0_1 a0_2 l0_3 l0_4 a1_0 a1_1 a1_2 l1_3 l1_4 a2_0 a2_1 a2_2 l2_3 l2_4))) else (munimentlaw03_OrderTotal.j0 k true a0_0 a0_1 a0_2 l0_3 l0_4 a1_0 a1_1 a1_2 l1_3 l1_4 a2_0 a2_1 a2_2 l2_3 l2_4))) else (munimentlaw03_OrderTotal.j0 k true a0_0 a0_1 a0_2 l0_3 l0_4 a1_0 a1_1 a1_2 l1_3 l1_4 a2_0 a2_1 a2_2 l2_3 l2_4))) else (munimentlaw03_OrderTotal.j0 k true a0_0 a0_1 a0_2 l0_3 l0_4 a1_0 a1_1 a1_2 l1_3 l1_4 a2_0 a2_1 a2_2 l2_3 l2_4)) = some r := H
    have A8 := Aside0.mk A80
    clear A80
    by_cases c9 : t268 = true
    · subst c9
      have H1 : ((munimentlaw03_few.f k (([(⟨a0_0, a0_1, a0_2, l0_3, l0_4⟩ : S30), (⟨a1_0, a1_1, a1_2, l1_3, l1_4⟩ : S30), (⟨a2_0, a2_1, a2_2, l2_3, l2_4⟩ : S30)] : List (S30)))).bind fun t272 => (if t272 = true then ((json_Formed.f k a0_0 a0_1 a0_2 l0_3 l0_4).bind fun t273 => (if t273 = true then ((json_Formed.f k a1_0 a1_1 a1_2 l1_3 l1_4).bind fun t274 => (if t274 = true then ((json_Formed.f k a2_0 a2_1 a2_2 l2_3 l2_4).bind fun t275 => (munimentlaw03_OrderTotal.j0 k (!t275) a0_0 a0_1 a0_2 l0_3 l0_4 a1_0 a1_1 a1_2 l1_3 l1_4 a2_0 a2_1 a2_2 l2_3 l2_4)) else (munimentlaw03_OrderTotal.j0 k true a0_0 a0_1 a0_2 l0_3 l0_4 a1_0 a1_1 a1_2 l1_3 l1_4 a2_0 a2_1 a2_2 l2_3 l2_4))) else (munimentlaw03_OrderTotal.j0 k true a0_0 a0_1 a0_2 l0_3 l0_4 a1_0 a1_1 a1_2 l1_3 l1_4 a2_0 a2_1 a2_2 l2_3 l2_4))) else (munimentlaw03_OrderTotal.j0 k true a0_0 a0_1 a0_2 l0_3 l0_4 a1_0 a1_1 a1_2 l1_3 l1_4 a2_0 a2_1 a2_2 l2_3 l2_4))) = some r := by rw [if_pos rfl] at H; exact H
      clear H
      have H := H1
      clear H1
      obtain ⟨y269, hy269⟩ : ∃ y_ : List (S30), y_ = (([(⟨a0_0, a0_1, a0_2, l0_3, l0_4⟩ : S30), (⟨a1_0, a1_1, a1_2, l1_3, l1_4⟩ : S30), (⟨a2_0, a2_1, a2_2, l2_3, l2_4⟩ : S30)] : List (S30))) := ⟨_, rfl⟩
      replace H : ((munimentlaw03_few.f k y269).bind fun t272 => (if t272 = true then ((json_Formed.f k a0_0 a0_1 a0_2 l0_3 l0_4).bind fun t273 => (if t273 = true then ((json_Formed.f k a1_0 a1_1 a1_2 l1_3 l1_4).bind fun t274 => (if t274 = true then ((json_Formed.f k a2_0 a2_1 a2_2 l2_3 l2_4).bind fun t275 => (munimentlaw03_OrderTotal.j0 k (!t275) a0_0 a0_1 a0_2 l0_3 l0_4 a1_0 a1_1 a1_2 l1_3 l1_4 a2_0 a2_1 a2_2 l2_3 l2_4)) else (munimentlaw03_OrderTotal.j0 k true a0_0 a0_1 a0_2 l0_3 l0_4 a1_0 a1_1 a1_2 l1_3 l1_4 a2_0 a2_1 a2_2 l2_3 l2_4))) else (munimentlaw03_OrderTotal.j0 k true a0_0 a0_1 a0_2 l0_3 l0_4 a1_0 a1_1 a1_2 l1_3 l1_4 a2_0 a2_1 a2_2 l2_3 l2_4))) else (munimentlaw03_OrderTotal.j0 k true a0_0 a0_1 a0_2 l0_3 l0_4 a1_0 a1_1 a1_2 l1_3 l1_4 a2_0 a2_1 a2_2 l2_3 l2_4))) = some r := by first | (rw [hy269]; with_reducible exact H) | (have H2_ := (Option.bind_some _ _).symm.trans H; rw [hy269]; with_reducible exact H2_) | (have H2_ := (Option.bind_some _ _).symm.trans H; with_reducible exact H2_) | with_reducible exact H | (rw [hy269]; exact H) | exact H
      have Ny269 := Aside0.mk hy269
      clear hy269
      replace H := Option.bind_eq_some_iff.mp H
      obtain ⟨t272, A100, H⟩ := H
      replace H : (if t272 = true then ((json_Formed.f k a0_0 a0_1 a0_2 l0_3 l0_4).bind fun t273 => (if t273 = true then ((json_Formed.f k a1_0 a1_1 a1_2 l1_3 l1_4).bind fun t274 => (if t274 = true then ((json_Formed.f k a2_0 a2_1 a2_2 l2_3 l2_4).bind fun t275 => (munimentlaw03_OrderTotal.j0 k (!t275) a0_0 a0_1 a0_2 l0_3 l0_4 a1_0 a1_1 a1_2 l1_3 l1_4 a2_0 a2_1 a2_2 l2_3 l2_4)) else (munimentlaw03_OrderTotal.j0 k true a0_0 a0_1 a0_2 l0_3 l0_4 a1_0 a1_1 a1_2 l1_3 l1_4 a2_0 a2_1 a2_2 l2_3 l2_4))) else (munimentlaw03_OrderTotal.j0 k true a0_0 a0_1 a0_2 l0_3 l0_4 a1_0 a1_1 a1_2 l1_3 l1_4 a2_0 a2_1 a2_2 l2_3 l2_4))) else (munimentlaw03_OrderTotal.j0 k true a0_0 a0_1 a0_2 l0_3 l0_4 a1_0 a1_1 a1_2 l1_3 l1_4 a2_0 a2_1 a2_2 l2_3 l2_4)) = some r := H
      have A10 := Aside0.mk A100
      clear A100
      by_cases c11 : t272 = true
      · subst c11
        have H1 : ((json_Formed.f k a0_0 a0_1 a0_2 l0_3 l0_4).bind fun t273 => (if t273 = true then ((json_Formed.f k a1_0 a1_1 a1_2 l1_3 l1_4).bind fun t274 => (if t274 = true then ((json_Formed.f k a2_0 a2_1 a2_2 l2_3 l2_4).bind fun t275 => (munimentlaw03_OrderTotal.j0 k (!t275) a0_0 a0_1 a0_2 l0_3 l0_4 a1_0 a1_1 a1_2 l1_3 l1_4 a2_0 a2_1 a2_2 l2_3 l2_4)) else (munimentlaw03_OrderTotal.j0 k true a0_0 a0_1 a0_2 l0_3 l0_4 a1_0 a1_1 a1_2 l1_3 l1_4 a2_0 a2_1 a2_2 l2_3 l2_4))) else (munimentlaw03_OrderTotal.j0 k true a0_0 a0_1 a0_2 l0_3 l0_4 a1_0 a1_1 a1_2 l1_3 l1_4 a2_0 a2_1 a2_2 l2_3 l2_4))) = some r := by rw [if_pos rfl] at H; exact H
        clear H
        have H := H1
        clear H1
        replace H := Option.bind_eq_some_iff.mp H
        obtain ⟨t273, A120, H⟩ := H
        replace H : (if t273 = true then ((json_Formed.f k a1_0 a1_1 a1_2 l1_3 l1_4).bind fun t274 => (if t274 = true then ((json_Formed.f k a2_0 a2_1 a2_2 l2_3 l2_4).bind fun t275 => (munimentlaw03_OrderTotal.j0 k (!t275) a0_0 a0_1 a0_2 l0_3 l0_4 a1_0 a1_1 a1_2 l1_3 l1_4 a2_0 a2_1 a2_2 l2_3 l2_4)) else (munimentlaw03_OrderTotal.j0 k true a0_0 a0_1 a0_2 l0_3 l0_4 a1_0 a1_1 a1_2 l1_3 l1_4 a2_0 a2_1 a2_2 l2_3 l2_4))) else (munimentlaw03_OrderTotal.j0 k true a0_0 a0_1 a0_2 l0_3 l0_4 a1_0 a1_1 a1_2 l1_3 l1_4 a2_0 a2_1 a2_2 l2_3 l2_4)) = some r := H
        have A12 := Aside0.mk A120
        clear A120
        by_cases c13 : t273 = true
        · subst c13
          have H1 : ((json_Formed.f k a1_0 a1_1 a1_2 l1_3 l1_4).bind fun t274 => (if t274 = true then ((json_Formed.f k a2_0 a2_1 a2_2 l2_3 l2_4).bind fun t275 => (munimentlaw03_OrderTotal.j0 k (!t275) a0_0 a0_1 a0_2 l0_3 l0_4 a1_0 a1_1 a1_2 l1_3 l1_4 a2_0 a2_1 a2_2 l2_3 l2_4)) else (munimentlaw03_OrderTotal.j0 k true a0_0 a0_1 a0_2 l0_3 l0_4 a1_0 a1_1 a1_2 l1_3 l1_4 a2_0 a2_1 a2_2 l2_3 l2_4))) = some r := by rw [if_pos rfl] at H; exact H
          clear H
          have H := H1
          clear H1
          replace H := Option.bind_eq_some_iff.mp H
          obtain ⟨t274, A140, H⟩ := H
          replace H : (if t274 = true then ((json_Formed.f k a2_0 a2_1 a2_2 l2_3 l2_4).bind fun t275 => (munimentlaw03_OrderTotal.j0 k (!t275) a0_0 a0_1 a0_2 l0_3 l0_4 a1_0 a1_1 a1_2 l1_3 l1_4 a2_0 a2_1 a2_2 l2_3 l2_4)) else (munimentlaw03_OrderTotal.j0 k true a0_0 a0_1 a0_2 l0_3 l0_4 a1_0 a1_1 a1_2 l1_3 l1_4 a2_0 a2_1 a2_2 l2_3 l2_4)) = some r := H
          have A14 := Aside0.mk A140
          clear A140
          by_cases c15 : t274 = true
          · subst c15
            have H1 : ((json_Formed.f k a2_0 a2_1 a2_2 l2_3 l2_4).bind fun t275 => (munimentlaw03_OrderTotal.j0 k (!t275) a0_0 a0_1 a0_2 l0_3 l0_4 a1_0 a1_1 a1_2 l1_3 l1_4 a2_0 a2_1 a2_2 l2_3 l2_4)) = some r := by rw [if_pos rfl] at H; exact H
            clear H
            have H := H1
            clear H1
            replace H := Option.bind_eq_some_iff.mp H
            obtain ⟨t275, A160, H⟩ := H
            replace H : (munimentlaw03_OrderTotal.j0 k (!t275) a0_0 a0_1 a0_2 l0_3 l0_4 a1_0 a1_1 a1_2 l1_3 l1_4 a2_0 a2_1 a2_2 l2_3 l2_4) = some r := H
            have A16 := Aside0.mk A160
            clear A160
            have H' := Aside0.mk H
            clear H
            go_wp2_with (first | ((with_reducible refine gate_callee (f := 9) rfl ?_); refine goesL_ (some 10) rfl rfl Tryd.func9 (by kernel_rfl) rfl #[] rfl (by (try simp only [List.map_toArray, List.map_cons, List.map_nil]); first | done | rfl | (simp only [List.length_drop, List.length_take]; rfl)) ?_; (with_reducible refine (munimentlaw03_awake.calls k  true _ ?side1 A8.out).mono ?_); (case side1 => first | exact HT.out | (refine tabs_below HT.out ?_; repeat (first | exact HB.out | (with_reducible first | apply below_alloc | apply pw_below_drewN | apply below_drew1 | exact Below.refl _ _) | (refine below_set ?_ (Aside0.out (by assumption)))))); rintro e w17 ⟨rfl, hb⟩; refine ⟨_, rfl, ?_⟩; have n0_ := Aside0.mk (Kd.V_below (by (with_reducible repeat (first | apply Kd.V_alloc | apply Kd.V_drewN | apply Kd.V_drew)); exact HO0_3.out) hb); have n1_ := Aside0.mk (Kd.V_below (by (with_reducible repeat (first | apply Kd.V_alloc | apply Kd.V_drewN | apply Kd.V_drew)); exact HO0_4.out) hb); have n2_ := Aside0.mk (Kd.V_below (by (with_reducible repeat (first | apply Kd.V_alloc | apply Kd.V_drewN | apply Kd.V_drew)); exact HO1_3.out) hb); have n3_ := Aside0.mk (Kd.V_below (by (with_reducible repeat (first | apply Kd.V_alloc | apply Kd.V_drewN | apply Kd.V_drew)); exact HO1_4.out) hb); have n4_ := Aside0.mk (Kd.V_below (by (with_reducible repeat (first | apply Kd.V_alloc | apply Kd.V_drewN | apply Kd.V_drew)); exact HO2_3.out) hb); have n5_ := Aside0.mk (Kd.V_below (by (with_reducible repeat (first | apply Kd.V_alloc | apply Kd.V_drewN | apply Kd.V_drew)); exact HO2_4.out) hb); have n6_ := Aside0.mk (blk_below (g := gb265) (o := .cells #[.int .i64 a0_0, .int .i64 a0_1, .string a0_2, .slice A0_3 l0_3.length c0_3, .slice A0_4 l0_4.length c0_4] 30 (0, 0)) (by (with_reducible repeat (first | refine blk_drewN ?_ _ | refine blk_drew ?_ | refine blk_alloc ?_ _)); exact BK265.out) hb); have n7_ := Aside0.mk (blk_below (g := gb266) (o := .cells #[.int .i64 a1_0, .int .i64 a1_1, .string a1_2, .slice A1_3 l1_3.length c1_3, .slice A1_4 l1_4.length c1_4] 30 (0, 0)) (by (with_reducible repeat (first | refine blk_drewN ?_ _ | refine blk_drew ?_ | refine blk_alloc ?_ _)); exact BK266.out) hb); have n8_ := Aside0.mk (blk_below (g := gb267) (o := .cells #[.int .i64 a2_0, .int .i64 a2_1, .string a2_2, .slice A2_3 l2_3.length c2_3, .slice A2_4 l2_4.length c2_4] 30 (0, 0)) (by (with_reducible repeat (first | refine blk_drewN ?_ _ | refine blk_drew ?_ | refine blk_alloc ?_ _)); exact BK267.out) hb); have n9_ := Aside0.mk (below_step (by repeat (first | (with_reducible first | exact HB.out | apply below_alloc | apply pw_below_drewN | apply below_drew1 | refine below_set ?_ GE265.out | refine below_set ?_ GE266.out | refine below_set ?_ GE267.out) | exact HB.out)) hb); clear HO0_3; clear HO0_4; clear HO1_3; clear HO1_4; clear HO2_3; clear HO2_4; clear BK265; clear BK266; clear BK267; clear HB; have HO0_3 := n0_; have HO0_4 := n1_; have HO1_3 := n2_; have HO1_4 := n3_; have HO2_3 := n4_; have HO2_4 := n5_; have BK265 := n6_; have BK266 := n7_; have BK267 := n8_; have HB := n9_; clear n0_ n1_ n2_ n3_ n4_ n5_ n6_ n7_ n8_ n9_; (try clear hb); (try clear hb2); (try clear hk); (try clear hi); have hnb18 := NB265_266.out; have hnc18 := NB266_265.out; have hnb19 := NB265_267.out; have hnc19 := NB267_265.out; have hcz20_0 : w17.cell? ⟨gb265, 0, none⟩ = some (.int .i64 a0_0) := (blk_cell BK265.out 0).trans rfl; have hcz20_1 : w17.cell? ⟨gb265, 1, none⟩ = some (.int .i64 a0_1) := (blk_cell BK265.out 1).trans rfl; have hcz20_2 : w17.cell? ⟨gb265, 2, none⟩ = some (.string a0_2) := (blk_cell BK265.out 2).trans rfl; have hcz20_3 : w17.cell? ⟨gb265, 3, none⟩ = some (.slice A0_3 l0_3.length c0_3) := (blk_cell BK265.out 3).trans rfl; have hcz20_4 : w17.cell? ⟨gb265, 4, none⟩ = some (.slice A0_4 l0_4.length c0_4) := (blk_cell BK265.out 4).trans rfl; have hfz20_0 := blk_frozen BK265.out 0; have hfz20_1 := blk_frozen BK265.out 1; have hfz20_2 := blk_frozen BK265.out 2; have hfz20_3 := blk_frozen BK265.out 3; have hfz20_4 := blk_frozen BK265.out 4; have hnb21 := NB266_267.out; have hnc21 := NB267_266.out; have hcz22_0 : w17.cell? ⟨gb266, 0, none⟩ = some (.int .i64 a1_0) := (blk_cell BK266.out 0).trans rfl; have hcz22_1 : w17.cell? ⟨gb266, 1, none⟩ = some (.int .i64 a1_1) := (blk_cell BK266.out 1).trans rfl; have hcz22_2 : w17.cell? ⟨gb266, 2, none⟩ = some (.string a1_2) := (blk_cell BK266.out 2).trans rfl; have hcz22_3 : w17.cell? ⟨gb266, 3, none⟩ = some (.slice A1_3 l1_3.length c1_3) := (blk_cell BK266.out 3).trans rfl; have hcz22_4 : w17.cell? ⟨gb266, 4, none⟩ = some (.slice A1_4 l1_4.length c1_4) := (blk_cell BK266.out 4).trans rfl; have hfz22_0 := blk_frozen BK266.out 0; have hfz22_1 := blk_frozen BK266.out 1; have hfz22_2 := blk_frozen BK266.out 2; have hfz22_3 := blk_frozen BK266.out 3; have hfz22_4 := blk_frozen BK266.out 4; have hcz23_0 : w17.cell? ⟨gb267, 0, none⟩ = some (.int .i64 a2_0) := (blk_cell BK267.out 0).trans rfl; have hcz23_1 : w17.cell? ⟨gb267, 1, none⟩ = some (.int .i64 a2_1) := (blk_cell BK267.out 1).trans rfl; have hcz23_2 : w17.cell? ⟨gb267, 2, none⟩ = some (.string a2_2) := (blk_cell BK267.out 2).trans rfl; have hcz23_3 : w17.cell? ⟨gb267, 3, none⟩ = some (.slice A2_3 l2_3.length c2_3) := (blk_cell BK267.out 3).trans rfl; have hcz23_4 : w17.cell? ⟨gb267, 4, none⟩ = some (.slice A2_4 l2_4.length c2_4) := (blk_cell BK267.out 4).trans rfl; have hfz23_0 := blk_frozen BK267.out 0; have hfz23_1 := blk_frozen BK267.out 1; have hfz23_2 := blk_frozen BK267.out 2; have hfz23_3 := blk_frozen BK267.out 3; have hfz23_4 := blk_frozen BK267.out 4) | ((with_reducible refine gate_dst (N := 16) rfl ?_); (try (refine gate_guard (by rfl) ?_; dsimp only)); refine Kd.N_lit k30 _ 30 ?hg (N' := 16) ?hd (xs := ([(⟨a0_0, a0_1, a0_2, l0_3, l0_4⟩ : S30), (⟨a1_0, a1_1, a1_2, l1_3, l1_4⟩ : S30), (⟨a2_0, a2_1, a2_2, l2_3, l2_4⟩ : S30)] : List (S30))) (inner := [.int .i64 a0_0, .int .i64 a0_1, .string a0_2, .slice A0_3 l0_3.length c0_3, .slice A0_4 l0_4.length c0_4, .int .i64 a1_0, .int .i64 a1_1, .string a1_2, .slice A1_3 l1_3.length c1_3, .slice A1_4 l1_4.length c1_4, .int .i64 a2_0, .int .i64 a2_1, .string a2_2, .slice A2_3 l2_3.length c2_3, .slice A2_4 l2_4.length c2_4]) (ok := (fun k_ => ((P0_3_ k_ ∨ P0_4_ k_ ∨ P1_3_ k_ ∨ P1_4_ k_ ∨ P2_3_ k_ ∨ P2_4_ k_) ∨ w.heap.size ≤ k_) ∧ k_ ≠ gb265 ∧ k_ ≠ gb266 ∧ k_ ≠ gb267)) (okp := (fun k_ => ((P0_3_ k_ ∨ P0_4_ k_ ∨ P1_3_ k_ ∨ P1_4_ k_ ∨ P2_3_ k_ ∨ P2_4_ k_) ∨ w.heap.size ≤ k_) ∧ k_ ≠ gb265 ∧ k_ ≠ gb266 ∧ k_ ≠ gb267)) ?hr ?hp (fun _ hk => hk) ((show ∀ k_, w17.heap.size ≤ k_ → (fun k_ => ((P0_3_ k_ ∨ P0_4_ k_ ∨ P1_3_ k_ ∨ P1_4_ k_ ∨ P2_3_ k_ ∨ P2_4_ k_) ∨ w.heap.size ≤ k_) ∧ k_ ≠ gb265 ∧ k_ ≠ gb266 ∧ k_ ≠ gb267) k_ from fun k_ hk => ⟨(.inr (Nat.le_trans (below_size (by repeat (first | (with_reducible first | exact HB.out | apply below_alloc | apply pw_below_drewN | apply below_drew1 | refine below_set ?_ GE265.out | refine below_set ?_ GE266.out | refine below_set ?_ GE267.out) | exact HB.out))) hk)), Kd.freshB (g := gb265) (o := .cells #[.int .i64 a0_0, .int .i64 a0_1, .string a0_2, .slice A0_3 l0_3.length c0_3, .slice A0_4 l0_4.length c0_4] 30 (0, 0)) (by (with_reducible repeat (first | refine blk_drewN ?_ _ | refine blk_drew ?_ | refine blk_alloc ?_ _)); exact BK265.out) k_ hk, Kd.freshB (g := gb266) (o := .cells #[.int .i64 a1_0, .int .i64 a1_1, .string a1_2, .slice A1_3 l1_3.length c1_3, .slice A1_4 l1_4.length c1_4] 30 (0, 0)) (by (with_reducible repeat (first | refine blk_drewN ?_ _ | refine blk_drew ?_ | refine blk_alloc ?_ _)); exact BK266.out) k_ hk, Kd.freshB (g := gb267) (o := .cells #[.int .i64 a2_0, .int .i64 a2_1, .string a2_2, .slice A2_3 l2_3.length c2_3, .slice A2_4 l2_4.length c2_4] 30 (0, 0)) (by (with_reducible repeat (first | refine blk_drewN ?_ _ | refine blk_drew ?_ | refine blk_alloc ?_ _)); exact BK267.out) k_ hk⟩) _ (Nat.le_refl _)) (Below.refl _ _) (Nat.le_refl _) (by simp) ?_; (case hd => rfl); (case hg => rfl); (case hr => first | (go_simp; done) | (go_simp; rfl)); (case hp => exact (Reps.c5 (show Kd.FK k30 _ _ (⟨a0_0, a0_1, a0_2, l0_3, l0_4⟩ : S30) [.int .i64 a0_0, .int .i64 a0_1, .string a0_2, .slice A0_3 l0_3.length c0_3, .slice A0_4 l0_4.length c0_4] from (k30_mkF _ _ (⟨a0_0, a0_1, a0_2, l0_3, l0_4⟩ : S30) (Kd.V_reads' (Kd.V_mono (ok' := (fun k_ => ((P0_3_ k_ ∨ P0_4_ k_ ∨ P1_3_ k_ ∨ P1_4_ k_ ∨ P2_3_ k_ ∨ P2_4_ k_) ∨ w.heap.size ≤ k_) ∧ k_ ≠ gb265 ∧ k_ ≠ gb266 ∧ k_ ≠ gb267)) (HO0_3.out) (fun k_ hk => ⟨hk.1.1.1, ⟨hk.1.1.2, ⟨hk.1.2, hk.2⟩⟩⟩))).2.1 (Kd.V_F (Kd.V_mono (ok' := (fun k_ => ((P0_3_ k_ ∨ P0_4_ k_ ∨ P1_3_ k_ ∨ P1_4_ k_ ∨ P2_3_ k_ ∨ P2_4_ k_) ∨ w.heap.size ≤ k_) ∧ k_ ≠ gb265 ∧ k_ ≠ gb266 ∧ k_ ≠ gb267)) (HO0_3.out) (fun k_ hk => ⟨hk.1.1.1, ⟨hk.1.1.2, ⟨hk.1.2, hk.2⟩⟩⟩))) (Kd.V_reads' (Kd.V_mono (ok' := (fun k_ => ((P0_3_ k_ ∨ P0_4_ k_ ∨ P1_3_ k_ ∨ P1_4_ k_ ∨ P2_3_ k_ ∨ P2_4_ k_) ∨ w.heap.size ≤ k_) ∧ k_ ≠ gb265 ∧ k_ ≠ gb266 ∧ k_ ≠ gb267)) (HO0_4.out) (fun k_ hk => ⟨hk.1.1.1, ⟨hk.1.1.2, ⟨hk.1.2, hk.2⟩⟩⟩))).2.1 (Kd.V_F (Kd.V_mono (ok' := (fun k_ => ((P0_3_ k_ ∨ P0_4_ k_ ∨ P1_3_ k_ ∨ P1_4_ k_ ∨ P2_3_ k_ ∨ P2_4_ k_) ∨ w.heap.size ≤ k_) ∧ k_ ≠ gb265 ∧ k_ ≠ gb266 ∧ k_ ≠ gb267)) (HO0_4.out) (fun k_ hk => ⟨hk.1.1.1, ⟨hk.1.1.2, ⟨hk.1.2, hk.2⟩⟩⟩))))) (Reps.c5 (show Kd.FK k30 _ _ (⟨a1_0, a1_1, a1_2, l1_3, l1_4⟩ : S30) [.int .i64 a1_0, .int .i64 a1_1, .string a1_2, .slice A1_3 l1_3.length c1_3, .slice A1_4 l1_4.length c1_4] from (k30_mkF _ _ (⟨a1_0, a1_1, a1_2, l1_3, l1_4⟩ : S30) (Kd.V_reads' (Kd.V_mono (ok' := (fun k_ => ((P0_3_ k_ ∨ P0_4_ k_ ∨ P1_3_ k_ ∨ P1_4_ k_ ∨ P2_3_ k_ ∨ P2_4_ k_) ∨ w.heap.size ≤ k_) ∧ k_ ≠ gb265 ∧ k_ ≠ gb266 ∧ k_ ≠ gb267)) (HO1_3.out) (fun k_ hk => ⟨hk.1.1.1, ⟨hk.1.1.2, ⟨hk.1.2, hk.2⟩⟩⟩))).2.1 (Kd.V_F (Kd.V_mono (ok' := (fun k_ => ((P0_3_ k_ ∨ P0_4_ k_ ∨ P1_3_ k_ ∨ P1_4_ k_ ∨ P2_3_ k_ ∨ P2_4_ k_) ∨ w.heap.size ≤ k_) ∧ k_ ≠ gb265 ∧ k_ ≠ gb266 ∧ k_ ≠ gb267)) (HO1_3.out) (fun k_ hk => ⟨hk.1.1.1, ⟨hk.1.1.2, ⟨hk.1.2, hk.2⟩⟩⟩))) (Kd.V_reads' (Kd.V_mono (ok' := (fun k_ => ((P0_3_ k_ ∨ P0_4_ k_ ∨ P1_3_ k_ ∨ P1_4_ k_ ∨ P2_3_ k_ ∨ P2_4_ k_) ∨ w.heap.size ≤ k_) ∧ k_ ≠ gb265 ∧ k_ ≠ gb266 ∧ k_ ≠ gb267)) (HO1_4.out) (fun k_ hk => ⟨hk.1.1.1, ⟨hk.1.1.2, ⟨hk.1.2, hk.2⟩⟩⟩))).2.1 (Kd.V_F (Kd.V_mono (ok' := (fun k_ => ((P0_3_ k_ ∨ P0_4_ k_ ∨ P1_3_ k_ ∨ P1_4_ k_ ∨ P2_3_ k_ ∨ P2_4_ k_) ∨ w.heap.size ≤ k_) ∧ k_ ≠ gb265 ∧ k_ ≠ gb266 ∧ k_ ≠ gb267)) (HO1_4.out) (fun k_ hk => ⟨hk.1.1.1, ⟨hk.1.1.2, ⟨hk.1.2, hk.2⟩⟩⟩))))) (Reps.c5 (show Kd.FK k30 _ _ (⟨a2_0, a2_1, a2_2, l2_3, l2_4⟩ : S30) [.int .i64 a2_0, .int .i64 a2_1, .string a2_2, .slice A2_3 l2_3.length c2_3, .slice A2_4 l2_4.length c2_4] from (k30_mkF _ _ (⟨a2_0, a2_1, a2_2, l2_3, l2_4⟩ : S30) (Kd.V_reads' (Kd.V_mono (ok' := (fun k_ => ((P0_3_ k_ ∨ P0_4_ k_ ∨ P1_3_ k_ ∨ P1_4_ k_ ∨ P2_3_ k_ ∨ P2_4_ k_) ∨ w.heap.size ≤ k_) ∧ k_ ≠ gb265 ∧ k_ ≠ gb266 ∧ k_ ≠ gb267)) (HO2_3.out) (fun k_ hk => ⟨hk.1.1.1, ⟨hk.1.1.2, ⟨hk.1.2, hk.2⟩⟩⟩))).2.1 (Kd.V_F (Kd.V_mono (ok' := (fun k_ => ((P0_3_ k_ ∨ P0_4_ k_ ∨ P1_3_ k_ ∨ P1_4_ k_ ∨ P2_3_ k_ ∨ P2_4_ k_) ∨ w.heap.size ≤ k_) ∧ k_ ≠ gb265 ∧ k_ ≠ gb266 ∧ k_ ≠ gb267)) (HO2_3.out) (fun k_ hk => ⟨hk.1.1.1, ⟨hk.1.1.2, ⟨hk.1.2, hk.2⟩⟩⟩))) (Kd.V_reads' (Kd.V_mono (ok' := (fun k_ => ((P0_3_ k_ ∨ P0_4_ k_ ∨ P1_3_ k_ ∨ P1_4_ k_ ∨ P2_3_ k_ ∨ P2_4_ k_) ∨ w.heap.size ≤ k_) ∧ k_ ≠ gb265 ∧ k_ ≠ gb266 ∧ k_ ≠ gb267)) (HO2_4.out) (fun k_ hk => ⟨hk.1.1.1, ⟨hk.1.1.2, ⟨hk.1.2, hk.2⟩⟩⟩))).2.1 (Kd.V_F (Kd.V_mono (ok' := (fun k_ => ((P0_3_ k_ ∨ P0_4_ k_ ∨ P1_3_ k_ ∨ P1_4_ k_ ∨ P2_3_ k_ ∨ P2_4_ k_) ∨ w.heap.size ≤ k_) ∧ k_ ≠ gb265 ∧ k_ ≠ gb266 ∧ k_ ≠ gb267)) (HO2_4.out) (fun k_ hk => ⟨hk.1.1.1, ⟨hk.1.1.2, ⟨hk.1.2, hk.2⟩⟩⟩))))) (Reps.none _ _))))); intro v270 w24 ho25 hb hg_ hnew_; clear hg_ hnew_; (first | rw [← Ny269.out] at ho25 | (simp only [Int.reduceToNat] at ho25; rw [← Ny269.out] at ho25)); have n0_ := Aside0.mk (Kd.V_elder' (by (with_reducible repeat (first | apply Kd.V_alloc | apply Kd.V_drewN | apply Kd.V_drew)); exact HO0_3.out) (Kd.N_base ho25) hb); have n1_ := Aside0.mk (Kd.V_elder' (by (with_reducible repeat (first | apply Kd.V_alloc | apply Kd.V_drewN | apply Kd.V_drew)); exact HO0_4.out) (Kd.N_base ho25) hb); have n2_ := Aside0.mk (Kd.V_elder' (by (with_reducible repeat (first | apply Kd.V_alloc | apply Kd.V_drewN | apply Kd.V_drew)); exact HO1_3.out) (Kd.N_base ho25) hb); have n3_ := Aside0.mk (Kd.V_elder' (by (with_reducible repeat (first | apply Kd.V_alloc | apply Kd.V_drewN | apply Kd.V_drew)); exact HO1_4.out) (Kd.N_base ho25) hb); have n4_ := Aside0.mk (Kd.V_elder' (by (with_reducible repeat (first | apply Kd.V_alloc | apply Kd.V_drewN | apply Kd.V_drew)); exact HO2_3.out) (Kd.N_base ho25) hb); have n5_ := Aside0.mk (Kd.V_elder' (by (with_reducible repeat (first | apply Kd.V_alloc | apply Kd.V_drewN | apply Kd.V_drew)); exact HO2_4.out) (Kd.N_base ho25) hb); have n6_ := Aside0.mk (Kd.N_lower ho25 (below_size (by repeat (first | (with_reducible first | exact HB.out | apply below_alloc | apply pw_below_drewN | apply below_drew1 | refine below_set ?_ GE265.out | refine below_set ?_ GE266.out | refine below_set ?_ GE267.out) | exact HB.out)))); have n7_ := Aside0.mk (blk_below (g := gb265) (o := .cells #[.int .i64 a0_0, .int .i64 a0_1, .string a0_2, .slice A0_3 l0_3.length c0_3, .slice A0_4 l0_4.length c0_4] 30 (0, 0)) (by (with_reducible repeat (first | refine blk_drewN ?_ _ | refine blk_drew ?_ | refine blk_alloc ?_ _)); exact BK265.out) hb); have n8_ := Aside0.mk (blk_below (g := gb266) (o := .cells #[.int .i64 a1_0, .int .i64 a1_1, .string a1_2, .slice A1_3 l1_3.length c1_3, .slice A1_4 l1_4.length c1_4] 30 (0, 0)) (by (with_reducible repeat (first | refine blk_drewN ?_ _ | refine blk_drew ?_ | refine blk_alloc ?_ _)); exact BK266.out) hb); have n9_ := Aside0.mk (blk_below (g := gb267) (o := .cells #[.int .i64 a2_0, .int .i64 a2_1, .string a2_2, .slice A2_3 l2_3.length c2_3, .slice A2_4 l2_4.length c2_4] 30 (0, 0)) (by (with_reducible repeat (first | refine blk_drewN ?_ _ | refine blk_drew ?_ | refine blk_alloc ?_ _)); exact BK267.out) hb); have n10_ := Aside0.mk (below_step (by repeat (first | (with_reducible first | exact HB.out | apply below_alloc | apply pw_below_drewN | apply below_drew1 | refine below_set ?_ GE265.out | refine below_set ?_ GE266.out | refine below_set ?_ GE267.out) | exact HB.out)) hb); clear HO0_3; clear HO0_4; clear HO1_3; clear HO1_4; clear HO2_3; clear HO2_4; clear BK265; clear BK266; clear BK267; clear HB; have HO0_3 := n0_; have HO0_4 := n1_; have HO1_3 := n2_; have HO1_4 := n3_; have HO2_3 := n4_; have HO2_4 := n5_; have HO271 := n6_; have BK265 := n7_; have BK266 := n8_; have BK267 := n9_; have HB := n10_; clear n0_ n1_ n2_ n3_ n4_ n5_ n6_ n7_ n8_ n9_ n10_; clear hb ho25; obtain ⟨Ao26, co26, eo26⟩ := Kd.N_slice HO271.out; subst eo26) | (go_at_call 10; (with_reducible refine (munimentlaw03_few.calls k _ _ y269 true _ ?side1 ?side2 A10.out).mono ?_); (case side1 => repeat (first | exact (Kd.N_reads' HO271.out).2.2 | (with_reducible refine Kd.C_alloc ?_ _) | (with_reducible refine Kd.C_drewN ?_ _) | (with_reducible refine Kd.C_drew ?_))); (case side2 => exact (Kd.N_reads' HO271.out).2.1); rintro e w27 ⟨rfl, hb⟩; have n0_ := Aside0.mk (Kd.V_below (by (with_reducible repeat (first | apply Kd.V_alloc | apply Kd.V_drewN | apply Kd.V_drew)); exact HO0_3.out) hb); have n1_ := Aside0.mk (Kd.V_below (by (with_reducible repeat (first | apply Kd.V_alloc | apply Kd.V_drewN | apply Kd.V_drew)); exact HO0_4.out) hb); have n2_ := Aside0.mk (Kd.V_below (by (with_reducible repeat (first | apply Kd.V_alloc | apply Kd.V_drewN | apply Kd.V_drew)); exact HO1_3.out) hb); have n3_ := Aside0.mk (Kd.V_below (by (with_reducible repeat (first | apply Kd.V_alloc | apply Kd.V_drewN | apply Kd.V_drew)); exact HO1_4.out) hb); have n4_ := Aside0.mk (Kd.V_below (by (with_reducible repeat (first | apply Kd.V_alloc | apply Kd.V_drewN | apply Kd.V_drew)); exact HO2_3.out) hb); have n5_ := Aside0.mk (Kd.V_below (by (with_reducible repeat (first | apply Kd.V_alloc | apply Kd.V_drewN | apply Kd.V_drew)); exact HO2_4.out) hb); have n6_ := Aside0.mk (Kd.N_below (by (with_reducible repeat (first | apply Kd.N_alloc | apply Kd.N_drewN | apply Kd.N_drew)); exact HO271.out) hb); have n7_ := Aside0.mk (blk_below (g := gb265) (o := .cells #[.int .i64 a0_0, .int .i64 a0_1, .string a0_2, .slice A0_3 l0_3.length c0_3, .slice A0_4 l0_4.length c0_4] 30 (0, 0)) (by (with_reducible repeat (first | refine blk_drewN ?_ _ | refine blk_drew ?_ | refine blk_alloc ?_ _)); exact BK265.out) hb); have n8_ := Aside0.mk (blk_below (g := gb266) (o := .cells #[.int .i64 a1_0, .int .i64 a1_1, .string a1_2, .slice A1_3 l1_3.length c1_3, .slice A1_4 l1_4.length c1_4] 30 (0, 0)) (by (with_reducible repeat (first | refine blk_drewN ?_ _ | refine blk_drew ?_ | refine blk_alloc ?_ _)); exact BK266.out) hb); have n9_ := Aside0.mk (blk_below (g := gb267) (o := .cells #[.int .i64 a2_0, .int .i64 a2_1, .string a2_2, .slice A2_3 l2_3.length c2_3, .slice A2_4 l2_4.length c2_4] 30 (0, 0)) (by (with_reducible repeat (first | refine blk_drewN ?_ _ | refine blk_drew ?_ | refine blk_alloc ?_ _)); exact BK267.out) hb); have n10_ := Aside0.mk (below_step (by repeat (first | (with_reducible first | exact HB.out | apply below_alloc | apply pw_below_drewN | apply below_drew1 | refine below_set ?_ GE265.out | refine below_set ?_ GE266.out | refine below_set ?_ GE267.out) | exact HB.out)) hb); clear HO0_3; clear HO0_4; clear HO1_3; clear HO1_4; clear HO2_3; clear HO2_4; clear HO271; clear BK265; clear BK266; clear BK267; clear HB; have HO0_3 := n0_; have HO0_4 := n1_; have HO1_3 := n2_; have HO1_4 := n3_; have HO2_3 := n4_; have HO2_4 := n5_; have HO271 := n6_; have BK265 := n7_; have BK266 := n8_; have BK267 := n9_; have HB := n10_; clear n0_ n1_ n2_ n3_ n4_ n5_ n6_ n7_ n8_ n9_ n10_; (try clear hb); (try clear hb2); (try clear hk); (try clear hi); have hcz28_0 : w27.cell? ⟨gb265, 0, none⟩ = some (.int .i64 a0_0) := (blk_cell BK265.out 0).trans rfl; have hcz28_1 : w27.cell? ⟨gb265, 1, none⟩ = some (.int .i64 a0_1) := (blk_cell BK265.out 1).trans rfl; have hcz28_2 : w27.cell? ⟨gb265, 2, none⟩ = some (.string a0_2) := (blk_cell BK265.out 2).trans rfl; have hcz28_3 : w27.cell? ⟨gb265, 3, none⟩ = some (.slice A0_3 l0_3.length c0_3) := (blk_cell BK265.out 3).trans rfl; have hcz28_4 : w27.cell? ⟨gb265, 4, none⟩ = some (.slice A0_4 l0_4.length c0_4) := (blk_cell BK265.out 4).trans rfl; have hfz28_0 := blk_frozen BK265.out 0; have hfz28_1 := blk_frozen BK265.out 1; have hfz28_2 := blk_frozen BK265.out 2; have hfz28_3 := blk_frozen BK265.out 3; have hfz28_4 := blk_frozen BK265.out 4) | (go_at_call 16; (with_reducible refine (json_Formed.calls k a0_0 a0_1 a0_2 _ _ l0_3 _ _ l0_4 true _ ?side1 ?side2 ?side3 ?side4 ?side5 A12.out).mono ?_); (case side1 => repeat (first | exact (Kd.V_reads' HO0_3.out).2.2 | (with_reducible refine Kd.C_alloc ?_ _) | (with_reducible refine Kd.C_drewN ?_ _) | (with_reducible refine Kd.C_drew ?_))); (case side2 => exact (Kd.V_reads' HO0_3.out).2.1); (case side3 => repeat (first | exact (Kd.V_reads' HO0_4.out).2.2 | (with_reducible refine Kd.C_alloc ?_ _) | (with_reducible refine Kd.C_drewN ?_ _) | (with_reducible refine Kd.C_drew ?_))); (case side4 => exact (Kd.V_reads' HO0_4.out).2.1); (case side5 => first | exact HT.out | (refine tabs_below HT.out ?_; repeat (first | exact HB.out | (with_reducible first | apply below_alloc | apply pw_below_drewN | apply below_drew1 | exact Below.refl _ _) | (refine below_set ?_ (Aside0.out (by assumption)))))); rintro e w29 ⟨rfl, hb⟩; have n0_ := Aside0.mk (Kd.V_below (by (with_reducible repeat (first | apply Kd.V_alloc | apply Kd.V_drewN | apply Kd.V_drew)); exact HO0_3.out) hb); have n1_ := Aside0.mk (Kd.V_below (by (with_reducible repeat (first | apply Kd.V_alloc | apply Kd.V_drewN | apply Kd.V_drew)); exact HO0_4.out) hb); have n2_ := Aside0.mk (Kd.V_below (by (with_reducible repeat (first | apply Kd.V_alloc | apply Kd.V_drewN | apply Kd.V_drew)); exact HO1_3.out) hb); have n3_ := Aside0.mk (Kd.V_below (by (with_reducible repeat (first | apply Kd.V_alloc | apply Kd.V_drewN | apply Kd.V_drew)); exact HO1_4.out) hb); have n4_ := Aside0.mk (Kd.V_below (by (with_reducible repeat (first | apply Kd.V_alloc | apply Kd.V_drewN | apply Kd.V_drew)); exact HO2_3.out) hb); have n5_ := Aside0.mk (Kd.V_below (by (with_reducible repeat (first | apply Kd.V_alloc | apply Kd.V_drewN | apply Kd.V_drew)); exact HO2_4.out) hb); have n6_ := Aside0.mk (Kd.N_below (by (with_reducible repeat (first | apply Kd.N_alloc | apply Kd.N_drewN | apply Kd.N_drew)); exact HO271.out) hb); have n7_ := Aside0.mk (blk_below (g := gb265) (o := .cells #[.int .i64 a0_0, .int .i64 a0_1, .string a0_2, .slice A0_3 l0_3.length c0_3, .slice A0_4 l0_4.length c0_4] 30 (0, 0)) (by (with_reducible repeat (first | refine blk_drewN ?_ _ | refine blk_drew ?_ | refine blk_alloc ?_ _)); exact BK265.out) hb); have n8_ := Aside0.mk (blk_below (g := gb266) (o := .cells #[.int .i64 a1_0, .int .i64 a1_1, .string a1_2, .slice A1_3 l1_3.length c1_3, .slice A1_4 l1_4.length c1_4] 30 (0, 0)) (by (with_reducible repeat (first | refine blk_drewN ?_ _ | refine blk_drew ?_ | refine blk_alloc ?_ _)); exact BK266.out) hb); have n9_ := Aside0.mk (blk_below (g := gb267) (o := .cells #[.int .i64 a2_0, .int .i64 a2_1, .string a2_2, .slice A2_3 l2_3.length c2_3, .slice A2_4 l2_4.length c2_4] 30 (0, 0)) (by (with_reducible repeat (first | refine blk_drewN ?_ _ | refine blk_drew ?_ | refine blk_alloc ?_ _)); exact BK267.out) hb); have n10_ := Aside0.mk (below_step (by repeat (first | (with_reducible first | exact HB.out | apply below_alloc | apply pw_below_drewN | apply below_drew1 | refine below_set ?_ GE265.out | refine below_set ?_ GE266.out | refine below_set ?_ GE267.out) | exact HB.out)) hb); clear HO0_3; clear HO0_4; clear HO1_3; clear HO1_4; clear HO2_3; clear HO2_4; clear HO271; clear BK265; clear BK266; clear BK267; clear HB; have HO0_3 := n0_; have HO0_4 := n1_; have HO1_3 := n2_; have HO1_4 := n3_; have HO2_3 := n4_; have HO2_4 := n5_; have HO271 := n6_; have BK265 := n7_; have BK266 := n8_; have BK267 := n9_; have HB := n10_; clear n0_ n1_ n2_ n3_ n4_ n5_ n6_ n7_ n8_ n9_ n10_; (try clear hb); (try clear hb2); (try clear hk); (try clear hi); have hcz30_0 : w29.cell? ⟨gb266, 0, none⟩ = some (.int .i64 a1_0) := (blk_cell BK266.out 0).trans rfl; have hcz30_1 : w29.cell? ⟨gb266, 1, none⟩ = some (.int .i64 a1_1) := (blk_cell BK266.out 1).trans rfl; have hcz30_2 : w29.cell? ⟨gb266, 2, none⟩ = some (.string a1_2) := (blk_cell BK266.out 2).trans rfl; have hcz30_3 : w29.cell? ⟨gb266, 3, none⟩ = some (.slice A1_3 l1_3.length c1_3) := (blk_cell BK266.out 3).trans rfl; have hcz30_4 : w29.cell? ⟨gb266, 4, none⟩ = some (.slice A1_4 l1_4.length c1_4) := (blk_cell BK266.out 4).trans rfl; have hfz30_0 := blk_frozen BK266.out 0; have hfz30_1 := blk_frozen BK266.out 1; have hfz30_2 := blk_frozen BK266.out 2; have hfz30_3 := blk_frozen BK266.out 3; have hfz30_4 := blk_frozen BK266.out 4) | (go_at_call 16; (with_reducible refine (json_Formed.calls k a1_0 a1_1 a1_2 _ _ l1_3 _ _ l1_4 true _ ?side1 ?side2 ?side3 ?side4 ?side5 A14.out).mono ?_); (case side1 => repeat (first | exact (Kd.V_reads' HO1_3.out).2.2 | (with_reducible refine Kd.C_alloc ?_ _) | (with_reducible refine Kd.C_drewN ?_ _) | (with_reducible refine Kd.C_drew ?_))); (case side2 => exact (Kd.V_reads' HO1_3.out).2.1); (case side3 => repeat (first | exact (Kd.V_reads' HO1_4.out).2.2 | (with_reducible refine Kd.C_alloc ?_ _) | (with_reducible refine Kd.C_drewN ?_ _) | (with_reducible refine Kd.C_drew ?_))); (case side4 => exact (Kd.V_reads' HO1_4.out).2.1); (case side5 => first | exact HT.out | (refine tabs_below HT.out ?_; repeat (first | exact HB.out | (with_reducible first | apply below_alloc | apply pw_below_drewN | apply below_drew1 | exact Below.refl _ _) | (refine below_set ?_ (Aside0.out (by assumption)))))); rintro e w31 ⟨rfl, hb⟩; have n0_ := Aside0.mk (Kd.V_below (by (with_reducible repeat (first | apply Kd.V_alloc | apply Kd.V_drewN | apply Kd.V_drew)); exact HO0_3.out) hb); have n1_ := Aside0.mk (Kd.V_below (by (with_reducible repeat (first | apply Kd.V_alloc | apply Kd.V_drewN | apply Kd.V_drew)); exact HO0_4.out) hb); have n2_ := Aside0.mk (Kd.V_below (by (with_reducible repeat (first | apply Kd.V_alloc | apply Kd.V_drewN | apply Kd.V_drew)); exact HO1_3.out) hb); have n3_ := Aside0.mk (Kd.V_below (by (with_reducible repeat (first | apply Kd.V_alloc | apply Kd.V_drewN | apply Kd.V_drew)); exact HO1_4.out) hb); have n4_ := Aside0.mk (Kd.V_below (by (with_reducible repeat (first | apply Kd.V_alloc | apply Kd.V_drewN | apply Kd.V_drew)); exact HO2_3.out) hb); have n5_ := Aside0.mk (Kd.V_below (by (with_reducible repeat (first | apply Kd.V_alloc | apply Kd.V_drewN | apply Kd.V_drew)); exact HO2_4.out) hb); have n6_ := Aside0.mk (Kd.N_below (by (with_reducible repeat (first | apply Kd.N_alloc | apply Kd.N_drewN | apply Kd.N_drew)); exact HO271.out) hb); have n7_ := Aside0.mk (blk_below (g := gb265) (o := .cells #[.int .i64 a0_0, .int .i64 a0_1, .string a0_2, .slice A0_3 l0_3.length c0_3, .slice A0_4 l0_4.length c0_4] 30 (0, 0)) (by (with_reducible repeat (first | refine blk_drewN ?_ _ | refine blk_drew ?_ | refine blk_alloc ?_ _)); exact BK265.out) hb); have n8_ := Aside0.mk (blk_below (g := gb266) (o := .cells #[.int .i64 a1_0, .int .i64 a1_1, .string a1_2, .slice A1_3 l1_3.length c1_3, .slice A1_4 l1_4.length c1_4] 30 (0, 0)) (by (with_reducible repeat (first | refine blk_drewN ?_ _ | refine blk_drew ?_ | refine blk_alloc ?_ _)); exact BK266.out) hb); have n9_ := Aside0.mk (blk_below (g := gb267) (o := .cells #[.int .i64 a2_0, .int .i64 a2_1, .string a2_2, .slice A2_3 l2_3.length c2_3, .slice A2_4 l2_4.length c2_4] 30 (0, 0)) (by (with_reducible repeat (first | refine blk_drewN ?_ _ | refine blk_drew ?_ | refine blk_alloc ?_ _)); exact BK267.out) hb); have n10_ := Aside0.mk (below_step (by repeat (first | (with_reducible first | exact HB.out | apply below_alloc | apply pw_below_drewN | apply below_drew1 | refine below_set ?_ GE265.out | refine below_set ?_ GE266.out | refine below_set ?_ GE267.out) | exact HB.out)) hb); clear HO0_3; clear HO0_4; clear HO1_3; clear HO1_4; clear HO2_3; clear HO2_4; clear HO271; clear BK265; clear BK266; clear BK267; clear HB; have HO0_3 := n0_; have HO0_4 := n1_; have HO1_3 := n2_; have HO1_4 := n3_; have HO2_3 := n4_; have HO2_4 := n5_; have HO271 := n6_; have BK265 := n7_; have BK266 := n8_; have BK267 := n9_; have HB := n10_; clear n0_ n1_ n2_ n3_ n4_ n5_ n6_ n7_ n8_ n9_ n10_; (try clear hb); (try clear hb2); (try clear hk); (try clear hi); have hcz32_0 : w31.cell? ⟨gb267, 0, none⟩ = some (.int .i64 a2_0) := (blk_cell BK267.out 0).trans rfl; have hcz32_1 : w31.cell? ⟨gb267, 1, none⟩ = some (.int .i64 a2_1) := (blk_cell BK267.out 1).trans rfl; have hcz32_2 : w31.cell? ⟨gb267, 2, none⟩ = some (.string a2_2) := (blk_cell BK267.out 2).trans rfl; have hcz32_3 : w31.cell? ⟨gb267, 3, none⟩ = some (.slice A2_3 l2_3.length c2_3) := (blk_cell BK267.out 3).trans rfl; have hcz32_4 : w31.cell? ⟨gb267, 4, none⟩ = some (.slice A2_4 l2_4.length c2_4) := (blk_cell BK267.out 4).trans rfl; have hfz32_0 := blk_frozen BK267.out 0; have hfz32_1 := blk_frozen BK267.out 1; have hfz32_2 := blk_frozen BK267.out 2; have hfz32_3 := blk_frozen BK267.out 3; have hfz32_4 := blk_frozen BK267.out 4) | (go_at_call 16; (with_reducible refine (json_Formed.calls k a2_0 a2_1 a2_2 _ _ l2_3 _ _ l2_4 t275 _ ?side1 ?side2 ?side3 ?side4 ?side5 A16.out).mono ?_); (case side1 => repeat (first | exact (Kd.V_reads' HO2_3.out).2.2 | (with_reducible refine Kd.C_alloc ?_ _) | (with_reducible refine Kd.C_drewN ?_ _) | (with_reducible refine Kd.C_drew ?_))); (case side2 => exact (Kd.V_reads' HO2_3.out).2.1); (case side3 => repeat (first | exact (Kd.V_reads' HO2_4.out).2.2 | (with_reducible refine Kd.C_alloc ?_ _) | (with_reducible refine Kd.C_drewN ?_ _) | (with_reducible refine Kd.C_drew ?_))); (case side4 => exact (Kd.V_reads' HO2_4.out).2.1); (case side5 => first | exact HT.out | (refine tabs_below HT.out ?_; repeat (first | exact HB.out | (with_reducible first | apply below_alloc | apply pw_below_drewN | apply below_drew1 | exact Below.refl _ _) | (refine below_set ?_ (Aside0.out (by assumption)))))); rintro e w33 ⟨rfl, hb⟩; have n0_ := Aside0.mk (Kd.V_below (by (with_reducible repeat (first | apply Kd.V_alloc | apply Kd.V_drewN | apply Kd.V_drew)); exact HO0_3.out) hb); have n1_ := Aside0.mk (Kd.V_below (by (with_reducible repeat (first | apply Kd.V_alloc | apply Kd.V_drewN | apply Kd.V_drew)); exact HO0_4.out) hb); have n2_ := Aside0.mk (Kd.V_below (by (with_reducible repeat (first | apply Kd.V_alloc | apply Kd.V_drewN | apply Kd.V_drew)); exact HO1_3.out) hb); have n3_ := Aside0.mk (Kd.V_below (by (with_reducible repeat (first | apply Kd.V_alloc | apply Kd.V_drewN | apply Kd.V_drew)); exact HO1_4.out) hb); have n4_ := Aside0.mk (Kd.V_below (by (with_reducible repeat (first | apply Kd.V_alloc | apply Kd.V_drewN | apply Kd.V_drew)); exact HO2_3.out) hb); have n5_ := Aside0.mk (Kd.V_below (by (with_reducible repeat (first | apply Kd.V_alloc | apply Kd.V_drewN | apply Kd.V_drew)); exact HO2_4.out) hb); have n6_ := Aside0.mk (Kd.N_below (by (with_reducible repeat (first | apply Kd.N_alloc | apply Kd.N_drewN | apply Kd.N_drew)); exact HO271.out) hb); have n7_ := Aside0.mk (blk_below (g := gb265) (o := .cells #[.int .i64 a0_0, .int .i64 a0_1, .string a0_2, .slice A0_3 l0_3.length c0_3, .slice A0_4 l0_4.length c0_4] 30 (0, 0)) (by (with_reducible repeat (first | refine blk_drewN ?_ _ | refine blk_drew ?_ | refine blk_alloc ?_ _)); exact BK265.out) hb); have n8_ := Aside0.mk (blk_below (g := gb266) (o := .cells #[.int .i64 a1_0, .int .i64 a1_1, .string a1_2, .slice A1_3 l1_3.length c1_3, .slice A1_4 l1_4.length c1_4] 30 (0, 0)) (by (with_reducible repeat (first | refine blk_drewN ?_ _ | refine blk_drew ?_ | refine blk_alloc ?_ _)); exact BK266.out) hb); have n9_ := Aside0.mk (blk_below (g := gb267) (o := .cells #[.int .i64 a2_0, .int .i64 a2_1, .string a2_2, .slice A2_3 l2_3.length c2_3, .slice A2_4 l2_4.length c2_4] 30 (0, 0)) (by (with_reducible repeat (first | refine blk_drewN ?_ _ | refine blk_drew ?_ | refine blk_alloc ?_ _)); exact BK267.out) hb); have n10_ := Aside0.mk (below_step (by repeat (first | (with_reducible first | exact HB.out | apply below_alloc | apply pw_below_drewN | apply below_drew1 | refine below_set ?_ GE265.out | refine below_set ?_ GE266.out | refine below_set ?_ GE267.out) | exact HB.out)) hb); clear HO0_3; clear HO0_4; clear HO1_3; clear HO1_4; clear HO2_3; clear HO2_4; clear HO271; clear BK265; clear BK266; clear BK267; clear HB; have HO0_3 := n0_; have HO0_4 := n1_; have HO1_3 := n2_; have HO1_4 := n3_; have HO2_3 := n4_; have HO2_4 := n5_; have HO271 := n6_; have BK265 := n7_; have BK266 := n8_; have BK267 := n9_; have HB := n10_; clear n0_ n1_ n2_ n3_ n4_ n5_ n6_ n7_ n8_ n9_ n10_; (try clear hb); (try clear hb2); (try clear hk); (try clear hi)))
            go_meet
            case rel => exact ⟨_, (!t275), (by first | rfl | (simp; done) | (simp [*]; done)), H', ⟨by first | omega | exact Nat.le_refl _⟩, ⟨by (with_reducible repeat (first | apply Kd.V_alloc | apply Kd.V_drewN | apply Kd.V_drew)); exact Kd.V_mono HO0_3.out (fun _ hk => ⟨hk.1.1.1.1, ⟨hk.1.1.1.2, ⟨hk.1.1.2, hk.1.2⟩⟩⟩)⟩, ⟨by (with_reducible repeat (first | apply Kd.V_alloc | apply Kd.V_drewN | apply Kd.V_drew)); exact Kd.V_mono HO0_4.out (fun _ hk => ⟨hk.1.1.1.1, ⟨hk.1.1.1.2, ⟨hk.1.1.2, hk.1.2⟩⟩⟩)⟩, ⟨by (with_reducible repeat (first | apply Kd.V_alloc | apply Kd.V_drewN | apply Kd.V_drew)); exact Kd.V_mono HO1_3.out (fun _ hk => ⟨hk.1.1.1.1, ⟨hk.1.1.1.2, ⟨hk.1.1.2, hk.1.2⟩⟩⟩)⟩, ⟨by (with_reducible repeat (first | apply Kd.V_alloc | apply Kd.V_drewN | apply Kd.V_drew)); exact Kd.V_mono HO1_4.out (fun _ hk => ⟨hk.1.1.1.1, ⟨hk.1.1.1.2, ⟨hk.1.1.2, hk.1.2⟩⟩⟩)⟩, ⟨by (with_reducible repeat (first | apply Kd.V_alloc | apply Kd.V_drewN | apply Kd.V_drew)); exact Kd.V_mono HO2_3.out (fun _ hk => ⟨hk.1.1.1.1, ⟨hk.1.1.1.2, ⟨hk.1.1.2, hk.1.2⟩⟩⟩)⟩, ⟨by (with_reducible repeat (first | apply Kd.V_alloc | apply Kd.V_drewN | apply Kd.V_drew)); exact Kd.V_mono HO2_4.out (fun _ hk => ⟨hk.1.1.1.1, ⟨hk.1.1.1.2, ⟨hk.1.1.2, hk.1.2⟩⟩⟩)⟩, ⟨by (with_reducible repeat (first | refine blk_drewN ?_ _ | refine blk_drew ?_ | refine blk_alloc ?_ _)); exact BK265.out⟩, ⟨by (with_reducible repeat (first | refine blk_drewN ?_ _ | refine blk_drew ?_ | refine blk_alloc ?_ _)); exact BK266.out⟩, ⟨by (with_reducible repeat (first | refine blk_drewN ?_ _ | refine blk_drew ?_ | refine blk_alloc ?_ _)); exact BK267.out⟩, ⟨by repeat (first | (with_reducible first | exact HB.out | apply below_alloc | apply pw_below_drewN | apply below_drew1 | refine below_set ?_ GE265.out | refine below_set ?_ GE266.out | refine below_set ?_ GE267.out) | exact HB.out)⟩⟩
          · replace c15 := Bool.eq_false_iff.mpr c15
            subst c15
            have H1 : (munimentlaw03_OrderTotal.j0 k true a0_0 a0_1 a0_2 l0_3 l0_4 a1_0 a1_1 a1_2 l1_3 l1_4 a2_0 a2_1 a2_2 l2_3 l2_4) = some r := by rw [if_neg (show ¬ (false = true) by decide)] at H; exact H
            clear H
            have H := H1
            clear H1
            have H' := Aside0.mk H
            clear H
            go_wp2_with (first | ((with_reducible refine gate_callee (f := 9) rfl ?_); refine goesL_ (some 10) rfl rfl Tryd.func9 (by kernel_rfl) rfl #[] rfl (by (try simp only [List.map_toArray, List.map_cons, List.map_nil]); first | done | rfl | (simp only [List.length_drop, List.length_take]; rfl)) ?_; (with_reducible refine (munimentlaw03_awake.calls k  true _ ?side1 A8.out).mono ?_); (case side1 => first | exact HT.out | (refine tabs_below HT.out ?_; repeat (first | exact HB.out | (with_reducible first | apply below_alloc | apply pw_below_drewN | apply below_drew1 | exact Below.refl _ _) | (refine below_set ?_ (Aside0.out (by assumption)))))); rintro e w34 ⟨rfl, hb⟩; refine ⟨_, rfl, ?_⟩; have n0_ := Aside0.mk (Kd.V_below (by (with_reducible repeat (first | apply Kd.V_alloc | apply Kd.V_drewN | apply Kd.V_drew)); exact HO0_3.out) hb); have n1_ := Aside0.mk (Kd.V_below (by (with_reducible repeat (first | apply Kd.V_alloc | apply Kd.V_drewN | apply Kd.V_drew)); exact HO0_4.out) hb); have n2_ := Aside0.mk (Kd.V_below (by (with_reducible repeat (first | apply Kd.V_alloc | apply Kd.V_drewN | apply Kd.V_drew)); exact HO1_3.out) hb); have n3_ := Aside0.mk (Kd.V_below (by (with_reducible repeat (first | apply Kd.V_alloc | apply Kd.V_drewN | apply Kd.V_drew)); exact HO1_4.out) hb); have n4_ := Aside0.mk (Kd.V_below (by (with_reducible repeat (first | apply Kd.V_alloc | apply Kd.V_drewN | apply Kd.V_drew)); exact HO2_3.out) hb); have n5_ := Aside0.mk (Kd.V_below (by (with_reducible repeat (first | apply Kd.V_alloc | apply Kd.V_drewN | apply Kd.V_drew)); exact HO2_4.out) hb); have n6_ := Aside0.mk (blk_below (g := gb265) (o := .cells #[.int .i64 a0_0, .int .i64 a0_1, .string a0_2, .slice A0_3 l0_3.length c0_3, .slice A0_4 l0_4.length c0_4] 30 (0, 0)) (by (with_reducible repeat (first | refine blk_drewN ?_ _ | refine blk_drew ?_ | refine blk_alloc ?_ _)); exact BK265.out) hb); have n7_ := Aside0.mk (blk_below (g := gb266) (o := .cells #[.int .i64 a1_0, .int .i64 a1_1, .string a1_2, .slice A1_3 l1_3.length c1_3, .slice A1_4 l1_4.length c1_4] 30 (0, 0)) (by (with_reducible repeat (first | refine blk_drewN ?_ _ | refine blk_drew ?_ | refine blk_alloc ?_ _)); exact BK266.out) hb); have n8_ := Aside0.mk (blk_below (g := gb267) (o := .cells #[.int .i64 a2_0, .int .i64 a2_1, .string a2_2, .slice A2_3 l2_3.length c2_3, .slice A2_4 l2_4.length c2_4] 30 (0, 0)) (by (with_reducible repeat (first | refine blk_drewN ?_ _ | refine blk_drew ?_ | refine blk_alloc ?_ _)); exact BK267.out) hb); have n9_ := Aside0.mk (below_step (by repeat (first | (with_reducible first | exact HB.out | apply below_alloc | apply pw_below_drewN | apply below_drew1 | refine below_set ?_ GE265.out | refine below_set ?_ GE266.out | refine below_set ?_ GE267.out) | exact HB.out)) hb); clear HO0_3; clear HO0_4; clear HO1_3; clear HO1_4; clear HO2_3; clear HO2_4; clear BK265; clear BK266; clear BK267; clear HB; have HO0_3 := n0_; have HO0_4 := n1_; have HO1_3 := n2_; have HO1_4 := n3_; have HO2_3 := n4_; have HO2_4 := n5_; have BK265 := n6_; have BK266 := n7_; have BK267 := n8_; have HB := n9_; clear n0_ n1_ n2_ n3_ n4_ n5_ n6_ n7_ n8_ n9_; (try clear hb); (try clear hb2); (try clear hk); (try clear hi); have hnb35 := NB265_266.out; have hnc35 := NB266_265.out; have hnb36 := NB265_267.out; have hnc36 := NB267_265.out; have hcz37_0 : w34.cell? ⟨gb265, 0, none⟩ = some (.int .i64 a0_0) := (blk_cell BK265.out 0).trans rfl; have hcz37_1 : w34.cell? ⟨gb265, 1, none⟩ = some (.int .i64 a0_1) := (blk_cell BK265.out 1).trans rfl; have hcz37_2 : w34.cell? ⟨gb265, 2, none⟩ = some (.string a0_2) := (blk_cell BK265.out 2).trans rfl; have hcz37_3 : w34.cell? ⟨gb265, 3, none⟩ = some (.slice A0_3 l0_3.length c0_3) := (blk_cell BK265.out 3).trans rfl; have hcz37_4 : w34.cell? ⟨gb265, 4, none⟩ = some (.slice A0_4 l0_4.length c0_4) := (blk_cell BK265.out 4).trans rfl; have hfz37_0 := blk_frozen BK265.out 0; have hfz37_1 := blk_frozen BK265.out 1; have hfz37_2 := blk_frozen BK265.out 2; have hfz37_3 := blk_frozen BK265.out 3; have hfz37_4 := blk_frozen BK265.out 4; have hnb38 := NB266_267.out; have hnc38 := NB267_266.out; have hcz39_0 : w34.cell? ⟨gb266, 0, none⟩ = some (.int .i64 a1_0) := (blk_cell BK266.out 0).trans rfl; have hcz39_1 : w34.cell? ⟨gb266, 1, none⟩ = some (.int .i64 a1_1) := (blk_cell BK266.out 1).trans rfl; have hcz39_2 : w34.cell? ⟨gb266, 2, none⟩ = some (.string a1_2) := (blk_cell BK266.out 2).trans rfl; have hcz39_3 : w34.cell? ⟨gb266, 3, none⟩ = some (.slice A1_3 l1_3.length c1_3) := (blk_cell BK266.out 3).trans rfl; have hcz39_4 : w34.cell? ⟨gb266, 4, none⟩ = some (.slice A1_4 l1_4.length c1_4) := (blk_cell BK266.out 4).trans rfl; have hfz39_0 := blk_frozen BK266.out 0; have hfz39_1 := blk_frozen BK266.out 1; have hfz39_2 := blk_frozen BK266.out 2; have hfz39_3 := blk_frozen BK266.out 3; have hfz39_4 := blk_frozen BK266.out 4; have hcz40_0 : w34.cell? ⟨gb267, 0, none⟩ = some (.int .i64 a2_0) := (blk_cell BK267.out 0).trans rfl; have hcz40_1 : w34.cell? ⟨gb267, 1, none⟩ = some (.int .i64 a2_1) := (blk_cell BK267.out 1).trans rfl; have hcz40_2 : w34.cell? ⟨gb267, 2, none⟩ = some (.string a2_2) := (blk_cell BK267.out 2).trans rfl; have hcz40_3 : w34.cell? ⟨gb267, 3, none⟩ = some (.slice A2_3 l2_3.length c2_3) := (blk_cell BK267.out 3).trans rfl; have hcz40_4 : w34.cell? ⟨gb267, 4, none⟩ = some (.slice A2_4 l2_4.length c2_4) := (blk_cell BK267.out 4).trans rfl; have hfz40_0 := blk_frozen BK267.out 0; have hfz40_1 := blk_frozen BK267.out 1; have hfz40_2 := blk_frozen BK267.out 2; have hfz40_3 := blk_frozen BK267.out 3; have hfz40_4 := blk_frozen BK267.out 4) | ((with_reducible refine gate_dst (N := 16) rfl ?_); (try (refine gate_guard (by rfl) ?_; dsimp only)); refine Kd.N_lit k30 _ 30 ?hg (N' := 16) ?hd (xs := ([(⟨a0_0, a0_1, a0_2, l0_3, l0_4⟩ : S30), (⟨a1_0, a1_1, a1_2, l1_3, l1_4⟩ : S30), (⟨a2_0, a2_1, a2_2, l2_3, l2_4⟩ : S30)] : List (S30))) (inner := [.int .i64 a0_0, .int .i64 a0_1, .string a0_2, .slice A0_3 l0_3.length c0_3, .slice A0_4 l0_4.length c0_4, .int .i64 a1_0, .int .i64 a1_1, .string a1_2, .slice A1_3 l1_3.length c1_3, .slice A1_4 l1_4.length c1_4, .int .i64 a2_0, .int .i64 a2_1, .string a2_2, .slice A2_3 l2_3.length c2_3, .slice A2_4 l2_4.length c2_4]) (ok := (fun k_ => ((P0_3_ k_ ∨ P0_4_ k_ ∨ P1_3_ k_ ∨ P1_4_ k_ ∨ P2_3_ k_ ∨ P2_4_ k_) ∨ w.heap.size ≤ k_) ∧ k_ ≠ gb265 ∧ k_ ≠ gb266 ∧ k_ ≠ gb267)) (okp := (fun k_ => ((P0_3_ k_ ∨ P0_4_ k_ ∨ P1_3_ k_ ∨ P1_4_ k_ ∨ P2_3_ k_ ∨ P2_4_ k_) ∨ w.heap.size ≤ k_) ∧ k_ ≠ gb265 ∧ k_ ≠ gb266 ∧ k_ ≠ gb267)) ?hr ?hp (fun _ hk => hk) ((show ∀ k_, w34.heap.size ≤ k_ → (fun k_ => ((P0_3_ k_ ∨ P0_4_ k_ ∨ P1_3_ k_ ∨ P1_4_ k_ ∨ P2_3_ k_ ∨ P2_4_ k_) ∨ w.heap.size ≤ k_) ∧ k_ ≠ gb265 ∧ k_ ≠ gb266 ∧ k_ ≠ gb267) k_ from fun k_ hk => ⟨(.inr (Nat.le_trans (below_size (by repeat (first | (with_reducible first | exact HB.out | apply below_alloc | apply pw_below_drewN | apply below_drew1 | refine below_set ?_ GE265.out | refine below_set ?_ GE266.out | refine below_set ?_ GE267.out) | exact HB.out))) hk)), Kd.freshB (g := gb265) (o := .cells #[.int .i64 a0_0, .int .i64 a0_1, .string a0_2, .slice A0_3 l0_3.length c0_3, .slice A0_4 l0_4.length c0_4] 30 (0, 0)) (by (with_reducible repeat (first | refine blk_drewN ?_ _ | refine blk_drew ?_ | refine blk_alloc ?_ _)); exact BK265.out) k_ hk, Kd.freshB (g := gb266) (o := .cells #[.int .i64 a1_0, .int .i64 a1_1, .string a1_2, .slice A1_3 l1_3.length c1_3, .slice A1_4 l1_4.length c1_4] 30 (0, 0)) (by (with_reducible repeat (first | refine blk_drewN ?_ _ | refine blk_drew ?_ | refine blk_alloc ?_ _)); exact BK266.out) k_ hk, Kd.freshB (g := gb267) (o := .cells #[.int .i64 a2_0, .int .i64 a2_1, .string a2_2, .slice A2_3 l2_3.length c2_3, .slice A2_4 l2_4.length c2_4] 30 (0, 0)) (by (with_reducible repeat (first | refine blk_drewN ?_ _ | refine blk_drew ?_ | refine blk_alloc ?_ _)); exact BK267.out) k_ hk⟩) _ (Nat.le_refl _)) (Below.refl _ _) (Nat.le_refl _) (by simp) ?_; (case hd => rfl); (case hg => rfl); (case hr => first | (go_simp; done) | (go_simp; rfl)); (case hp => exact (Reps.c5 (show Kd.FK k30 _ _ (⟨a0_0, a0_1, a0_2, l0_3, l0_4⟩ : S30) [.int .i64 a0_0, .int .i64 a0_1, .string a0_2, .slice A0_3 l0_3.length c0_3, .slice A0_4 l0_4.length c0_4] from (k30_mkF _ _ (⟨a0_0, a0_1, a0_2, l0_3, l0_4⟩ : S30) (Kd.V_reads' (Kd.V_mono (ok' := (fun k_ => ((P0_3_ k_ ∨ P0_4_ k_ ∨ P1_3_ k_ ∨ P1_4_ k_ ∨ P2_3_ k_ ∨ P2_4_ k_) ∨ w.heap.size ≤ k_) ∧ k_ ≠ gb265 ∧ k_ ≠ gb266 ∧ k_ ≠ gb267)) (HO0_3.out) (fun k_ hk => ⟨hk.1.1.1, ⟨hk.1.1.2, ⟨hk.1.2, hk.2⟩⟩⟩))).2.1 (Kd.V_F (Kd.V_mono (ok' := (fun k_ => ((P0_3_ k_ ∨ P0_4_ k_ ∨ P1_3_ k_ ∨ P1_4_ k_ ∨ P2_3_ k_ ∨ P2_4_ k_) ∨ w.heap.size ≤ k_) ∧ k_ ≠ gb265 ∧ k_ ≠ gb266 ∧ k_ ≠ gb267)) (HO0_3.out) (fun k_ hk => ⟨hk.1.1.1, ⟨hk.1.1.2, ⟨hk.1.2, hk.2⟩⟩⟩))) (Kd.V_reads' (Kd.V_mono (ok' := (fun k_ => ((P0_3_ k_ ∨ P0_4_ k_ ∨ P1_3_ k_ ∨ P1_4_ k_ ∨ P2_3_ k_ ∨ P2_4_ k_) ∨ w.heap.size ≤ k_) ∧ k_ ≠ gb265 ∧ k_ ≠ gb266 ∧ k_ ≠ gb267)) (HO0_4.out) (fun k_ hk => ⟨hk.1.1.1, ⟨hk.1.1.2, ⟨hk.1.2, hk.2⟩⟩⟩))).2.1 (Kd.V_F (Kd.V_mono (ok' := (fun k_ => ((P0_3_ k_ ∨ P0_4_ k_ ∨ P1_3_ k_ ∨ P1_4_ k_ ∨ P2_3_ k_ ∨ P2_4_ k_) ∨ w.heap.size ≤ k_) ∧ k_ ≠ gb265 ∧ k_ ≠ gb266 ∧ k_ ≠ gb267)) (HO0_4.out) (fun k_ hk => ⟨hk.1.1.1, ⟨hk.1.1.2, ⟨hk.1.2, hk.2⟩⟩⟩))))) (Reps.c5 (show Kd.FK k30 _ _ (⟨a1_0, a1_1, a1_2, l1_3, l1_4⟩ : S30) [.int .i64 a1_0, .int .i64 a1_1, .string a1_2, .slice A1_3 l1_3.length c1_3, .slice A1_4 l1_4.length c1_4] from (k30_mkF _ _ (⟨a1_0, a1_1, a1_2, l1_3, l1_4⟩ : S30) (Kd.V_reads' (Kd.V_mono (ok' := (fun k_ => ((P0_3_ k_ ∨ P0_4_ k_ ∨ P1_3_ k_ ∨ P1_4_ k_ ∨ P2_3_ k_ ∨ P2_4_ k_) ∨ w.heap.size ≤ k_) ∧ k_ ≠ gb265 ∧ k_ ≠ gb266 ∧ k_ ≠ gb267)) (HO1_3.out) (fun k_ hk => ⟨hk.1.1.1, ⟨hk.1.1.2, ⟨hk.1.2, hk.2⟩⟩⟩))).2.1 (Kd.V_F (Kd.V_mono (ok' := (fun k_ => ((P0_3_ k_ ∨ P0_4_ k_ ∨ P1_3_ k_ ∨ P1_4_ k_ ∨ P2_3_ k_ ∨ P2_4_ k_) ∨ w.heap.size ≤ k_) ∧ k_ ≠ gb265 ∧ k_ ≠ gb266 ∧ k_ ≠ gb267)) (HO1_3.out) (fun k_ hk => ⟨hk.1.1.1, ⟨hk.1.1.2, ⟨hk.1.2, hk.2⟩⟩⟩))) (Kd.V_reads' (Kd.V_mono (ok' := (fun k_ => ((P0_3_ k_ ∨ P0_4_ k_ ∨ P1_3_ k_ ∨ P1_4_ k_ ∨ P2_3_ k_ ∨ P2_4_ k_) ∨ w.heap.size ≤ k_) ∧ k_ ≠ gb265 ∧ k_ ≠ gb266 ∧ k_ ≠ gb267)) (HO1_4.out) (fun k_ hk => ⟨hk.1.1.1, ⟨hk.1.1.2, ⟨hk.1.2, hk.2⟩⟩⟩))).2.1 (Kd.V_F (Kd.V_mono (ok' := (fun k_ => ((P0_3_ k_ ∨ P0_4_ k_ ∨ P1_3_ k_ ∨ P1_4_ k_ ∨ P2_3_ k_ ∨ P2_4_ k_) ∨ w.heap.size ≤ k_) ∧ k_ ≠ gb265 ∧ k_ ≠ gb266 ∧ k_ ≠ gb267)) (HO1_4.out) (fun k_ hk => ⟨hk.1.1.1, ⟨hk.1.1.2, ⟨hk.1.2, hk.2⟩⟩⟩))))) (Reps.c5 (show Kd.FK k30 _ _ (⟨a2_0, a2_1, a2_2, l2_3, l2_4⟩ : S30) [.int .i64 a2_0, .int .i64 a2_1, .string a2_2, .slice A2_3 l2_3.length c2_3, .slice A2_4 l2_4.length c2_4] from (k30_mkF _ _ (⟨a2_0, a2_1, a2_2, l2_3, l2_4⟩ : S30) (Kd.V_reads' (Kd.V_mono (ok' := (fun k_ => ((P0_3_ k_ ∨ P0_4_ k_ ∨ P1_3_ k_ ∨ P1_4_ k_ ∨ P2_3_ k_ ∨ P2_4_ k_) ∨ w.heap.size ≤ k_) ∧ k_ ≠ gb265 ∧ k_ ≠ gb266 ∧ k_ ≠ gb267)) (HO2_3.out) (fun k_ hk => ⟨hk.1.1.1, ⟨hk.1.1.2, ⟨hk.1.2, hk.2⟩⟩⟩))).2.1 (Kd.V_F (Kd.V_mono (ok' := (fun k_ => ((P0_3_ k_ ∨ P0_4_ k_ ∨ P1_3_ k_ ∨ P1_4_ k_ ∨ P2_3_ k_ ∨ P2_4_ k_) ∨ w.heap.size ≤ k_) ∧ k_ ≠ gb265 ∧ k_ ≠ gb266 ∧ k_ ≠ gb267)) (HO2_3.out) (fun k_ hk => ⟨hk.1.1.1, ⟨hk.1.1.2, ⟨hk.1.2, hk.2⟩⟩⟩))) (Kd.V_reads' (Kd.V_mono (ok' := (fun k_ => ((P0_3_ k_ ∨ P0_4_ k_ ∨ P1_3_ k_ ∨ P1_4_ k_ ∨ P2_3_ k_ ∨ P2_4_ k_) ∨ w.heap.size ≤ k_) ∧ k_ ≠ gb265 ∧ k_ ≠ gb266 ∧ k_ ≠ gb267)) (HO2_4.out) (fun k_ hk => ⟨hk.1.1.1, ⟨hk.1.1.2, ⟨hk.1.2, hk.2⟩⟩⟩))).2.1 (Kd.V_F (Kd.V_mono (ok' := (fun k_ => ((P0_3_ k_ ∨ P0_4_ k_ ∨ P1_3_ k_ ∨ P1_4_ k_ ∨ P2_3_ k_ ∨ P2_4_ k_) ∨ w.heap.size ≤ k_) ∧ k_ ≠ gb265 ∧ k_ ≠ gb266 ∧ k_ ≠ gb267)) (HO2_4.out) (fun k_ hk => ⟨hk.1.1.1, ⟨hk.1.1.2, ⟨hk.1.2, hk.2⟩⟩⟩))))) (Reps.none _ _))))); intro v270 w41 ho42 hb hg_ hnew_; clear hg_ hnew_; (first | rw [← Ny269.out] at ho42 | (simp only [Int.reduceToNat] at ho42; rw [← Ny269.out] at ho42)); have n0_ := Aside0.mk (Kd.V_elder' (by (with_reducible repeat (first | apply Kd.V_alloc | apply Kd.V_drewN | apply Kd.V_drew)); exact HO0_3.out) (Kd.N_base ho42) hb); have n1_ := Aside0.mk (Kd.V_elder' (by (with_reducible repeat (first | apply Kd.V_alloc | apply Kd.V_drewN | apply Kd.V_drew)); exact HO0_4.out) (Kd.N_base ho42) hb); have n2_ := Aside0.mk (Kd.V_elder' (by (with_reducible repeat (first | apply Kd.V_alloc | apply Kd.V_drewN | apply Kd.V_drew)); exact HO1_3.out) (Kd.N_base ho42) hb); have n3_ := Aside0.mk (Kd.V_elder' (by (with_reducible repeat (first | apply Kd.V_alloc | apply Kd.V_drewN | apply Kd.V_drew)); exact HO1_4.out) (Kd.N_base ho42) hb); have n4_ := Aside0.mk (Kd.V_elder' (by (with_reducible repeat (first | apply Kd.V_alloc | apply Kd.V_drewN | apply Kd.V_drew)); exact HO2_3.out) (Kd.N_base ho42) hb); have n5_ := Aside0.mk (Kd.V_elder' (by (with_reducible repeat (first | apply Kd.V_alloc | apply Kd.V_drewN | apply Kd.V_drew)); exact HO2_4.out) (Kd.N_base ho42) hb); have n6_ := Aside0.mk (Kd.N_lower ho42 (below_size (by repeat (first | (with_reducible first | exact HB.out | apply below_alloc | apply pw_below_drewN | apply below_drew1 | refine below_set ?_ GE265.out | refine below_set ?_ GE266.out | refine below_set ?_ GE267.out) | exact HB.out)))); have n7_ := Aside0.mk (blk_below (g := gb265) (o := .cells #[.int .i64 a0_0, .int .i64 a0_1, .string a0_2, .slice A0_3 l0_3.length c0_3, .slice A0_4 l0_4.length c0_4] 30 (0, 0)) (by (with_reducible repeat (first | refine blk_drewN ?_ _ | refine blk_drew ?_ | refine blk_alloc ?_ _)); exact BK265.out) hb); have n8_ := Aside0.mk (blk_below (g := gb266) (o := .cells #[.int .i64 a1_0, .int .i64 a1_1, .string a1_2, .slice A1_3 l1_3.length c1_3, .slice A1_4 l1_4.length c1_4] 30 (0, 0)) (by (with_reducible repeat (first | refine blk_drewN ?_ _ | refine blk_drew ?_ | refine blk_alloc ?_ _)); exact BK266.out) hb); have n9_ := Aside0.mk (blk_below (g := gb267) (o := .cells #[.int .i64 a2_0, .int .i64 a2_1, .string a2_2, .slice A2_3 l2_3.length c2_3, .slice A2_4 l2_4.length c2_4] 30 (0, 0)) (by (with_reducible repeat (first | refine blk_drewN ?_ _ | refine blk_drew ?_ | refine blk_alloc ?_ _)); exact BK267.out) hb); have n10_ := Aside0.mk (below_step (by repeat (first | (with_reducible first | exact HB.out | apply below_alloc | apply pw_below_drewN | apply below_drew1 | refine below_set ?_ GE265.out | refine below_set ?_ GE266.out | refine below_set ?_ GE267.out) | exact HB.out)) hb); clear HO0_3; clear HO0_4; clear HO1_3; clear HO1_4; clear HO2_3; clear HO2_4; clear BK265; clear BK266; clear BK267; clear HB; have HO0_3 := n0_; have HO0_4 := n1_; have HO1_3 := n2_; have HO1_4 := n3_; have HO2_3 := n4_; have HO2_4 := n5_; have HO271 := n6_; have BK265 := n7_; have BK266 := n8_; have BK267 := n9_; have HB := n10_; clear n0_ n1_ n2_ n3_ n4_ n5_ n6_ n7_ n8_ n9_ n10_; clear hb ho42; obtain ⟨Ao43, co43, eo43⟩ := Kd.N_slice HO271.out; subst eo43) | (go_at_call 10; (with_reducible refine (munimentlaw03_few.calls k _ _ y269 true _ ?side1 ?side2 A10.out).mono ?_); (case side1 => repeat (first | exact (Kd.N_reads' HO271.out).2.2 | (with_reducible refine Kd.C_alloc ?_ _) | (with_reducible refine Kd.C_drewN ?_ _) | (with_reducible refine Kd.C_drew ?_))); (case side2 => exact (Kd.N_reads' HO271.out).2.1); rintro e w44 ⟨rfl, hb⟩; have n0_ := Aside0.mk (Kd.V_below (by (with_reducible repeat (first | apply Kd.V_alloc | apply Kd.V_drewN | apply Kd.V_drew)); exact HO0_3.out) hb); have n1_ := Aside0.mk (Kd.V_below (by (with_reducible repeat (first | apply Kd.V_alloc | apply Kd.V_drewN | apply Kd.V_drew)); exact HO0_4.out) hb); have n2_ := Aside0.mk (Kd.V_below (by (with_reducible repeat (first | apply Kd.V_alloc | apply Kd.V_drewN | apply Kd.V_drew)); exact HO1_3.out) hb); have n3_ := Aside0.mk (Kd.V_below (by (with_reducible repeat (first | apply Kd.V_alloc | apply Kd.V_drewN | apply Kd.V_drew)); exact HO1_4.out) hb); have n4_ := Aside0.mk (Kd.V_below (by (with_reducible repeat (first | apply Kd.V_alloc | apply Kd.V_drewN | apply Kd.V_drew)); exact HO2_3.out) hb); have n5_ := Aside0.mk (Kd.V_below (by (with_reducible repeat (first | apply Kd.V_alloc | apply Kd.V_drewN | apply Kd.V_drew)); exact HO2_4.out) hb); have n6_ := Aside0.mk (Kd.N_below (by (with_reducible repeat (first | apply Kd.N_alloc | apply Kd.N_drewN | apply Kd.N_drew)); exact HO271.out) hb); have n7_ := Aside0.mk (blk_below (g := gb265) (o := .cells #[.int .i64 a0_0, .int .i64 a0_1, .string a0_2, .slice A0_3 l0_3.length c0_3, .slice A0_4 l0_4.length c0_4] 30 (0, 0)) (by (with_reducible repeat (first | refine blk_drewN ?_ _ | refine blk_drew ?_ | refine blk_alloc ?_ _)); exact BK265.out) hb); have n8_ := Aside0.mk (blk_below (g := gb266) (o := .cells #[.int .i64 a1_0, .int .i64 a1_1, .string a1_2, .slice A1_3 l1_3.length c1_3, .slice A1_4 l1_4.length c1_4] 30 (0, 0)) (by (with_reducible repeat (first | refine blk_drewN ?_ _ | refine blk_drew ?_ | refine blk_alloc ?_ _)); exact BK266.out) hb); have n9_ := Aside0.mk (blk_below (g := gb267) (o := .cells #[.int .i64 a2_0, .int .i64 a2_1, .string a2_2, .slice A2_3 l2_3.length c2_3, .slice A2_4 l2_4.length c2_4] 30 (0, 0)) (by (with_reducible repeat (first | refine blk_drewN ?_ _ | refine blk_drew ?_ | refine blk_alloc ?_ _)); exact BK267.out) hb); have n10_ := Aside0.mk (below_step (by repeat (first | (with_reducible first | exact HB.out | apply below_alloc | apply pw_below_drewN | apply below_drew1 | refine below_set ?_ GE265.out | refine below_set ?_ GE266.out | refine below_set ?_ GE267.out) | exact HB.out)) hb); clear HO0_3; clear HO0_4; clear HO1_3; clear HO1_4; clear HO2_3; clear HO2_4; clear HO271; clear BK265; clear BK266; clear BK267; clear HB; have HO0_3 := n0_; have HO0_4 := n1_; have HO1_3 := n2_; have HO1_4 := n3_; have HO2_3 := n4_; have HO2_4 := n5_; have HO271 := n6_; have BK265 := n7_; have BK266 := n8_; have BK267 := n9_; have HB := n10_; clear n0_ n1_ n2_ n3_ n4_ n5_ n6_ n7_ n8_ n9_ n10_; (try clear hb); (try clear hb2); (try clear hk); (try clear hi); have hcz45_0 : w44.cell? ⟨gb265, 0, none⟩ = some (.int .i64 a0_0) := (blk_cell BK265.out 0).trans rfl; have hcz45_1 : w44.cell? ⟨gb265, 1, none⟩ = some (.int .i64 a0_1) := (blk_cell BK265.out 1).trans rfl; have hcz45_2 : w44.cell? ⟨gb265, 2, none⟩ = some (.string a0_2) := (blk_cell BK265.out 2).trans rfl; have hcz45_3 : w44.cell? ⟨gb265, 3, none⟩ = some (.slice A0_3 l0_3.length c0_3) := (blk_cell BK265.out 3).trans rfl; have hcz45_4 : w44.cell? ⟨gb265, 4, none⟩ = some (.slice A0_4 l0_4.length c0_4) := (blk_cell BK265.out 4).trans rfl; have hfz45_0 := blk_frozen BK265.out 0; have hfz45_1 := blk_frozen BK265.out 1; have hfz45_2 := blk_frozen BK265.out 2; have hfz45_3 := blk_frozen BK265.out 3; have hfz45_4 := blk_frozen BK265.out 4) | (go_at_call 16; (with_reducible refine (json_Formed.calls k a0_0 a0_1 a0_2 _ _ l0_3 _ _ l0_4 true _ ?side1 ?side2 ?side3 ?side4 ?side5 A12.out).mono ?_); (case side1 => repeat (first | exact (Kd.V_reads' HO0_3.out).2.2 | (with_reducible refine Kd.C_alloc ?_ _) | (with_reducible refine Kd.C_drewN ?_ _) | (with_reducible refine Kd.C_drew ?_))); (case side2 => exact (Kd.V_reads' HO0_3.out).2.1); (case side3 => repeat (first | exact (Kd.V_reads' HO0_4.out).2.2 | (with_reducible refine Kd.C_alloc ?_ _) | (with_reducible refine Kd.C_drewN ?_ _) | (with_reducible refine Kd.C_drew ?_))); (case side4 => exact (Kd.V_reads' HO0_4.out).2.1); (case side5 => first | exact HT.out | (refine tabs_below HT.out ?_; repeat (first | exact HB.out | (with_reducible first | apply below_alloc | apply pw_below_drewN | apply below_drew1 | exact Below.refl _ _) | (refine below_set ?_ (Aside0.out (by assumption)))))); rintro e w46 ⟨rfl, hb⟩; have n0_ := Aside0.mk (Kd.V_below (by (with_reducible repeat (first | apply Kd.V_alloc | apply Kd.V_drewN | apply Kd.V_drew)); exact HO0_3.out) hb); have n1_ := Aside0.mk (Kd.V_below (by (with_reducible repeat (first | apply Kd.V_alloc | apply Kd.V_drewN | apply Kd.V_drew)); exact HO0_4.out) hb); have n2_ := Aside0.mk (Kd.V_below (by (with_reducible repeat (first | apply Kd.V_alloc | apply Kd.V_drewN | apply Kd.V_drew)); exact HO1_3.out) hb); have n3_ := Aside0.mk (Kd.V_below (by (with_reducible repeat (first | apply Kd.V_alloc | apply Kd.V_drewN | apply Kd.V_drew)); exact HO1_4.out) hb); have n4_ := Aside0.mk (Kd.V_below (by (with_reducible repeat (first | apply Kd.V_alloc | apply Kd.V_drewN | apply Kd.V_drew)); exact HO2_3.out) hb); have n5_ := Aside0.mk (Kd.V_below (by (with_reducible repeat (first | apply Kd.V_alloc | apply Kd.V_drewN | apply Kd.V_drew)); exact HO2_4.out) hb); have n6_ := Aside0.mk (Kd.N_below (by (with_reducible repeat (first | apply Kd.N_alloc | apply Kd.N_drewN | apply Kd.N_drew)); exact HO271.out) hb); have n7_ := Aside0.mk (blk_below (g := gb265) (o := .cells #[.int .i64 a0_0, .int .i64 a0_1, .string a0_2, .slice A0_3 l0_3.length c0_3, .slice A0_4 l0_4.length c0_4] 30 (0, 0)) (by (with_reducible repeat (first | refine blk_drewN ?_ _ | refine blk_drew ?_ | refine blk_alloc ?_ _)); exact BK265.out) hb); have n8_ := Aside0.mk (blk_below (g := gb266) (o := .cells #[.int .i64 a1_0, .int .i64 a1_1, .string a1_2, .slice A1_3 l1_3.length c1_3, .slice A1_4 l1_4.length c1_4] 30 (0, 0)) (by (with_reducible repeat (first | refine blk_drewN ?_ _ | refine blk_drew ?_ | refine blk_alloc ?_ _)); exact BK266.out) hb); have n9_ := Aside0.mk (blk_below (g := gb267) (o := .cells #[.int .i64 a2_0, .int .i64 a2_1, .string a2_2, .slice A2_3 l2_3.length c2_3, .slice A2_4 l2_4.length c2_4] 30 (0, 0)) (by (with_reducible repeat (first | refine blk_drewN ?_ _ | refine blk_drew ?_ | refine blk_alloc ?_ _)); exact BK267.out) hb); have n10_ := Aside0.mk (below_step (by repeat (first | (with_reducible first | exact HB.out | apply below_alloc | apply pw_below_drewN | apply below_drew1 | refine below_set ?_ GE265.out | refine below_set ?_ GE266.out | refine below_set ?_ GE267.out) | exact HB.out)) hb); clear HO0_3; clear HO0_4; clear HO1_3; clear HO1_4; clear HO2_3; clear HO2_4; clear HO271; clear BK265; clear BK266; clear BK267; clear HB; have HO0_3 := n0_; have HO0_4 := n1_; have HO1_3 := n2_; have HO1_4 := n3_; have HO2_3 := n4_; have HO2_4 := n5_; have HO271 := n6_; have BK265 := n7_; have BK266 := n8_; have BK267 := n9_; have HB := n10_; clear n0_ n1_ n2_ n3_ n4_ n5_ n6_ n7_ n8_ n9_ n10_; (try clear hb); (try clear hb2); (try clear hk); (try clear hi); have hcz47_0 : w46.cell? ⟨gb266, 0, none⟩ = some (.int .i64 a1_0) := (blk_cell BK266.out 0).trans rfl; have hcz47_1 : w46.cell? ⟨gb266, 1, none⟩ = some (.int .i64 a1_1) := (blk_cell BK266.out 1).trans rfl; have hcz47_2 : w46.cell? ⟨gb266, 2, none⟩ = some (.string a1_2) := (blk_cell BK266.out 2).trans rfl; have hcz47_3 : w46.cell? ⟨gb266, 3, none⟩ = some (.slice A1_3 l1_3.length c1_3) := (blk_cell BK266.out 3).trans rfl; have hcz47_4 : w46.cell? ⟨gb266, 4, none⟩ = some (.slice A1_4 l1_4.length c1_4) := (blk_cell BK266.out 4).trans rfl; have hfz47_0 := blk_frozen BK266.out 0; have hfz47_1 := blk_frozen BK266.out 1; have hfz47_2 := blk_frozen BK266.out 2; have hfz47_3 := blk_frozen BK266.out 3; have hfz47_4 := blk_frozen BK266.out 4) | (go_at_call 16; (with_reducible refine (json_Formed.calls k a1_0 a1_1 a1_2 _ _ l1_3 _ _ l1_4 false _ ?side1 ?side2 ?side3 ?side4 ?side5 A14.out).mono ?_); (case side1 => repeat (first | exact (Kd.V_reads' HO1_3.out).2.2 | (with_reducible refine Kd.C_alloc ?_ _) | (with_reducible refine Kd.C_drewN ?_ _) | (with_reducible refine Kd.C_drew ?_))); (case side2 => exact (Kd.V_reads' HO1_3.out).2.1); (case side3 => repeat (first | exact (Kd.V_reads' HO1_4.out).2.2 | (with_reducible refine Kd.C_alloc ?_ _) | (with_reducible refine Kd.C_drewN ?_ _) | (with_reducible refine Kd.C_drew ?_))); (case side4 => exact (Kd.V_reads' HO1_4.out).2.1); (case side5 => first | exact HT.out | (refine tabs_below HT.out ?_; repeat (first | exact HB.out | (with_reducible first | apply below_alloc | apply pw_below_drewN | apply below_drew1 | exact Below.refl _ _) | (refine below_set ?_ (Aside0.out (by assumption)))))); rintro e w48 ⟨rfl, hb⟩; have n0_ := Aside0.mk (Kd.V_below (by (with_reducible repeat (first | apply Kd.V_alloc | apply Kd.V_drewN | apply Kd.V_drew)); exact HO0_3.out) hb); have n1_ := Aside0.mk (Kd.V_below (by (with_reducible repeat (first | apply Kd.V_alloc | apply Kd.V_drewN | apply Kd.V_drew)); exact HO0_4.out) hb); have n2_ := Aside0.mk (Kd.V_below (by (with_reducible repeat (first | apply Kd.V_alloc | apply Kd.V_drewN | apply Kd.V_drew)); exact HO1_3.out) hb); have n3_ := Aside0.mk (Kd.V_below (by (with_reducible repeat (first | apply Kd.V_alloc | apply Kd.V_drewN | apply Kd.V_drew)); exact HO1_4.out) hb); have n4_ := Aside0.mk (Kd.V_below (by (with_reducible repeat (first | apply Kd.V_alloc | apply Kd.V_drewN | apply Kd.V_drew)); exact HO2_3.out) hb); have n5_ := Aside0.mk (Kd.V_below (by (with_reducible repeat (first | apply Kd.V_alloc | apply Kd.V_drewN | apply Kd.V_drew)); exact HO2_4.out) hb); have n6_ := Aside0.mk (Kd.N_below (by (with_reducible repeat (first | apply Kd.N_alloc | apply Kd.N_drewN | apply Kd.N_drew)); exact HO271.out) hb); have n7_ := Aside0.mk (blk_below (g := gb265) (o := .cells #[.int .i64 a0_0, .int .i64 a0_1, .string a0_2, .slice A0_3 l0_3.length c0_3, .slice A0_4 l0_4.length c0_4] 30 (0, 0)) (by (with_reducible repeat (first | refine blk_drewN ?_ _ | refine blk_drew ?_ | refine blk_alloc ?_ _)); exact BK265.out) hb); have n8_ := Aside0.mk (blk_below (g := gb266) (o := .cells #[.int .i64 a1_0, .int .i64 a1_1, .string a1_2, .slice A1_3 l1_3.length c1_3, .slice A1_4 l1_4.length c1_4] 30 (0, 0)) (by (with_reducible repeat (first | refine blk_drewN ?_ _ | refine blk_drew ?_ | refine blk_alloc ?_ _)); exact BK266.out) hb); have n9_ := Aside0.mk (blk_below (g := gb267) (o := .cells #[.int .i64 a2_0, .int .i64 a2_1, .string a2_2, .slice A2_3 l2_3.length c2_3, .slice A2_4 l2_4.length c2_4] 30 (0, 0)) (by (with_reducible repeat (first | refine blk_drewN ?_ _ | refine blk_drew ?_ | refine blk_alloc ?_ _)); exact BK267.out) hb); have n10_ := Aside0.mk (below_step (by repeat (first | (with_reducible first | exact HB.out | apply below_alloc | apply pw_below_drewN | apply below_drew1 | refine below_set ?_ GE265.out | refine below_set ?_ GE266.out | refine below_set ?_ GE267.out) | exact HB.out)) hb); clear HO0_3; clear HO0_4; clear HO1_3; clear HO1_4; clear HO2_3; clear HO2_4; clear HO271; clear BK265; clear BK266; clear BK267; clear HB; have HO0_3 := n0_; have HO0_4 := n1_; have HO1_3 := n2_; have HO1_4 := n3_; have HO2_3 := n4_; have HO2_4 := n5_; have HO271 := n6_; have BK265 := n7_; have BK266 := n8_; have BK267 := n9_; have HB := n10_; clear n0_ n1_ n2_ n3_ n4_ n5_ n6_ n7_ n8_ n9_ n10_; (try clear hb); (try clear hb2); (try clear hk); (try clear hi)))
            go_meet
            case rel => exact ⟨_, (true), (by first | rfl | (simp; done) | (simp [*]; done)), H', ⟨by first | omega | exact Nat.le_refl _⟩, ⟨by (with_reducible repeat (first | apply Kd.V_alloc | apply Kd.V_drewN | apply Kd.V_drew)); exact Kd.V_mono HO0_3.out (fun _ hk => ⟨hk.1.1.1.1, ⟨hk.1.1.1.2, ⟨hk.1.1.2, hk.1.2⟩⟩⟩)⟩, ⟨by (with_reducible repeat (first | apply Kd.V_alloc | apply Kd.V_drewN | apply Kd.V_drew)); exact Kd.V_mono HO0_4.out (fun _ hk => ⟨hk.1.1.1.1, ⟨hk.1.1.1.2, ⟨hk.1.1.2, hk.1.2⟩⟩⟩)⟩, ⟨by (with_reducible repeat (first | apply Kd.V_alloc | apply Kd.V_drewN | apply Kd.V_drew)); exact Kd.V_mono HO1_3.out (fun _ hk => ⟨hk.1.1.1.1, ⟨hk.1.1.1.2, ⟨hk.1.1.2, hk.1.2⟩⟩⟩)⟩, ⟨by (with_reducible repeat (first | apply Kd.V_alloc | apply Kd.V_drewN | apply Kd.V_drew)); exact Kd.V_mono HO1_4.out (fun _ hk => ⟨hk.1.1.1.1, ⟨hk.1.1.1.2, ⟨hk.1.1.2, hk.1.2⟩⟩⟩)⟩, ⟨by (with_reducible repeat (first | apply Kd.V_alloc | apply Kd.V_drewN | apply Kd.V_drew)); exact Kd.V_mono HO2_3.out (fun _ hk => ⟨hk.1.1.1.1, ⟨hk.1.1.1.2, ⟨hk.1.1.2, hk.1.2⟩⟩⟩)⟩, ⟨by (with_reducible repeat (first | apply Kd.V_alloc | apply Kd.V_drewN | apply Kd.V_drew)); exact Kd.V_mono HO2_4.out (fun _ hk => ⟨hk.1.1.1.1, ⟨hk.1.1.1.2, ⟨hk.1.1.2, hk.1.2⟩⟩⟩)⟩, ⟨by (with_reducible repeat (first | refine blk_drewN ?_ _ | refine blk_drew ?_ | refine blk_alloc ?_ _)); exact BK265.out⟩, ⟨by (with_reducible repeat (first | refine blk_drewN ?_ _ | refine blk_drew ?_ | refine blk_alloc ?_ _)); exact BK266.out⟩, ⟨by (with_reducible repeat (first | refine blk_drewN ?_ _ | refine blk_drew ?_ | refine blk_alloc ?_ _)); exact BK267.out⟩, ⟨by repeat (first | (with_reducible first | exact HB.out | apply below_alloc | apply pw_below_drewN | apply below_drew1 | refine below_set ?_ GE265.out | refine below_set ?_ GE266.out | refine below_set ?_ GE267.out) | exact HB.out)⟩⟩
        · replace c13 := Bool.eq_false_iff.mpr c13
          subst c13
          have H1 : (munimentlaw03_OrderTotal.j0 k true a0_0 a0_1 a0_2 l0_3 l0_4 a1_0 a1_1 a1_2 l1_3 l1_4 a2_0 a2_1 a2_2 l2_3 l2_4) = some r := by rw [if_neg (show ¬ (false = true) by decide)] at H; exact H
          clear H
          have H := H1
          clear H1
          have H' := Aside0.mk H
          clear H
          go_wp2_with (first | ((with_reducible refine gate_callee (f := 9) rfl ?_); refine goesL_ (some 10) rfl rfl Tryd.func9 (by kernel_rfl) rfl #[] rfl (by (try simp only [List.map_toArray, List.map_cons, List.map_nil]); first | done | rfl | (simp only [List.length_drop, List.length_take]; rfl)) ?_; (with_reducible refine (munimentlaw03_awake.calls k  true _ ?side1 A8.out).mono ?_); (case side1 => first | exact HT.out | (refine tabs_below HT.out ?_; repeat (first | exact HB.out | (with_reducible first | apply below_alloc | apply pw_below_drewN | apply below_drew1 | exact Below.refl _ _) | (refine below_set ?_ (Aside0.out (by assumption)))))); rintro e w49 ⟨rfl, hb⟩; refine ⟨_, rfl, ?_⟩; have n0_ := Aside0.mk (Kd.V_below (by (with_reducible repeat (first | apply Kd.V_alloc | apply Kd.V_drewN | apply Kd.V_drew)); exact HO0_3.out) hb); have n1_ := Aside0.mk (Kd.V_below (by (with_reducible repeat (first | apply Kd.V_alloc | apply Kd.V_drewN | apply Kd.V_drew)); exact HO0_4.out) hb); have n2_ := Aside0.mk (Kd.V_below (by (with_reducible repeat (first | apply Kd.V_alloc | apply Kd.V_drewN | apply Kd.V_drew)); exact HO1_3.out) hb); have n3_ := Aside0.mk (Kd.V_below (by (with_reducible repeat (first | apply Kd.V_alloc | apply Kd.V_drewN | apply Kd.V_drew)); exact HO1_4.out) hb); have n4_ := Aside0.mk (Kd.V_below (by (with_reducible repeat (first | apply Kd.V_alloc | apply Kd.V_drewN | apply Kd.V_drew)); exact HO2_3.out) hb); have n5_ := Aside0.mk (Kd.V_below (by (with_reducible repeat (first | apply Kd.V_alloc | apply Kd.V_drewN | apply Kd.V_drew)); exact HO2_4.out) hb); have n6_ := Aside0.mk (blk_below (g := gb265) (o := .cells #[.int .i64 a0_0, .int .i64 a0_1, .string a0_2, .slice A0_3 l0_3.length c0_3, .slice A0_4 l0_4.length c0_4] 30 (0, 0)) (by (with_reducible repeat (first | refine blk_drewN ?_ _ | refine blk_drew ?_ | refine blk_alloc ?_ _)); exact BK265.out) hb); have n7_ := Aside0.mk (blk_below (g := gb266) (o := .cells #[.int .i64 a1_0, .int .i64 a1_1, .string a1_2, .slice A1_3 l1_3.length c1_3, .slice A1_4 l1_4.length c1_4] 30 (0, 0)) (by (with_reducible repeat (first | refine blk_drewN ?_ _ | refine blk_drew ?_ | refine blk_alloc ?_ _)); exact BK266.out) hb); have n8_ := Aside0.mk (blk_below (g := gb267) (o := .cells #[.int .i64 a2_0, .int .i64 a2_1, .string a2_2, .slice A2_3 l2_3.length c2_3, .slice A2_4 l2_4.length c2_4] 30 (0, 0)) (by (with_reducible repeat (first | refine blk_drewN ?_ _ | refine blk_drew ?_ | refine blk_alloc ?_ _)); exact BK267.out) hb); have n9_ := Aside0.mk (below_step (by repeat (first | (with_reducible first | exact HB.out | apply below_alloc | apply pw_below_drewN | apply below_drew1 | refine below_set ?_ GE265.out | refine below_set ?_ GE266.out | refine below_set ?_ GE267.out) | exact HB.out)) hb); clear HO0_3; clear HO0_4; clear HO1_3; clear HO1_4; clear HO2_3; clear HO2_4; clear BK265; clear BK266; clear BK267; clear HB; have HO0_3 := n0_; have HO0_4 := n1_; have HO1_3 := n2_; have HO1_4 := n3_; have HO2_3 := n4_; have HO2_4 := n5_; have BK265 := n6_; have BK266 := n7_; have BK267 := n8_; have HB := n9_; clear n0_ n1_ n2_ n3_ n4_ n5_ n6_ n7_ n8_ n9_; (try clear hb); (try clear hb2); (try clear hk); (try clear hi); have hnb50 := NB265_266.out; have hnc50 := NB266_265.out; have hnb51 := NB265_267.out; have hnc51 := NB267_265.out; have hcz52_0 : w49.cell? ⟨gb265, 0, none⟩ = some (.int .i64 a0_0) := (blk_cell BK265.out 0).trans rfl; have hcz52_1 : w49.cell? ⟨gb265, 1, none⟩ = some (.int .i64 a0_1) := (blk_cell BK265.out 1).trans rfl; have hcz52_2 : w49.cell? ⟨gb265, 2, none⟩ = some (.string a0_2) := (blk_cell BK265.out 2).trans rfl; have hcz52_3 : w49.cell? ⟨gb265, 3, none⟩ = some (.slice A0_3 l0_3.length c0_3) := (blk_cell BK265.out 3).trans rfl; have hcz52_4 : w49.cell? ⟨gb265, 4, none⟩ = some (.slice A0_4 l0_4.length c0_4) := (blk_cell BK265.out 4).trans rfl; have hfz52_0 := blk_frozen BK265.out 0; have hfz52_1 := blk_frozen BK265.out 1; have hfz52_2 := blk_frozen BK265.out 2; have hfz52_3 := blk_frozen BK265.out 3; have hfz52_4 := blk_frozen BK265.out 4; have hnb53 := NB266_267.out; have hnc53 := NB267_266.out; have hcz54_0 : w49.cell? ⟨gb266, 0, none⟩ = some (.int .i64 a1_0) := (blk_cell BK266.out 0).trans rfl; have hcz54_1 : w49.cell? ⟨gb266, 1, none⟩ = some (.int .i64 a1_1) := (blk_cell BK266.out 1).trans rfl; have hcz54_2 : w49.cell? ⟨gb266, 2, none⟩ = some (.string a1_2) := (blk_cell BK266.out 2).trans rfl; have hcz54_3 : w49.cell? ⟨gb266, 3, none⟩ = some (.slice A1_3 l1_3.length c1_3) := (blk_cell BK266.out 3).trans rfl; have hcz54_4 : w49.cell? ⟨gb266, 4, none⟩ = some (.slice A1_4 l1_4.length c1_4) := (blk_cell BK266.out 4).trans rfl; have hfz54_0 := blk_frozen BK266.out 0; have hfz54_1 := blk_frozen BK266.out 1; have hfz54_2 := blk_frozen BK266.out 2; have hfz54_3 := blk_frozen BK266.out 3; have hfz54_4 := blk_frozen BK266.out 4; have hcz55_0 : w49.cell? ⟨gb267, 0, none⟩ = some (.int .i64 a2_0) := (blk_cell BK267.out 0).trans rfl; have hcz55_1 : w49.cell? ⟨gb267, 1, none⟩ = some (.int .i64 a2_1) := (blk_cell BK267.out 1).trans rfl; have hcz55_2 : w49.cell? ⟨gb267, 2, none⟩ = some (.string a2_2) := (blk_cell BK267.out 2).trans rfl; have hcz55_3 : w49.cell? ⟨gb267, 3, none⟩ = some (.slice A2_3 l2_3.length c2_3) := (blk_cell BK267.out 3).trans rfl; have hcz55_4 : w49.cell? ⟨gb267, 4, none⟩ = some (.slice A2_4 l2_4.length c2_4) := (blk_cell BK267.out 4).trans rfl; have hfz55_0 := blk_frozen BK267.out 0; have hfz55_1 := blk_frozen BK267.out 1; have hfz55_2 := blk_frozen BK267.out 2; have hfz55_3 := blk_frozen BK267.out 3; have hfz55_4 := blk_frozen BK267.out 4) | ((with_reducible refine gate_dst (N := 16) rfl ?_); (try (refine gate_guard (by rfl) ?_; dsimp only)); refine Kd.N_lit k30 _ 30 ?hg (N' := 16) ?hd (xs := ([(⟨a0_0, a0_1, a0_2, l0_3, l0_4⟩ : S30), (⟨a1_0, a1_1, a1_2, l1_3, l1_4⟩ : S30), (⟨a2_0, a2_1, a2_2, l2_3, l2_4⟩ : S30)] : List (S30))) (inner := [.int .i64 a0_0, .int .i64 a0_1, .string a0_2, .slice A0_3 l0_3.length c0_3, .slice A0_4 l0_4.length c0_4, .int .i64 a1_0, .int .i64 a1_1, .string a1_2, .slice A1_3 l1_3.length c1_3, .slice A1_4 l1_4.length c1_4, .int .i64 a2_0, .int .i64 a2_1, .string a2_2, .slice A2_3 l2_3.length c2_3, .slice A2_4 l2_4.length c2_4]) (ok := (fun k_ => ((P0_3_ k_ ∨ P0_4_ k_ ∨ P1_3_ k_ ∨ P1_4_ k_ ∨ P2_3_ k_ ∨ P2_4_ k_) ∨ w.heap.size ≤ k_) ∧ k_ ≠ gb265 ∧ k_ ≠ gb266 ∧ k_ ≠ gb267)) (okp := (fun k_ => ((P0_3_ k_ ∨ P0_4_ k_ ∨ P1_3_ k_ ∨ P1_4_ k_ ∨ P2_3_ k_ ∨ P2_4_ k_) ∨ w.heap.size ≤ k_) ∧ k_ ≠ gb265 ∧ k_ ≠ gb266 ∧ k_ ≠ gb267)) ?hr ?hp (fun _ hk => hk) ((show ∀ k_, w49.heap.size ≤ k_ → (fun k_ => ((P0_3_ k_ ∨ P0_4_ k_ ∨ P1_3_ k_ ∨ P1_4_ k_ ∨ P2_3_ k_ ∨ P2_4_ k_) ∨ w.heap.size ≤ k_) ∧ k_ ≠ gb265 ∧ k_ ≠ gb266 ∧ k_ ≠ gb267) k_ from fun k_ hk => ⟨(.inr (Nat.le_trans (below_size (by repeat (first | (with_reducible first | exact HB.out | apply below_alloc | apply pw_below_drewN | apply below_drew1 | refine below_set ?_ GE265.out | refine below_set ?_ GE266.out | refine below_set ?_ GE267.out) | exact HB.out))) hk)), Kd.freshB (g := gb265) (o := .cells #[.int .i64 a0_0, .int .i64 a0_1, .string a0_2, .slice A0_3 l0_3.length c0_3, .slice A0_4 l0_4.length c0_4] 30 (0, 0)) (by (with_reducible repeat (first | refine blk_drewN ?_ _ | refine blk_drew ?_ | refine blk_alloc ?_ _)); exact BK265.out) k_ hk, Kd.freshB (g := gb266) (o := .cells #[.int .i64 a1_0, .int .i64 a1_1, .string a1_2, .slice A1_3 l1_3.length c1_3, .slice A1_4 l1_4.length c1_4] 30 (0, 0)) (by (with_reducible repeat (first | refine blk_drewN ?_ _ | refine blk_drew ?_ | refine blk_alloc ?_ _)); exact BK266.out) k_ hk, Kd.freshB (g := gb267) (o := .cells #[.int .i64 a2_0, .int .i64 a2_1, .string a2_2, .slice A2_3 l2_3.length c2_3, .slice A2_4 l2_4.length c2_4] 30 (0, 0)) (by (with_reducible repeat (first | refine blk_drewN ?_ _ | refine blk_drew ?_ | refine blk_alloc ?_ _)); exact BK267.out) k_ hk⟩) _ (Nat.le_refl _)) (Below.refl _ _) (Nat.le_refl _) (by simp) ?_; (case hd => rfl); (case hg => rfl); (case hr => first | (go_simp; done) | (go_simp; rfl)); (case hp => exact (Reps.c5 (show Kd.FK k30 _ _ (⟨a0_0, a0_1, a0_2, l0_3, l0_4⟩ : S30) [.int .i64 a0_0, .int .i64 a0_1, .string a0_2, .slice A0_3 l0_3.length c0_3, .slice A0_4 l0_4.length c0_4] from (k30_mkF _ _ (⟨a0_0, a0_1, a0_2, l0_3, l0_4⟩ : S30) (Kd.V_reads' (Kd.V_mono (ok' := (fun k_ => ((P0_3_ k_ ∨ P0_4_ k_ ∨ P1_3_ k_ ∨ P1_4_ k_ ∨ P2_3_ k_ ∨ P2_4_ k_) ∨ w.heap.size ≤ k_) ∧ k_ ≠ gb265 ∧ k_ ≠ gb266 ∧ k_ ≠ gb267)) (HO0_3.out) (fun k_ hk => ⟨hk.1.1.1, ⟨hk.1.1.2, ⟨hk.1.2, hk.2⟩⟩⟩))).2.1 (Kd.V_F (Kd.V_mono (ok' := (fun k_ => ((P0_3_ k_ ∨ P0_4_ k_ ∨ P1_3_ k_ ∨ P1_4_ k_ ∨ P2_3_ k_ ∨ P2_4_ k_) ∨ w.heap.size ≤ k_) ∧ k_ ≠ gb265 ∧ k_ ≠ gb266 ∧ k_ ≠ gb267)) (HO0_3.out) (fun k_ hk => ⟨hk.1.1.1, ⟨hk.1.1.2, ⟨hk.1.2, hk.2⟩⟩⟩))) (Kd.V_reads' (Kd.V_mono (ok' := (fun k_ => ((P0_3_ k_ ∨ P0_4_ k_ ∨ P1_3_ k_ ∨ P1_4_ k_ ∨ P2_3_ k_ ∨ P2_4_ k_) ∨ w.heap.size ≤ k_) ∧ k_ ≠ gb265 ∧ k_ ≠ gb266 ∧ k_ ≠ gb267)) (HO0_4.out) (fun k_ hk => ⟨hk.1.1.1, ⟨hk.1.1.2, ⟨hk.1.2, hk.2⟩⟩⟩))).2.1 (Kd.V_F (Kd.V_mono (ok' := (fun k_ => ((P0_3_ k_ ∨ P0_4_ k_ ∨ P1_3_ k_ ∨ P1_4_ k_ ∨ P2_3_ k_ ∨ P2_4_ k_) ∨ w.heap.size ≤ k_) ∧ k_ ≠ gb265 ∧ k_ ≠ gb266 ∧ k_ ≠ gb267)) (HO0_4.out) (fun k_ hk => ⟨hk.1.1.1, ⟨hk.1.1.2, ⟨hk.1.2, hk.2⟩⟩⟩))))) (Reps.c5 (show Kd.FK k30 _ _ (⟨a1_0, a1_1, a1_2, l1_3, l1_4⟩ : S30) [.int .i64 a1_0, .int .i64 a1_1, .string a1_2, .slice A1_3 l1_3.length c1_3, .slice A1_4 l1_4.length c1_4] from (k30_mkF _ _ (⟨a1_0, a1_1, a1_2, l1_3, l1_4⟩ : S30) (Kd.V_reads' (Kd.V_mono (ok' := (fun k_ => ((P0_3_ k_ ∨ P0_4_ k_ ∨ P1_3_ k_ ∨ P1_4_ k_ ∨ P2_3_ k_ ∨ P2_4_ k_) ∨ w.heap.size ≤ k_) ∧ k_ ≠ gb265 ∧ k_ ≠ gb266 ∧ k_ ≠ gb267)) (HO1_3.out) (fun k_ hk => ⟨hk.1.1.1, ⟨hk.1.1.2, ⟨hk.1.2, hk.2⟩⟩⟩))).2.1 (Kd.V_F (Kd.V_mono (ok' := (fun k_ => ((P0_3_ k_ ∨ P0_4_ k_ ∨ P1_3_ k_ ∨ P1_4_ k_ ∨ P2_3_ k_ ∨ P2_4_ k_) ∨ w.heap.size ≤ k_) ∧ k_ ≠ gb265 ∧ k_ ≠ gb266 ∧ k_ ≠ gb267)) (HO1_3.out) (fun k_ hk => ⟨hk.1.1.1, ⟨hk.1.1.2, ⟨hk.1.2, hk.2⟩⟩⟩))) (Kd.V_reads' (Kd.V_mono (ok' := (fun k_ => ((P0_3_ k_ ∨ P0_4_ k_ ∨ P1_3_ k_ ∨ P1_4_ k_ ∨ P2_3_ k_ ∨ P2_4_ k_) ∨ w.heap.size ≤ k_) ∧ k_ ≠ gb265 ∧ k_ ≠ gb266 ∧ k_ ≠ gb267)) (HO1_4.out) (fun k_ hk => ⟨hk.1.1.1, ⟨hk.1.1.2, ⟨hk.1.2, hk.2⟩⟩⟩))).2.1 (Kd.V_F (Kd.V_mono (ok' := (fun k_ => ((P0_3_ k_ ∨ P0_4_ k_ ∨ P1_3_ k_ ∨ P1_4_ k_ ∨ P2_3_ k_ ∨ P2_4_ k_) ∨ w.heap.size ≤ k_) ∧ k_ ≠ gb265 ∧ k_ ≠ gb266 ∧ k_ ≠ gb267)) (HO1_4.out) (fun k_ hk => ⟨hk.1.1.1, ⟨hk.1.1.2, ⟨hk.1.2, hk.2⟩⟩⟩))))) (Reps.c5 (show Kd.FK k30 _ _ (⟨a2_0, a2_1, a2_2, l2_3, l2_4⟩ : S30) [.int .i64 a2_0, .int .i64 a2_1, .string a2_2, .slice A2_3 l2_3.length c2_3, .slice A2_4 l2_4.length c2_4] from (k30_mkF _ _ (⟨a2_0, a2_1, a2_2, l2_3, l2_4⟩ : S30) (Kd.V_reads' (Kd.V_mono (ok' := (fun k_ => ((P0_3_ k_ ∨ P0_4_ k_ ∨ P1_3_ k_ ∨ P1_4_ k_ ∨ P2_3_ k_ ∨ P2_4_ k_) ∨ w.heap.size ≤ k_) ∧ k_ ≠ gb265 ∧ k_ ≠ gb266 ∧ k_ ≠ gb267)) (HO2_3.out) (fun k_ hk => ⟨hk.1.1.1, ⟨hk.1.1.2, ⟨hk.1.2, hk.2⟩⟩⟩))).2.1 (Kd.V_F (Kd.V_mono (ok' := (fun k_ => ((P0_3_ k_ ∨ P0_4_ k_ ∨ P1_3_ k_ ∨ P1_4_ k_ ∨ P2_3_ k_ ∨ P2_4_ k_) ∨ w.heap.size ≤ k_) ∧ k_ ≠ gb265 ∧ k_ ≠ gb266 ∧ k_ ≠ gb267)) (HO2_3.out) (fun k_ hk => ⟨hk.1.1.1, ⟨hk.1.1.2, ⟨hk.1.2, hk.2⟩⟩⟩))) (Kd.V_reads' (Kd.V_mono (ok' := (fun k_ => ((P0_3_ k_ ∨ P0_4_ k_ ∨ P1_3_ k_ ∨ P1_4_ k_ ∨ P2_3_ k_ ∨ P2_4_ k_) ∨ w.heap.size ≤ k_) ∧ k_ ≠ gb265 ∧ k_ ≠ gb266 ∧ k_ ≠ gb267)) (HO2_4.out) (fun k_ hk => ⟨hk.1.1.1, ⟨hk.1.1.2, ⟨hk.1.2, hk.2⟩⟩⟩))).2.1 (Kd.V_F (Kd.V_mono (ok' := (fun k_ => ((P0_3_ k_ ∨ P0_4_ k_ ∨ P1_3_ k_ ∨ P1_4_ k_ ∨ P2_3_ k_ ∨ P2_4_ k_) ∨ w.heap.size ≤ k_) ∧ k_ ≠ gb265 ∧ k_ ≠ gb266 ∧ k_ ≠ gb267)) (HO2_4.out) (fun k_ hk => ⟨hk.1.1.1, ⟨hk.1.1.2, ⟨hk.1.2, hk.2⟩⟩⟩))))) (Reps.none _ _))))); intro v270 w56 ho57 hb hg_ hnew_; clear hg_ hnew_; (first | rw [← Ny269.out] at ho57 | (simp only [Int.reduceToNat] at ho57; rw [← Ny269.out] at ho57)); have n0_ := Aside0.mk (Kd.V_elder' (by (with_reducible repeat (first | apply Kd.V_alloc | apply Kd.V_drewN | apply Kd.V_drew)); exact HO0_3.out) (Kd.N_base ho57) hb); have n1_ := Aside0.mk (Kd.V_elder' (by (with_reducible repeat (first | apply Kd.V_alloc | apply Kd.V_drewN | apply Kd.V_drew)); exact HO0_4.out) (Kd.N_base ho57) hb); have n2_ := Aside0.mk (Kd.V_elder' (by (with_reducible repeat (first | apply Kd.V_alloc | apply Kd.V_drewN | apply Kd.V_drew)); exact HO1_3.out) (Kd.N_base ho57) hb); have n3_ := Aside0.mk (Kd.V_elder' (by (with_reducible repeat (first | apply Kd.V_alloc | apply Kd.V_drewN | apply Kd.V_drew)); exact HO1_4.out) (Kd.N_base ho57) hb); have n4_ := Aside0.mk (Kd.V_elder' (by (with_reducible repeat (first | apply Kd.V_alloc | apply Kd.V_drewN | apply Kd.V_drew)); exact HO2_3.out) (Kd.N_base ho57) hb); have n5_ := Aside0.mk (Kd.V_elder' (by (with_reducible repeat (first | apply Kd.V_alloc | apply Kd.V_drewN | apply Kd.V_drew)); exact HO2_4.out) (Kd.N_base ho57) hb); have n6_ := Aside0.mk (Kd.N_lower ho57 (below_size (by repeat (first | (with_reducible first | exact HB.out | apply below_alloc | apply pw_below_drewN | apply below_drew1 | refine below_set ?_ GE265.out | refine below_set ?_ GE266.out | refine below_set ?_ GE267.out) | exact HB.out)))); have n7_ := Aside0.mk (blk_below (g := gb265) (o := .cells #[.int .i64 a0_0, .int .i64 a0_1, .string a0_2, .slice A0_3 l0_3.length c0_3, .slice A0_4 l0_4.length c0_4] 30 (0, 0)) (by (with_reducible repeat (first | refine blk_drewN ?_ _ | refine blk_drew ?_ | refine blk_alloc ?_ _)); exact BK265.out) hb); have n8_ := Aside0.mk (blk_below (g := gb266) (o := .cells #[.int .i64 a1_0, .int .i64 a1_1, .string a1_2, .slice A1_3 l1_3.length c1_3, .slice A1_4 l1_4.length c1_4] 30 (0, 0)) (by (with_reducible repeat (first | refine blk_drewN ?_ _ | refine blk_drew ?_ | refine blk_alloc ?_ _)); exact BK266.out) hb); have n9_ := Aside0.mk (blk_below (g := gb267) (o := .cells #[.int .i64 a2_0, .int .i64 a2_1, .string a2_2, .slice A2_3 l2_3.length c2_3, .slice A2_4 l2_4.length c2_4] 30 (0, 0)) (by (with_reducible repeat (first | refine blk_drewN ?_ _ | refine blk_drew ?_ | refine blk_alloc ?_ _)); exact BK267.out) hb); have n10_ := Aside0.mk (below_step (by repeat (first | (with_reducible first | exact HB.out | apply below_alloc | apply pw_below_drewN | apply below_drew1 | refine below_set ?_ GE265.out | refine below_set ?_ GE266.out | refine below_set ?_ GE267.out) | exact HB.out)) hb); clear HO0_3; clear HO0_4; clear HO1_3; clear HO1_4; clear HO2_3; clear HO2_4; clear BK265; clear BK266; clear BK267; clear HB; have HO0_3 := n0_; have HO0_4 := n1_; have HO1_3 := n2_; have HO1_4 := n3_; have HO2_3 := n4_; have HO2_4 := n5_; have HO271 := n6_; have BK265 := n7_; have BK266 := n8_; have BK267 := n9_; have HB := n10_; clear n0_ n1_ n2_ n3_ n4_ n5_ n6_ n7_ n8_ n9_ n10_; clear hb ho57; obtain ⟨Ao58, co58, eo58⟩ := Kd.N_slice HO271.out; subst eo58) | (go_at_call 10; (with_reducible refine (munimentlaw03_few.calls k _ _ y269 true _ ?side1 ?side2 A10.out).mono ?_); (case side1 => repeat (first | exact (Kd.N_reads' HO271.out).2.2 | (with_reducible refine Kd.C_alloc ?_ _) | (with_reducible refine Kd.C_drewN ?_ _) | (with_reducible refine Kd.C_drew ?_))); (case side2 => exact (Kd.N_reads' HO271.out).2.1); rintro e w59 ⟨rfl, hb⟩; have n0_ := Aside0.mk (Kd.V_below (by (with_reducible repeat (first | apply Kd.V_alloc | apply Kd.V_drewN | apply Kd.V_drew)); exact HO0_3.out) hb); have n1_ := Aside0.mk (Kd.V_below (by (with_reducible repeat (first | apply Kd.V_alloc | apply Kd.V_drewN | apply Kd.V_drew)); exact HO0_4.out) hb); have n2_ := Aside0.mk (Kd.V_below (by (with_reducible repeat (first | apply Kd.V_alloc | apply Kd.V_drewN | apply Kd.V_drew)); exact HO1_3.out) hb); have n3_ := Aside0.mk (Kd.V_below (by (with_reducible repeat (first | apply Kd.V_alloc | apply Kd.V_drewN | apply Kd.V_drew)); exact HO1_4.out) hb); have n4_ := Aside0.mk (Kd.V_below (by (with_reducible repeat (first | apply Kd.V_alloc | apply Kd.V_drewN | apply Kd.V_drew)); exact HO2_3.out) hb); have n5_ := Aside0.mk (Kd.V_below (by (with_reducible repeat (first | apply Kd.V_alloc | apply Kd.V_drewN | apply Kd.V_drew)); exact HO2_4.out) hb); have n6_ := Aside0.mk (Kd.N_below (by (with_reducible repeat (first | apply Kd.N_alloc | apply Kd.N_drewN | apply Kd.N_drew)); exact HO271.out) hb); have n7_ := Aside0.mk (blk_below (g := gb265) (o := .cells #[.int .i64 a0_0, .int .i64 a0_1, .string a0_2, .slice A0_3 l0_3.length c0_3, .slice A0_4 l0_4.length c0_4] 30 (0, 0)) (by (with_reducible repeat (first | refine blk_drewN ?_ _ | refine blk_drew ?_ | refine blk_alloc ?_ _)); exact BK265.out) hb); have n8_ := Aside0.mk (blk_below (g := gb266) (o := .cells #[.int .i64 a1_0, .int .i64 a1_1, .string a1_2, .slice A1_3 l1_3.length c1_3, .slice A1_4 l1_4.length c1_4] 30 (0, 0)) (by (with_reducible repeat (first | refine blk_drewN ?_ _ | refine blk_drew ?_ | refine blk_alloc ?_ _)); exact BK266.out) hb); have n9_ := Aside0.mk (blk_below (g := gb267) (o := .cells #[.int .i64 a2_0, .int .i64 a2_1, .string a2_2, .slice A2_3 l2_3.length c2_3, .slice A2_4 l2_4.length c2_4] 30 (0, 0)) (by (with_reducible repeat (first | refine blk_drewN ?_ _ | refine blk_drew ?_ | refine blk_alloc ?_ _)); exact BK267.out) hb); have n10_ := Aside0.mk (below_step (by repeat (first | (with_reducible first | exact HB.out | apply below_alloc | apply pw_below_drewN | apply below_drew1 | refine below_set ?_ GE265.out | refine below_set ?_ GE266.out | refine below_set ?_ GE267.out) | exact HB.out)) hb); clear HO0_3; clear HO0_4; clear HO1_3; clear HO1_4; clear HO2_3; clear HO2_4; clear HO271; clear BK265; clear BK266; clear BK267; clear HB; have HO0_3 := n0_; have HO0_4 := n1_; have HO1_3 := n2_; have HO1_4 := n3_; have HO2_3 := n4_; have HO2_4 := n5_; have HO271 := n6_; have BK265 := n7_; have BK266 := n8_; have BK267 := n9_; have HB := n10_; clear n0_ n1_ n2_ n3_ n4_ n5_ n6_ n7_ n8_ n9_ n10_; (try clear hb); (try clear hb2); (try clear hk); (try clear hi); have hcz60_0 : w59.cell? ⟨gb265, 0, none⟩ = some (.int .i64 a0_0) := (blk_cell BK265.out 0).trans rfl; have hcz60_1 : w59.cell? ⟨gb265, 1, none⟩ = some (.int .i64 a0_1) := (blk_cell BK265.out 1).trans rfl; have hcz60_2 : w59.cell? ⟨gb265, 2, none⟩ = some (.string a0_2) := (blk_cell BK265.out 2).trans rfl; have hcz60_3 : w59.cell? ⟨gb265, 3, none⟩ = some (.slice A0_3 l0_3.length c0_3) := (blk_cell BK265.out 3).trans rfl; have hcz60_4 : w59.cell? ⟨gb265, 4, none⟩ = some (.slice A0_4 l0_4.length c0_4) := (blk_cell BK265.out 4).trans rfl; have hfz60_0 := blk_frozen BK265.out 0; have hfz60_1 := blk_frozen BK265.out 1; have hfz60_2 := blk_frozen BK265.out 2; have hfz60_3 := blk_frozen BK265.out 3; have hfz60_4 := blk_frozen BK265.out 4) | (go_at_call 16; (with_reducible refine (json_Formed.calls k a0_0 a0_1 a0_2 _ _ l0_3 _ _ l0_4 false _ ?side1 ?side2 ?side3 ?side4 ?side5 A12.out).mono ?_); (case side1 => repeat (first | exact (Kd.V_reads' HO0_3.out).2.2 | (with_reducible refine Kd.C_alloc ?_ _) | (with_reducible refine Kd.C_drewN ?_ _) | (with_reducible refine Kd.C_drew ?_))); (case side2 => exact (Kd.V_reads' HO0_3.out).2.1); (case side3 => repeat (first | exact (Kd.V_reads' HO0_4.out).2.2 | (with_reducible refine Kd.C_alloc ?_ _) | (with_reducible refine Kd.C_drewN ?_ _) | (with_reducible refine Kd.C_drew ?_))); (case side4 => exact (Kd.V_reads' HO0_4.out).2.1); (case side5 => first | exact HT.out | (refine tabs_below HT.out ?_; repeat (first | exact HB.out | (with_reducible first | apply below_alloc | apply pw_below_drewN | apply below_drew1 | exact Below.refl _ _) | (refine below_set ?_ (Aside0.out (by assumption)))))); rintro e w61 ⟨rfl, hb⟩; have n0_ := Aside0.mk (Kd.V_below (by (with_reducible repeat (first | apply Kd.V_alloc | apply Kd.V_drewN | apply Kd.V_drew)); exact HO0_3.out) hb); have n1_ := Aside0.mk (Kd.V_below (by (with_reducible repeat (first | apply Kd.V_alloc | apply Kd.V_drewN | apply Kd.V_drew)); exact HO0_4.out) hb); have n2_ := Aside0.mk (Kd.V_below (by (with_reducible repeat (first | apply Kd.V_alloc | apply Kd.V_drewN | apply Kd.V_drew)); exact HO1_3.out) hb); have n3_ := Aside0.mk (Kd.V_below (by (with_reducible repeat (first | apply Kd.V_alloc | apply Kd.V_drewN | apply Kd.V_drew)); exact HO1_4.out) hb); have n4_ := Aside0.mk (Kd.V_below (by (with_reducible repeat (first | apply Kd.V_alloc | apply Kd.V_drewN | apply Kd.V_drew)); exact HO2_3.out) hb); have n5_ := Aside0.mk (Kd.V_below (by (with_reducible repeat (first | apply Kd.V_alloc | apply Kd.V_drewN | apply Kd.V_drew)); exact HO2_4.out) hb); have n6_ := Aside0.mk (Kd.N_below (by (with_reducible repeat (first | apply Kd.N_alloc | apply Kd.N_drewN | apply Kd.N_drew)); exact HO271.out) hb); have n7_ := Aside0.mk (blk_below (g := gb265) (o := .cells #[.int .i64 a0_0, .int .i64 a0_1, .string a0_2, .slice A0_3 l0_3.length c0_3, .slice A0_4 l0_4.length c0_4] 30 (0, 0)) (by (with_reducible repeat (first | refine blk_drewN ?_ _ | refine blk_drew ?_ | refine blk_alloc ?_ _)); exact BK265.out) hb); have n8_ := Aside0.mk (blk_below (g := gb266) (o := .cells #[.int .i64 a1_0, .int .i64 a1_1, .string a1_2, .slice A1_3 l1_3.length c1_3, .slice A1_4 l1_4.length c1_4] 30 (0, 0)) (by (with_reducible repeat (first | refine blk_drewN ?_ _ | refine blk_drew ?_ | refine blk_alloc ?_ _)); exact BK266.out) hb); have n9_ := Aside0.mk (blk_below (g := gb267) (o := .cells #[.int .i64 a2_0, .int .i64 a2_1, .string a2_2, .slice A2_3 l2_3.length c2_3, .slice A2_4 l2_4.length c2_4] 30 (0, 0)) (by (with_reducible repeat (first | refine blk_drewN ?_ _ | refine blk_drew ?_ | refine blk_alloc ?_ _)); exact BK267.out) hb); have n10_ := Aside0.mk (below_step (by repeat (first | (with_reducible first | exact HB.out | apply below_alloc | apply pw_below_drewN | apply below_drew1 | refine below_set ?_ GE265.out | refine below_set ?_ GE266.out | refine below_set ?_ GE267.out) | exact HB.out)) hb); clear HO0_3; clear HO0_4; clear HO1_3; clear HO1_4; clear HO2_3; clear HO2_4; clear HO271; clear BK265; clear BK266; clear BK267; clear HB; have HO0_3 := n0_; have HO0_4 := n1_; have HO1_3 := n2_; have HO1_4 := n3_; have HO2_3 := n4_; have HO2_4 := n5_; have HO271 := n6_; have BK265 := n7_; have BK266 := n8_; have BK267 := n9_; have HB := n10_; clear n0_ n1_ n2_ n3_ n4_ n5_ n6_ n7_ n8_ n9_ n10_; (try clear hb); (try clear hb2); (try clear hk); (try clear hi)))
          go_meet
          case rel => exact ⟨_, (true), (by first | rfl | (simp; done) | (simp [*]; done)), H', ⟨by first | omega | exact Nat.le_refl _⟩, ⟨by (with_reducible repeat (first | apply Kd.V_alloc | apply Kd.V_drewN | apply Kd.V_drew)); exact Kd.V_mono HO0_3.out (fun _ hk => ⟨hk.1.1.1.1, ⟨hk.1.1.1.2, ⟨hk.1.1.2, hk.1.2⟩⟩⟩)⟩, ⟨by (with_reducible repeat (first | apply Kd.V_alloc | apply Kd.V_drewN | apply Kd.V_drew)); exact Kd.V_mono HO0_4.out (fun _ hk => ⟨hk.1.1.1.1, ⟨hk.1.1.1.2, ⟨hk.1.1.2, hk.1.2⟩⟩⟩)⟩, ⟨by (with_reducible repeat (first | apply Kd.V_alloc | apply Kd.V_drewN | apply Kd.V_drew)); exact Kd.V_mono HO1_3.out (fun _ hk => ⟨hk.1.1.1.1, ⟨hk.1.1.1.2, ⟨hk.1.1.2, hk.1.2⟩⟩⟩)⟩, ⟨by (with_reducible repeat (first | apply Kd.V_alloc | apply Kd.V_drewN | apply Kd.V_drew)); exact Kd.V_mono HO1_4.out (fun _ hk => ⟨hk.1.1.1.1, ⟨hk.1.1.1.2, ⟨hk.1.1.2, hk.1.2⟩⟩⟩)⟩, ⟨by (with_reducible repeat (first | apply Kd.V_alloc | apply Kd.V_drewN | apply Kd.V_drew)); exact Kd.V_mono HO2_3.out (fun _ hk => ⟨hk.1.1.1.1, ⟨hk.1.1.1.2, ⟨hk.1.1.2, hk.1.2⟩⟩⟩)⟩, ⟨by (with_reducible repeat (first | apply Kd.V_alloc | apply Kd.V_drewN | apply Kd.V_drew)); exact Kd.V_mono HO2_4.out (fun _ hk => ⟨hk.1.1.1.1, ⟨hk.1.1.1.2, ⟨hk.1.1.2, hk.1.2⟩⟩⟩)⟩, ⟨by (with_reducible repeat (first | refine blk_drewN ?_ _ | refine blk_drew ?_ | refine blk_alloc ?_ _)); exact BK265.out⟩, ⟨by (with_reducible repeat (first | refine blk_drewN ?_ _ | refine blk_drew ?_ | refine blk_alloc ?_ _)); exact BK266.out⟩, ⟨by (with_reducible repeat (first | refine blk_drewN ?_ _ | refine blk_drew ?_ | refine blk_alloc ?_ _)); exact BK267.out⟩, ⟨by repeat (first | (with_reducible first | exact HB.out | apply below_alloc | apply pw_below_drewN | apply below_drew1 | refine below_set ?_ GE265.out | refine below_set ?_ GE266.out | refine below_set ?_ GE267.out) | exact HB.out)⟩⟩
      · replace c11 := Bool.eq_false_iff.mpr c11
        subst c11
        have H1 : (munimentlaw03_OrderTotal.j0 k true a0_0 a0_1 a0_2 l0_3 l0_4 a1_0 a1_1 a1_2 l1_3 l1_4 a2_0 a2_1 a2_2 l2_3 l2_4) = some r := by rw [if_neg (show ¬ (false = true) by decide)] at H; exact H
        clear H
        have H := H1
        clear H1
        have H' := Aside0.mk H
        clear H
        go_wp2_with (first | ((with_reducible refine gate_callee (f := 9) rfl ?_); refine goesL_ (some 10) rfl rfl Tryd.func9 (by kernel_rfl) rfl #[] rfl (by (try simp only [List.map_toArray, List.map_cons, List.map_nil]); first | done | rfl | (simp only [List.length_drop, List.length_take]; rfl)) ?_; (with_reducible refine (munimentlaw03_awake.calls k  true _ ?side1 A8.out).mono ?_); (case side1 => first | exact HT.out | (refine tabs_below HT.out ?_; repeat (first | exact HB.out | (with_reducible first | apply below_alloc | apply pw_below_drewN | apply below_drew1 | exact Below.refl _ _) | (refine below_set ?_ (Aside0.out (by assumption)))))); rintro e w62 ⟨rfl, hb⟩; refine ⟨_, rfl, ?_⟩; have n0_ := Aside0.mk (Kd.V_below (by (with_reducible repeat (first | apply Kd.V_alloc | apply Kd.V_drewN | apply Kd.V_drew)); exact HO0_3.out) hb); have n1_ := Aside0.mk (Kd.V_below (by (with_reducible repeat (first | apply Kd.V_alloc | apply Kd.V_drewN | apply Kd.V_drew)); exact HO0_4.out) hb); have n2_ := Aside0.mk (Kd.V_below (by (with_reducible repeat (first | apply Kd.V_alloc | apply Kd.V_drewN | apply Kd.V_drew)); exact HO1_3.out) hb); have n3_ := Aside0.mk (Kd.V_below (by (with_reducible repeat (first | apply Kd.V_alloc | apply Kd.V_drewN | apply Kd.V_drew)); exact HO1_4.out) hb); have n4_ := Aside0.mk (Kd.V_below (by (with_reducible repeat (first | apply Kd.V_alloc | apply Kd.V_drewN | apply Kd.V_drew)); exact HO2_3.out) hb); have n5_ := Aside0.mk (Kd.V_below (by (with_reducible repeat (first | apply Kd.V_alloc | apply Kd.V_drewN | apply Kd.V_drew)); exact HO2_4.out) hb); have n6_ := Aside0.mk (blk_below (g := gb265) (o := .cells #[.int .i64 a0_0, .int .i64 a0_1, .string a0_2, .slice A0_3 l0_3.length c0_3, .slice A0_4 l0_4.length c0_4] 30 (0, 0)) (by (with_reducible repeat (first | refine blk_drewN ?_ _ | refine blk_drew ?_ | refine blk_alloc ?_ _)); exact BK265.out) hb); have n7_ := Aside0.mk (blk_below (g := gb266) (o := .cells #[.int .i64 a1_0, .int .i64 a1_1, .string a1_2, .slice A1_3 l1_3.length c1_3, .slice A1_4 l1_4.length c1_4] 30 (0, 0)) (by (with_reducible repeat (first | refine blk_drewN ?_ _ | refine blk_drew ?_ | refine blk_alloc ?_ _)); exact BK266.out) hb); have n8_ := Aside0.mk (blk_below (g := gb267) (o := .cells #[.int .i64 a2_0, .int .i64 a2_1, .string a2_2, .slice A2_3 l2_3.length c2_3, .slice A2_4 l2_4.length c2_4] 30 (0, 0)) (by (with_reducible repeat (first | refine blk_drewN ?_ _ | refine blk_drew ?_ | refine blk_alloc ?_ _)); exact BK267.out) hb); have n9_ := Aside0.mk (below_step (by repeat (first | (with_reducible first | exact HB.out | apply below_alloc | apply pw_below_drewN | apply below_drew1 | refine below_set ?_ GE265.out | refine below_set ?_ GE266.out | refine below_set ?_ GE267.out) | exact HB.out)) hb); clear HO0_3; clear HO0_4; clear HO1_3; clear HO1_4; clear HO2_3; clear HO2_4; clear BK265; clear BK266; clear BK267; clear HB; have HO0_3 := n0_; have HO0_4 := n1_; have HO1_3 := n2_; have HO1_4 := n3_; have HO2_3 := n4_; have HO2_4 := n5_; have BK265 := n6_; have BK266 := n7_; have BK267 := n8_; have HB := n9_; clear n0_ n1_ n2_ n3_ n4_ n5_ n6_ n7_ n8_ n9_; (try clear hb); (try clear hb2); (try clear hk); (try clear hi); have hnb63 := NB265_266.out; have hnc63 := NB266_265.out; have hnb64 := NB265_267.out; have hnc64 := NB267_265.out; have hcz65_0 : w62.cell? ⟨gb265, 0, none⟩ = some (.int .i64 a0_0) := (blk_cell BK265.out 0).trans rfl; have hcz65_1 : w62.cell? ⟨gb265, 1, none⟩ = some (.int .i64 a0_1) := (blk_cell BK265.out 1).trans rfl; have hcz65_2 : w62.cell? ⟨gb265, 2, none⟩ = some (.string a0_2) := (blk_cell BK265.out 2).trans rfl; have hcz65_3 : w62.cell? ⟨gb265, 3, none⟩ = some (.slice A0_3 l0_3.length c0_3) := (blk_cell BK265.out 3).trans rfl; have hcz65_4 : w62.cell? ⟨gb265, 4, none⟩ = some (.slice A0_4 l0_4.length c0_4) := (blk_cell BK265.out 4).trans rfl; have hfz65_0 := blk_frozen BK265.out 0; have hfz65_1 := blk_frozen BK265.out 1; have hfz65_2 := blk_frozen BK265.out 2; have hfz65_3 := blk_frozen BK265.out 3; have hfz65_4 := blk_frozen BK265.out 4; have hnb66 := NB266_267.out; have hnc66 := NB267_266.out; have hcz67_0 : w62.cell? ⟨gb266, 0, none⟩ = some (.int .i64 a1_0) := (blk_cell BK266.out 0).trans rfl; have hcz67_1 : w62.cell? ⟨gb266, 1, none⟩ = some (.int .i64 a1_1) := (blk_cell BK266.out 1).trans rfl; have hcz67_2 : w62.cell? ⟨gb266, 2, none⟩ = some (.string a1_2) := (blk_cell BK266.out 2).trans rfl; have hcz67_3 : w62.cell? ⟨gb266, 3, none⟩ = some (.slice A1_3 l1_3.length c1_3) := (blk_cell BK266.out 3).trans rfl; have hcz67_4 : w62.cell? ⟨gb266, 4, none⟩ = some (.slice A1_4 l1_4.length c1_4) := (blk_cell BK266.out 4).trans rfl; have hfz67_0 := blk_frozen BK266.out 0; have hfz67_1 := blk_frozen BK266.out 1; have hfz67_2 := blk_frozen BK266.out 2; have hfz67_3 := blk_frozen BK266.out 3; have hfz67_4 := blk_frozen BK266.out 4; have hcz68_0 : w62.cell? ⟨gb267, 0, none⟩ = some (.int .i64 a2_0) := (blk_cell BK267.out 0).trans rfl; have hcz68_1 : w62.cell? ⟨gb267, 1, none⟩ = some (.int .i64 a2_1) := (blk_cell BK267.out 1).trans rfl; have hcz68_2 : w62.cell? ⟨gb267, 2, none⟩ = some (.string a2_2) := (blk_cell BK267.out 2).trans rfl; have hcz68_3 : w62.cell? ⟨gb267, 3, none⟩ = some (.slice A2_3 l2_3.length c2_3) := (blk_cell BK267.out 3).trans rfl; have hcz68_4 : w62.cell? ⟨gb267, 4, none⟩ = some (.slice A2_4 l2_4.length c2_4) := (blk_cell BK267.out 4).trans rfl; have hfz68_0 := blk_frozen BK267.out 0; have hfz68_1 := blk_frozen BK267.out 1; have hfz68_2 := blk_frozen BK267.out 2; have hfz68_3 := blk_frozen BK267.out 3; have hfz68_4 := blk_frozen BK267.out 4) | ((with_reducible refine gate_dst (N := 16) rfl ?_); (try (refine gate_guard (by rfl) ?_; dsimp only)); refine Kd.N_lit k30 _ 30 ?hg (N' := 16) ?hd (xs := ([(⟨a0_0, a0_1, a0_2, l0_3, l0_4⟩ : S30), (⟨a1_0, a1_1, a1_2, l1_3, l1_4⟩ : S30), (⟨a2_0, a2_1, a2_2, l2_3, l2_4⟩ : S30)] : List (S30))) (inner := [.int .i64 a0_0, .int .i64 a0_1, .string a0_2, .slice A0_3 l0_3.length c0_3, .slice A0_4 l0_4.length c0_4, .int .i64 a1_0, .int .i64 a1_1, .string a1_2, .slice A1_3 l1_3.length c1_3, .slice A1_4 l1_4.length c1_4, .int .i64 a2_0, .int .i64 a2_1, .string a2_2, .slice A2_3 l2_3.length c2_3, .slice A2_4 l2_4.length c2_4]) (ok := (fun k_ => ((P0_3_ k_ ∨ P0_4_ k_ ∨ P1_3_ k_ ∨ P1_4_ k_ ∨ P2_3_ k_ ∨ P2_4_ k_) ∨ w.heap.size ≤ k_) ∧ k_ ≠ gb265 ∧ k_ ≠ gb266 ∧ k_ ≠ gb267)) (okp := (fun k_ => ((P0_3_ k_ ∨ P0_4_ k_ ∨ P1_3_ k_ ∨ P1_4_ k_ ∨ P2_3_ k_ ∨ P2_4_ k_) ∨ w.heap.size ≤ k_) ∧ k_ ≠ gb265 ∧ k_ ≠ gb266 ∧ k_ ≠ gb267)) ?hr ?hp (fun _ hk => hk) ((show ∀ k_, w62.heap.size ≤ k_ → (fun k_ => ((P0_3_ k_ ∨ P0_4_ k_ ∨ P1_3_ k_ ∨ P1_4_ k_ ∨ P2_3_ k_ ∨ P2_4_ k_) ∨ w.heap.size ≤ k_) ∧ k_ ≠ gb265 ∧ k_ ≠ gb266 ∧ k_ ≠ gb267) k_ from fun k_ hk => ⟨(.inr (Nat.le_trans (below_size (by repeat (first | (with_reducible first | exact HB.out | apply below_alloc | apply pw_below_drewN | apply below_drew1 | refine below_set ?_ GE265.out | refine below_set ?_ GE266.out | refine below_set ?_ GE267.out) | exact HB.out))) hk)), Kd.freshB (g := gb265) (o := .cells #[.int .i64 a0_0, .int .i64 a0_1, .string a0_2, .slice A0_3 l0_3.length c0_3, .slice A0_4 l0_4.length c0_4] 30 (0, 0)) (by (with_reducible repeat (first | refine blk_drewN ?_ _ | refine blk_drew ?_ | refine blk_alloc ?_ _)); exact BK265.out) k_ hk, Kd.freshB (g := gb266) (o := .cells #[.int .i64 a1_0, .int .i64 a1_1, .string a1_2, .slice A1_3 l1_3.length c1_3, .slice A1_4 l1_4.length c1_4] 30 (0, 0)) (by (with_reducible repeat (first | refine blk_drewN ?_ _ | refine blk_drew ?_ | refine blk_alloc ?_ _)); exact BK266.out) k_ hk, Kd.freshB (g := gb267) (o := .cells #[.int .i64 a2_0, .int .i64 a2_1, .string a2_2, .slice A2_3 l2_3.length c2_3, .slice A2_4 l2_4.length c2_4] 30 (0, 0)) (by (with_reducible repeat (first | refine blk_drewN ?_ _ | refine blk_drew ?_ | refine blk_alloc ?_ _)); exact BK267.out) k_ hk⟩) _ (Nat.le_refl _)) (Below.refl _ _) (Nat.le_refl _) (by simp) ?_; (case hd => rfl); (case hg => rfl); (case hr => first | (go_simp; done) | (go_simp; rfl)); (case hp => exact (Reps.c5 (show Kd.FK k30 _ _ (⟨a0_0, a0_1, a0_2, l0_3, l0_4⟩ : S30) [.int .i64 a0_0, .int .i64 a0_1, .string a0_2, .slice A0_3 l0_3.length c0_3, .slice A0_4 l0_4.length c0_4] from (k30_mkF _ _ (⟨a0_0, a0_1, a0_2, l0_3, l0_4⟩ : S30) (Kd.V_reads' (Kd.V_mono (ok' := (fun k_ => ((P0_3_ k_ ∨ P0_4_ k_ ∨ P1_3_ k_ ∨ P1_4_ k_ ∨ P2_3_ k_ ∨ P2_4_ k_) ∨ w.heap.size ≤ k_) ∧ k_ ≠ gb265 ∧ k_ ≠ gb266 ∧ k_ ≠ gb267)) (HO0_3.out) (fun k_ hk => ⟨hk.1.1.1, ⟨hk.1.1.2, ⟨hk.1.2, hk.2⟩⟩⟩))).2.1 (Kd.V_F (Kd.V_mono (ok' := (fun k_ => ((P0_3_ k_ ∨ P0_4_ k_ ∨ P1_3_ k_ ∨ P1_4_ k_ ∨ P2_3_ k_ ∨ P2_4_ k_) ∨ w.heap.size ≤ k_) ∧ k_ ≠ gb265 ∧ k_ ≠ gb266 ∧ k_ ≠ gb267)) (HO0_3.out) (fun k_ hk => ⟨hk.1.1.1, ⟨hk.1.1.2, ⟨hk.1.2, hk.2⟩⟩⟩))) (Kd.V_reads' (Kd.V_mono (ok' := (fun k_ => ((P0_3_ k_ ∨ P0_4_ k_ ∨ P1_3_ k_ ∨ P1_4_ k_ ∨ P2_3_ k_ ∨ P2_4_ k_) ∨ w.heap.size ≤ k_) ∧ k_ ≠ gb265 ∧ k_ ≠ gb266 ∧ k_ ≠ gb267)) (HO0_4.out) (fun k_ hk => ⟨hk.1.1.1, ⟨hk.1.1.2, ⟨hk.1.2, hk.2⟩⟩⟩))).2.1 (Kd.V_F (Kd.V_mono (ok' := (fun k_ => ((P0_3_ k_ ∨ P0_4_ k_ ∨ P1_3_ k_ ∨ P1_4_ k_ ∨ P2_3_ k_ ∨ P2_4_ k_) ∨ w.heap.size ≤ k_) ∧ k_ ≠ gb265 ∧ k_ ≠ gb266 ∧ k_ ≠ gb267)) (HO0_4.out) (fun k_ hk => ⟨hk.1.1.1, ⟨hk.1.1.2, ⟨hk.1.2, hk.2⟩⟩⟩))))) (Reps.c5 (show Kd.FK k30 _ _ (⟨a1_0, a1_1, a1_2, l1_3, l1_4⟩ : S30) [.int .i64 a1_0, .int .i64 a1_1, .string a1_2, .slice A1_3 l1_3.length c1_3, .slice A1_4 l1_4.length c1_4] from (k30_mkF _ _ (⟨a1_0, a1_1, a1_2, l1_3, l1_4⟩ : S30) (Kd.V_reads' (Kd.V_mono (ok' := (fun k_ => ((P0_3_ k_ ∨ P0_4_ k_ ∨ P1_3_ k_ ∨ P1_4_ k_ ∨ P2_3_ k_ ∨ P2_4_ k_) ∨ w.heap.size ≤ k_) ∧ k_ ≠ gb265 ∧ k_ ≠ gb266 ∧ k_ ≠ gb267)) (HO1_3.out) (fun k_ hk => ⟨hk.1.1.1, ⟨hk.1.1.2, ⟨hk.1.2, hk.2⟩⟩⟩))).2.1 (Kd.V_F (Kd.V_mono (ok' := (fun k_ => ((P0_3_ k_ ∨ P0_4_ k_ ∨ P1_3_ k_ ∨ P1_4_ k_ ∨ P2_3_ k_ ∨ P2_4_ k_) ∨ w.heap.size ≤ k_) ∧ k_ ≠ gb265 ∧ k_ ≠ gb266 ∧ k_ ≠ gb267)) (HO1_3.out) (fun k_ hk => ⟨hk.1.1.1, ⟨hk.1.1.2, ⟨hk.1.2, hk.2⟩⟩⟩))) (Kd.V_reads' (Kd.V_mono (ok' := (fun k_ => ((P0_3_ k_ ∨ P0_4_ k_ ∨ P1_3_ k_ ∨ P1_4_ k_ ∨ P2_3_ k_ ∨ P2_4_ k_) ∨ w.heap.size ≤ k_) ∧ k_ ≠ gb265 ∧ k_ ≠ gb266 ∧ k_ ≠ gb267)) (HO1_4.out) (fun k_ hk => ⟨hk.1.1.1, ⟨hk.1.1.2, ⟨hk.1.2, hk.2⟩⟩⟩))).2.1 (Kd.V_F (Kd.V_mono (ok' := (fun k_ => ((P0_3_ k_ ∨ P0_4_ k_ ∨ P1_3_ k_ ∨ P1_4_ k_ ∨ P2_3_ k_ ∨ P2_4_ k_) ∨ w.heap.size ≤ k_) ∧ k_ ≠ gb265 ∧ k_ ≠ gb266 ∧ k_ ≠ gb267)) (HO1_4.out) (fun k_ hk => ⟨hk.1.1.1, ⟨hk.1.1.2, ⟨hk.1.2, hk.2⟩⟩⟩))))) (Reps.c5 (show Kd.FK k30 _ _ (⟨a2_0, a2_1, a2_2, l2_3, l2_4⟩ : S30) [.int .i64 a2_0, .int .i64 a2_1, .string a2_2, .slice A2_3 l2_3.length c2_3, .slice A2_4 l2_4.length c2_4] from (k30_mkF _ _ (⟨a2_0, a2_1, a2_2, l2_3, l2_4⟩ : S30) (Kd.V_reads' (Kd.V_mono (ok' := (fun k_ => ((P0_3_ k_ ∨ P0_4_ k_ ∨ P1_3_ k_ ∨ P1_4_ k_ ∨ P2_3_ k_ ∨ P2_4_ k_) ∨ w.heap.size ≤ k_) ∧ k_ ≠ gb265 ∧ k_ ≠ gb266 ∧ k_ ≠ gb267)) (HO2_3.out) (fun k_ hk => ⟨hk.1.1.1, ⟨hk.1.1.2, ⟨hk.1.2, hk.2⟩⟩⟩))).2.1 (Kd.V_F (Kd.V_mono (ok' := (fun k_ => ((P0_3_ k_ ∨ P0_4_ k_ ∨ P1_3_ k_ ∨ P1_4_ k_ ∨ P2_3_ k_ ∨ P2_4_ k_) ∨ w.heap.size ≤ k_) ∧ k_ ≠ gb265 ∧ k_ ≠ gb266 ∧ k_ ≠ gb267)) (HO2_3.out) (fun k_ hk => ⟨hk.1.1.1, ⟨hk.1.1.2, ⟨hk.1.2, hk.2⟩⟩⟩))) (Kd.V_reads' (Kd.V_mono (ok' := (fun k_ => ((P0_3_ k_ ∨ P0_4_ k_ ∨ P1_3_ k_ ∨ P1_4_ k_ ∨ P2_3_ k_ ∨ P2_4_ k_) ∨ w.heap.size ≤ k_) ∧ k_ ≠ gb265 ∧ k_ ≠ gb266 ∧ k_ ≠ gb267)) (HO2_4.out) (fun k_ hk => ⟨hk.1.1.1, ⟨hk.1.1.2, ⟨hk.1.2, hk.2⟩⟩⟩))).2.1 (Kd.V_F (Kd.V_mono (ok' := (fun k_ => ((P0_3_ k_ ∨ P0_4_ k_ ∨ P1_3_ k_ ∨ P1_4_ k_ ∨ P2_3_ k_ ∨ P2_4_ k_) ∨ w.heap.size ≤ k_) ∧ k_ ≠ gb265 ∧ k_ ≠ gb266 ∧ k_ ≠ gb267)) (HO2_4.out) (fun k_ hk => ⟨hk.1.1.1, ⟨hk.1.1.2, ⟨hk.1.2, hk.2⟩⟩⟩))))) (Reps.none _ _))))); intro v270 w69 ho70 hb hg_ hnew_; clear hg_ hnew_; (first | rw [← Ny269.out] at ho70 | (simp only [Int.reduceToNat] at ho70; rw [← Ny269.out] at ho70)); have n0_ := Aside0.mk (Kd.V_elder' (by (with_reducible repeat (first | apply Kd.V_alloc | apply Kd.V_drewN | apply Kd.V_drew)); exact HO0_3.out) (Kd.N_base ho70) hb); have n1_ := Aside0.mk (Kd.V_elder' (by (with_reducible repeat (first | apply Kd.V_alloc | apply Kd.V_drewN | apply Kd.V_drew)); exact HO0_4.out) (Kd.N_base ho70) hb); have n2_ := Aside0.mk (Kd.V_elder' (by (with_reducible repeat (first | apply Kd.V_alloc | apply Kd.V_drewN | apply Kd.V_drew)); exact HO1_3.out) (Kd.N_base ho70) hb); have n3_ := Aside0.mk (Kd.V_elder' (by (with_reducible repeat (first | apply Kd.V_alloc | apply Kd.V_drewN | apply Kd.V_drew)); exact HO1_4.out) (Kd.N_base ho70) hb); have n4_ := Aside0.mk (Kd.V_elder' (by (with_reducible repeat (first | apply Kd.V_alloc | apply Kd.V_drewN | apply Kd.V_drew)); exact HO2_3.out) (Kd.N_base ho70) hb); have n5_ := Aside0.mk (Kd.V_elder' (by (with_reducible repeat (first | apply Kd.V_alloc | apply Kd.V_drewN | apply Kd.V_drew)); exact HO2_4.out) (Kd.N_base ho70) hb); have n6_ := Aside0.mk (Kd.N_lower ho70 (below_size (by repeat (first | (with_reducible first | exact HB.out | apply below_alloc | apply pw_below_drewN | apply below_drew1 | refine below_set ?_ GE265.out | refine below_set ?_ GE266.out | refine below_set ?_ GE267.out) | exact HB.out)))); have n7_ := Aside0.mk (blk_below (g := gb265) (o := .cells #[.int .i64 a0_0, .int .i64 a0_1, .string a0_2, .slice A0_3 l0_3.length c0_3, .slice A0_4 l0_4.length c0_4] 30 (0, 0)) (by (with_reducible repeat (first | refine blk_drewN ?_ _ | refine blk_drew ?_ | refine blk_alloc ?_ _)); exact BK265.out) hb); have n8_ := Aside0.mk (blk_below (g := gb266) (o := .cells #[.int .i64 a1_0, .int .i64 a1_1, .string a1_2, .slice A1_3 l1_3.length c1_3, .slice A1_4 l1_4.length c1_4] 30 (0, 0)) (by (with_reducible repeat (first | refine blk_drewN ?_ _ | refine blk_drew ?_ | refine blk_alloc ?_ _)); exact BK266.out) hb); have n9_ := Aside0.mk (blk_below (g := gb267) (o := .cells #[.int .i64 a2_0, .int .i64 a2_1, .string a2_2, .slice A2_3 l2_3.length c2_3, .slice A2_4 l2_4.length c2_4] 30 (0, 0)) (by (with_reducible repeat (first | refine blk_drewN ?_ _ | refine blk_drew ?_ | refine blk_alloc ?_ _)); exact BK267.out) hb); have n10_ := Aside0.mk (below_step (by repeat (first | (with_reducible first | exact HB.out | apply below_alloc | apply pw_below_drewN | apply below_drew1 | refine below_set ?_ GE265.out | refine below_set ?_ GE266.out | refine below_set ?_ GE267.out) | exact HB.out)) hb); clear HO0_3; clear HO0_4; clear HO1_3; clear HO1_4; clear HO2_3; clear HO2_4; clear BK265; clear BK266; clear BK267; clear HB; have HO0_3 := n0_; have HO0_4 := n1_; have HO1_3 := n2_; have HO1_4 := n3_; have HO2_3 := n4_; have HO2_4 := n5_; have HO271 := n6_; have BK265 := n7_; have BK266 := n8_; have BK267 := n9_; have HB := n10_; clear n0_ n1_ n2_ n3_ n4_ n5_ n6_ n7_ n8_ n9_ n10_; clear hb ho70; obtain ⟨Ao71, co71, eo71⟩ := Kd.N_slice HO271.out; subst eo71) | (go_at_call 10; (with_reducible refine (munimentlaw03_few.calls k _ _ y269 false _ ?side1 ?side2 A10.out).mono ?_); (case side1 => repeat (first | exact (Kd.N_reads' HO271.out).2.2 | (with_reducible refine Kd.C_alloc ?_ _) | (with_reducible refine Kd.C_drewN ?_ _) | (with_reducible refine Kd.C_drew ?_))); (case side2 => exact (Kd.N_reads' HO271.out).2.1); rintro e w72 ⟨rfl, hb⟩; have n0_ := Aside0.mk (Kd.V_below (by (with_reducible repeat (first | apply Kd.V_alloc | apply Kd.V_drewN | apply Kd.V_drew)); exact HO0_3.out) hb); have n1_ := Aside0.mk (Kd.V_below (by (with_reducible repeat (first | apply Kd.V_alloc | apply Kd.V_drewN | apply Kd.V_drew)); exact HO0_4.out) hb); have n2_ := Aside0.mk (Kd.V_below (by (with_reducible repeat (first | apply Kd.V_alloc | apply Kd.V_drewN | apply Kd.V_drew)); exact HO1_3.out) hb); have n3_ := Aside0.mk (Kd.V_below (by (with_reducible repeat (first | apply Kd.V_alloc | apply Kd.V_drewN | apply Kd.V_drew)); exact HO1_4.out) hb); have n4_ := Aside0.mk (Kd.V_below (by (with_reducible repeat (first | apply Kd.V_alloc | apply Kd.V_drewN | apply Kd.V_drew)); exact HO2_3.out) hb); have n5_ := Aside0.mk (Kd.V_below (by (with_reducible repeat (first | apply Kd.V_alloc | apply Kd.V_drewN | apply Kd.V_drew)); exact HO2_4.out) hb); have n6_ := Aside0.mk (Kd.N_below (by (with_reducible repeat (first | apply Kd.N_alloc | apply Kd.N_drewN | apply Kd.N_drew)); exact HO271.out) hb); have n7_ := Aside0.mk (blk_below (g := gb265) (o := .cells #[.int .i64 a0_0, .int .i64 a0_1, .string a0_2, .slice A0_3 l0_3.length c0_3, .slice A0_4 l0_4.length c0_4] 30 (0, 0)) (by (with_reducible repeat (first | refine blk_drewN ?_ _ | refine blk_drew ?_ | refine blk_alloc ?_ _)); exact BK265.out) hb); have n8_ := Aside0.mk (blk_below (g := gb266) (o := .cells #[.int .i64 a1_0, .int .i64 a1_1, .string a1_2, .slice A1_3 l1_3.length c1_3, .slice A1_4 l1_4.length c1_4] 30 (0, 0)) (by (with_reducible repeat (first | refine blk_drewN ?_ _ | refine blk_drew ?_ | refine blk_alloc ?_ _)); exact BK266.out) hb); have n9_ := Aside0.mk (blk_below (g := gb267) (o := .cells #[.int .i64 a2_0, .int .i64 a2_1, .string a2_2, .slice A2_3 l2_3.length c2_3, .slice A2_4 l2_4.length c2_4] 30 (0, 0)) (by (with_reducible repeat (first | refine blk_drewN ?_ _ | refine blk_drew ?_ | refine blk_alloc ?_ _)); exact BK267.out) hb); have n10_ := Aside0.mk (below_step (by repeat (first | (with_reducible first | exact HB.out | apply below_alloc | apply pw_below_drewN | apply below_drew1 | refine below_set ?_ GE265.out | refine below_set ?_ GE266.out | refine below_set ?_ GE267.out) | exact HB.out)) hb); clear HO0_3; clear HO0_4; clear HO1_3; clear HO1_4; clear HO2_3; clear HO2_4; clear HO271; clear BK265; clear BK266; clear BK267; clear HB; have HO0_3 := n0_; have HO0_4 := n1_; have HO1_3 := n2_; have HO1_4 := n3_; have HO2_3 := n4_; have HO2_4 := n5_; have HO271 := n6_; have BK265 := n7_; have BK266 := n8_; have BK267 := n9_; have HB := n10_; clear n0_ n1_ n2_ n3_ n4_ n5_ n6_ n7_ n8_ n9_ n10_; (try clear hb); (try clear hb2); (try clear hk); (try clear hi)))
        go_meet
        case rel => exact ⟨_, (true), (by first | rfl | (simp; done) | (simp [*]; done)), H', ⟨by first | omega | exact Nat.le_refl _⟩, ⟨by (with_reducible repeat (first | apply Kd.V_alloc | apply Kd.V_drewN | apply Kd.V_drew)); exact Kd.V_mono HO0_3.out (fun _ hk => ⟨hk.1.1.1.1, ⟨hk.1.1.1.2, ⟨hk.1.1.2, hk.1.2⟩⟩⟩)⟩, ⟨by (with_reducible repeat (first | apply Kd.V_alloc | apply Kd.V_drewN | apply Kd.V_drew)); exact Kd.V_mono HO0_4.out (fun _ hk => ⟨hk.1.1.1.1, ⟨hk.1.1.1.2, ⟨hk.1.1.2, hk.1.2⟩⟩⟩)⟩, ⟨by (with_reducible repeat (first | apply Kd.V_alloc | apply Kd.V_drewN | apply Kd.V_drew)); exact Kd.V_mono HO1_3.out (fun _ hk => ⟨hk.1.1.1.1, ⟨hk.1.1.1.2, ⟨hk.1.1.2, hk.1.2⟩⟩⟩)⟩, ⟨by (with_reducible repeat (first | apply Kd.V_alloc | apply Kd.V_drewN | apply Kd.V_drew)); exact Kd.V_mono HO1_4.out (fun _ hk => ⟨hk.1.1.1.1, ⟨hk.1.1.1.2, ⟨hk.1.1.2, hk.1.2⟩⟩⟩)⟩, ⟨by (with_reducible repeat (first | apply Kd.V_alloc | apply Kd.V_drewN | apply Kd.V_drew)); exact Kd.V_mono HO2_3.out (fun _ hk => ⟨hk.1.1.1.1, ⟨hk.1.1.1.2, ⟨hk.1.1.2, hk.1.2⟩⟩⟩)⟩, ⟨by (with_reducible repeat (first | apply Kd.V_alloc | apply Kd.V_drewN | apply Kd.V_drew)); exact Kd.V_mono HO2_4.out (fun _ hk => ⟨hk.1.1.1.1, ⟨hk.1.1.1.2, ⟨hk.1.1.2, hk.1.2⟩⟩⟩)⟩, ⟨by (with_reducible repeat (first | refine blk_drewN ?_ _ | refine blk_drew ?_ | refine blk_alloc ?_ _)); exact BK265.out⟩, ⟨by (with_reducible repeat (first | refine blk_drewN ?_ _ | refine blk_drew ?_ | refine blk_alloc ?_ _)); exact BK266.out⟩, ⟨by (with_reducible repeat (first | refine blk_drewN ?_ _ | refine blk_drew ?_ | refine blk_alloc ?_ _)); exact BK267.out⟩, ⟨by repeat (first | (with_reducible first | exact HB.out | apply below_alloc | apply pw_below_drewN | apply below_drew1 | refine below_set ?_ GE265.out | refine below_set ?_ GE266.out | refine below_set ?_ GE267.out) | exact HB.out)⟩⟩
    · replace c9 := Bool.eq_false_iff.mpr c9
      subst c9
      have H1 : (munimentlaw03_OrderTotal.j0 k true a0_0 a0_1 a0_2 l0_3 l0_4 a1_0 a1_1 a1_2 l1_3 l1_4 a2_0 a2_1 a2_2 l2_3 l2_4) = some r := by rw [if_neg (show ¬ (false = true) by decide)] at H; exact H
      clear H
      have H := H1
      clear H1
      have H' := Aside0.mk H
      clear H
      go_wp2_with (first | ((with_reducible refine gate_callee (f := 9) rfl ?_); refine goesL_ (some 10) rfl rfl Tryd.func9 (by kernel_rfl) rfl #[] rfl (by (try simp only [List.map_toArray, List.map_cons, List.map_nil]); first | done | rfl | (simp only [List.length_drop, List.length_take]; rfl)) ?_; (with_reducible refine (munimentlaw03_awake.calls k  false _ ?side1 A8.out).mono ?_); (case side1 => first | exact HT.out | (refine tabs_below HT.out ?_; repeat (first | exact HB.out | (with_reducible first | apply below_alloc | apply pw_below_drewN | apply below_drew1 | exact Below.refl _ _) | (refine below_set ?_ (Aside0.out (by assumption)))))); rintro e w73 ⟨rfl, hb⟩; refine ⟨_, rfl, ?_⟩; have n0_ := Aside0.mk (Kd.V_below (by (with_reducible repeat (first | apply Kd.V_alloc | apply Kd.V_drewN | apply Kd.V_drew)); exact HO0_3.out) hb); have n1_ := Aside0.mk (Kd.V_below (by (with_reducible repeat (first | apply Kd.V_alloc | apply Kd.V_drewN | apply Kd.V_drew)); exact HO0_4.out) hb); have n2_ := Aside0.mk (Kd.V_below (by (with_reducible repeat (first | apply Kd.V_alloc | apply Kd.V_drewN | apply Kd.V_drew)); exact HO1_3.out) hb); have n3_ := Aside0.mk (Kd.V_below (by (with_reducible repeat (first | apply Kd.V_alloc | apply Kd.V_drewN | apply Kd.V_drew)); exact HO1_4.out) hb); have n4_ := Aside0.mk (Kd.V_below (by (with_reducible repeat (first | apply Kd.V_alloc | apply Kd.V_drewN | apply Kd.V_drew)); exact HO2_3.out) hb); have n5_ := Aside0.mk (Kd.V_below (by (with_reducible repeat (first | apply Kd.V_alloc | apply Kd.V_drewN | apply Kd.V_drew)); exact HO2_4.out) hb); have n6_ := Aside0.mk (blk_below (g := gb265) (o := .cells #[.int .i64 a0_0, .int .i64 a0_1, .string a0_2, .slice A0_3 l0_3.length c0_3, .slice A0_4 l0_4.length c0_4] 30 (0, 0)) (by (with_reducible repeat (first | refine blk_drewN ?_ _ | refine blk_drew ?_ | refine blk_alloc ?_ _)); exact BK265.out) hb); have n7_ := Aside0.mk (blk_below (g := gb266) (o := .cells #[.int .i64 a1_0, .int .i64 a1_1, .string a1_2, .slice A1_3 l1_3.length c1_3, .slice A1_4 l1_4.length c1_4] 30 (0, 0)) (by (with_reducible repeat (first | refine blk_drewN ?_ _ | refine blk_drew ?_ | refine blk_alloc ?_ _)); exact BK266.out) hb); have n8_ := Aside0.mk (blk_below (g := gb267) (o := .cells #[.int .i64 a2_0, .int .i64 a2_1, .string a2_2, .slice A2_3 l2_3.length c2_3, .slice A2_4 l2_4.length c2_4] 30 (0, 0)) (by (with_reducible repeat (first | refine blk_drewN ?_ _ | refine blk_drew ?_ | refine blk_alloc ?_ _)); exact BK267.out) hb); have n9_ := Aside0.mk (below_step (by repeat (first | (with_reducible first | exact HB.out | apply below_alloc | apply pw_below_drewN | apply below_drew1 | refine below_set ?_ GE265.out | refine below_set ?_ GE266.out | refine below_set ?_ GE267.out) | exact HB.out)) hb); clear HO0_3; clear HO0_4; clear HO1_3; clear HO1_4; clear HO2_3; clear HO2_4; clear BK265; clear BK266; clear BK267; clear HB; have HO0_3 := n0_; have HO0_4 := n1_; have HO1_3 := n2_; have HO1_4 := n3_; have HO2_3 := n4_; have HO2_4 := n5_; have BK265 := n6_; have BK266 := n7_; have BK267 := n8_; have HB := n9_; clear n0_ n1_ n2_ n3_ n4_ n5_ n6_ n7_ n8_ n9_; (try clear hb); (try clear hb2); (try clear hk); (try clear hi)))
      go_meet
      case rel => exact ⟨_, (true), (by first | rfl | (simp; done) | (simp [*]; done)), H', ⟨by first | omega | exact Nat.le_refl _⟩, ⟨by (with_reducible repeat (first | apply Kd.V_alloc | apply Kd.V_drewN | apply Kd.V_drew)); exact Kd.V_mono HO0_3.out (fun _ hk => ⟨hk.1.1.1, ⟨hk.1.1.2, ⟨hk.1.2, hk.2⟩⟩⟩)⟩, ⟨by (with_reducible repeat (first | apply Kd.V_alloc | apply Kd.V_drewN | apply Kd.V_drew)); exact Kd.V_mono HO0_4.out (fun _ hk => ⟨hk.1.1.1, ⟨hk.1.1.2, ⟨hk.1.2, hk.2⟩⟩⟩)⟩, ⟨by (with_reducible repeat (first | apply Kd.V_alloc | apply Kd.V_drewN | apply Kd.V_drew)); exact Kd.V_mono HO1_3.out (fun _ hk => ⟨hk.1.1.1, ⟨hk.1.1.2, ⟨hk.1.2, hk.2⟩⟩⟩)⟩, ⟨by (with_reducible repeat (first | apply Kd.V_alloc | apply Kd.V_drewN | apply Kd.V_drew)); exact Kd.V_mono HO1_4.out (fun _ hk => ⟨hk.1.1.1, ⟨hk.1.1.2, ⟨hk.1.2, hk.2⟩⟩⟩)⟩, ⟨by (with_reducible repeat (first | apply Kd.V_alloc | apply Kd.V_drewN | apply Kd.V_drew)); exact Kd.V_mono HO2_3.out (fun _ hk => ⟨hk.1.1.1, ⟨hk.1.1.2, ⟨hk.1.2, hk.2⟩⟩⟩)⟩, ⟨by (with_reducible repeat (first | apply Kd.V_alloc | apply Kd.V_drewN | apply Kd.V_drew)); exact Kd.V_mono HO2_4.out (fun _ hk => ⟨hk.1.1.1, ⟨hk.1.1.2, ⟨hk.1.2, hk.2⟩⟩⟩)⟩, ⟨by (with_reducible repeat (first | refine blk_drewN ?_ _ | refine blk_drew ?_ | refine blk_alloc ?_ _)); exact BK265.out⟩, ⟨by (with_reducible repeat (first | refine blk_drewN ?_ _ | refine blk_drew ?_ | refine blk_alloc ?_ _)); exact BK266.out⟩, ⟨by (with_reducible repeat (first | refine blk_drewN ?_ _ | refine blk_drew ?_ | refine blk_alloc ?_ _)); exact BK267.out⟩, ⟨by repeat (first | (with_reducible first | exact HB.out | apply below_alloc | apply pw_below_drewN | apply below_drew1 | refine below_set ?_ GE265.out | refine below_set ?_ GE266.out | refine below_set ?_ GE267.out) | exact HB.out)⟩⟩
  case rest =>
    clear HC4
    try clear c1
    try clear c2
    try clear p2
    try clear c3
    try clear c5
    try clear c6
    try clear c9
    try clear c11
    try clear c13
    try clear c15
    try clear c18
    try clear c19
    try clear c21
    try clear c35
    try clear c36
    try clear c38
    try clear c50
    try clear c51
    try clear c53
    try clear c63
    try clear c64
    try clear c66
    try clear hcz20_0
    try clear hcz20_1
    try clear hcz20_2
    try clear hcz20_3
    try clear hcz20_4
    try clear hcz22_0
    try clear hcz22_1
    try clear hcz22_2
    try clear hcz22_3
    try clear hcz22_4
    try clear hcz23_0
    try clear hcz23_1
    try clear hcz23_2
    try clear hcz23_3
    try clear hcz23_4
    try clear hcz28_0
    try clear hcz28_1
    try clear hcz28_2
    try clear hcz28_3
    try clear hcz28_4
    try clear hcz30_0
    try clear hcz30_1
    try clear hcz30_2
    try clear hcz30_3
    try clear hcz30_4
    try clear hcz32_0
    try clear hcz32_1
    try clear hcz32_2
    try clear hcz32_3
    try clear hcz32_4
    try clear hcz37_0
    try clear hcz37_1
    try clear hcz37_2
    try clear hcz37_3
    try clear hcz37_4
    try clear hcz39_0
    try clear hcz39_1
    try clear hcz39_2
    try clear hcz39_3
    try clear hcz39_4
    try clear hcz40_0
    try clear hcz40_1
    try clear hcz40_2
    try clear hcz40_3
    try clear hcz40_4
    try clear hcz45_0
    try clear hcz45_1
    try clear hcz45_2
    try clear hcz45_3
    try clear hcz45_4
    try clear hcz47_0
    try clear hcz47_1
    try clear hcz47_2
    try clear hcz47_3
    try clear hcz47_4
    try clear hcz52_0
    try clear hcz52_1
    try clear hcz52_2
    try clear hcz52_3
    try clear hcz52_4
    try clear hcz54_0
    try clear hcz54_1
    try clear hcz54_2
    try clear hcz54_3
    try clear hcz54_4
    try clear hcz55_0
    try clear hcz55_1
    try clear hcz55_2
    try clear hcz55_3
    try clear hcz55_4
    try clear hcz60_0
    try clear hcz60_1
    try clear hcz60_2
    try clear hcz60_3
    try clear hcz60_4
    try clear hcz65_0
    try clear hcz65_1
    try clear hcz65_2
    try clear hcz65_3
    try clear hcz65_4
    try clear hcz67_0
    try clear hcz67_1
    try clear hcz67_2
    try clear hcz67_3
    try clear hcz67_4
    try clear hcz68_0
    try clear hcz68_1
    try clear hcz68_2
    try clear hcz68_3
    try clear hcz68_4
    try clear hfz20_0
    try clear hfz20_1
    try clear hfz20_2
    try clear hfz20_3
    try clear hfz20_4
    try clear hfz22_0
    try clear hfz22_1
    try clear hfz22_2
    try clear hfz22_3
    try clear hfz22_4
    try clear hfz23_0
    try clear hfz23_1
    try clear hfz23_2
    try clear hfz23_3
    try clear hfz23_4
    try clear hfz28_0
    try clear hfz28_1
    try clear hfz28_2
    try clear hfz28_3
    try clear hfz28_4
    try clear hfz30_0
    try clear hfz30_1
    try clear hfz30_2
    try clear hfz30_3
    try clear hfz30_4
    try clear hfz32_0
    try clear hfz32_1
    try clear hfz32_2
    try clear hfz32_3
    try clear hfz32_4
    try clear hfz37_0
    try clear hfz37_1
    try clear hfz37_2
    try clear hfz37_3
    try clear hfz37_4
    try clear hfz39_0
    try clear hfz39_1
    try clear hfz39_2
    try clear hfz39_3
    try clear hfz39_4
    try clear hfz40_0
    try clear hfz40_1
    try clear hfz40_2
    try clear hfz40_3
    try clear hfz40_4
    try clear hfz45_0
    try clear hfz45_1
    try clear hfz45_2
    try clear hfz45_3
    try clear hfz45_4
    try clear hfz47_0
    try clear hfz47_1
    try clear hfz47_2
    try clear hfz47_3
    try clear hfz47_4
    try clear hfz52_0
    try clear hfz52_1
    try clear hfz52_2
    try clear hfz52_3
    try clear hfz52_4
    try clear hfz54_0
    try clear hfz54_1
    try clear hfz54_2
    try clear hfz54_3
    try clear hfz54_4
    try clear hfz55_0
    try clear hfz55_1
    try clear hfz55_2
    try clear hfz55_3
    try clear hfz55_4
    try clear hfz60_0
    try clear hfz60_1
    try clear hfz60_2
    try clear hfz60_3
    try clear hfz60_4
    try clear hfz65_0
    try clear hfz65_1
    try clear hfz65_2
    try clear hfz65_3
    try clear hfz65_4
    try clear hfz67_0
    try clear hfz67_1
    try clear hfz67_2
    try clear hfz67_3
    try clear hfz67_4
    try clear hfz68_0
    try clear hfz68_1
    try clear hfz68_2
    try clear hfz68_3
    try clear hfz68_4
    obtain ⟨kq, x34_3, rfl, HA, HJ3, HO_266003, HO_266004, HO_267003, HO_267004, HO_268003, HO_268004, BK265, BK266, BK267, HB⟩ := hcut
    cases kq with
    | zero => exact absurd HA.out (by simp [munimentlaw03_OrderTotal.j0])
    | succ kj3 =>
      have H := HA.out
      clear HA
      simp only [munimentlaw03_OrderTotal.j0] at H
      by_cases c74 : x34_3 = true
      · subst c74
        have H1 : ((munimentlaw03_awake.f kj3).bind fun t276 => (some t276)) = some r := by rw [if_pos rfl] at H; exact H
        clear H
        have H := H1
        clear H1
        replace H := Option.bind_eq_some_iff.mp H
        obtain ⟨t276, A750, H⟩ := H
        replace H : (some t276) = some r := H
        have A75 := Aside0.mk A750
        clear A750
        obtain rfl := Option.some.inj H
        go_wp2_with (first | ((with_reducible refine gate_callee (f := 9) rfl ?_); refine goesL_ (some 35) rfl rfl Tryd.func9 (by kernel_rfl) rfl #[] rfl (by (try simp only [List.map_toArray, List.map_cons, List.map_nil]); first | done | rfl | (simp only [List.length_drop, List.length_take]; rfl)) ?_; (with_reducible refine (munimentlaw03_awake.calls kj3  t276 _ ?side1 A75.out).mono ?_); (case side1 => first | exact HT.out | (refine tabs_below HT.out ?_; repeat (first | exact HB.out | (with_reducible first | apply below_alloc | apply pw_below_drewN | apply below_drew1 | exact Below.refl _ _) | (refine below_set ?_ (Aside0.out (by assumption)))))); rintro e w76 ⟨rfl, hb⟩; refine ⟨_, rfl, ?_⟩; have n0_ := Aside0.mk (Kd.V_below (by (with_reducible repeat (first | apply Kd.V_alloc | apply Kd.V_drewN | apply Kd.V_drew)); exact HO_266003.out) hb); have n1_ := Aside0.mk (Kd.V_below (by (with_reducible repeat (first | apply Kd.V_alloc | apply Kd.V_drewN | apply Kd.V_drew)); exact HO_266004.out) hb); have n2_ := Aside0.mk (Kd.V_below (by (with_reducible repeat (first | apply Kd.V_alloc | apply Kd.V_drewN | apply Kd.V_drew)); exact HO_267003.out) hb); have n3_ := Aside0.mk (Kd.V_below (by (with_reducible repeat (first | apply Kd.V_alloc | apply Kd.V_drewN | apply Kd.V_drew)); exact HO_267004.out) hb); have n4_ := Aside0.mk (Kd.V_below (by (with_reducible repeat (first | apply Kd.V_alloc | apply Kd.V_drewN | apply Kd.V_drew)); exact HO_268003.out) hb); have n5_ := Aside0.mk (Kd.V_below (by (with_reducible repeat (first | apply Kd.V_alloc | apply Kd.V_drewN | apply Kd.V_drew)); exact HO_268004.out) hb); have n6_ := Aside0.mk (blk_below (g := gb265) (o := .cells #[.int .i64 a0_0, .int .i64 a0_1, .string a0_2, .slice A0_3 l0_3.length c0_3, .slice A0_4 l0_4.length c0_4] 30 (0, 0)) (by (with_reducible repeat (first | refine blk_drewN ?_ _ | refine blk_drew ?_ | refine blk_alloc ?_ _)); exact BK265.out) hb); have n7_ := Aside0.mk (blk_below (g := gb266) (o := .cells #[.int .i64 a1_0, .int .i64 a1_1, .string a1_2, .slice A1_3 l1_3.length c1_3, .slice A1_4 l1_4.length c1_4] 30 (0, 0)) (by (with_reducible repeat (first | refine blk_drewN ?_ _ | refine blk_drew ?_ | refine blk_alloc ?_ _)); exact BK266.out) hb); have n8_ := Aside0.mk (blk_below (g := gb267) (o := .cells #[.int .i64 a2_0, .int .i64 a2_1, .string a2_2, .slice A2_3 l2_3.length c2_3, .slice A2_4 l2_4.length c2_4] 30 (0, 0)) (by (with_reducible repeat (first | refine blk_drewN ?_ _ | refine blk_drew ?_ | refine blk_alloc ?_ _)); exact BK267.out) hb); have n9_ := Aside0.mk (below_step (by repeat (first | (with_reducible first | exact HB.out | apply below_alloc | apply pw_below_drewN | apply below_drew1 | refine below_set ?_ GE265.out | refine below_set ?_ GE266.out | refine below_set ?_ GE267.out) | exact HB.out)) hb); clear HO_266003; clear HO_266004; clear HO_267003; clear HO_267004; clear HO_268003; clear HO_268004; clear BK265; clear BK266; clear BK267; clear HB; have HO_266003 := n0_; have HO_266004 := n1_; have HO_267003 := n2_; have HO_267004 := n3_; have HO_268003 := n4_; have HO_268004 := n5_; have BK265 := n6_; have BK266 := n7_; have BK267 := n8_; have HB := n9_; clear n0_ n1_ n2_ n3_ n4_ n5_ n6_ n7_ n8_ n9_; (try clear hb); (try clear hb2); (try clear hk); (try clear hi)))
        go_ret
        exact ⟨by first | rfl | (simp [errW_none, errW_some] <;> rfl) | (simp [*, errW_none, errW_some] <;> rfl), by repeat (first | (with_reducible first | exact HB.out | apply below_alloc | apply pw_below_drewN | apply below_drew1 | refine below_set ?_ GE265.out | refine below_set ?_ GE266.out | refine below_set ?_ GE267.out) | exact HB.out)⟩
      · replace c74 := Bool.eq_false_iff.mpr c74
        subst c74
        have H1 : ((order_Compare.f kj3 a0_0 a0_1 a0_2 l0_3 l0_4 a1_0 a1_1 a1_2 l1_3 l1_4).bind fun t277 => ((order_Compare.f kj3 a1_0 a1_1 a1_2 l1_3 l1_4 a2_0 a2_1 a2_2 l2_3 l2_4).bind fun t278 => ((order_Compare.f kj3 a0_0 a0_1 a0_2 l0_3 l0_4 a2_0 a2_1 a2_2 l2_3 l2_4).bind fun t279 => ((order_Compare.f kj3 a1_0 a1_1 a1_2 l1_3 l1_4 a0_0 a0_1 a0_2 l0_3 l0_4).bind fun t280 => (if t280 = (wrap64 (-t277)) then ((munimentref01_Same.f kj3 a0_0 a0_1 a0_2 l0_3 l0_4 a1_0 a1_1 a1_2 l1_3 l1_4).bind fun t281 => (if ((t277 == 0) != t281) = true then (munimentlaw03_OrderTotal.j1 kj3 t277 t278 t279 true) else ((order_Compare.f kj3 a0_0 a0_1 a0_2 l0_3 l0_4 a0_0 a0_1 a0_2 l0_3 l0_4).bind fun t282 => (munimentlaw03_OrderTotal.j1 kj3 t277 t278 t279 (t282 != 0))))) else (munimentlaw03_OrderTotal.j1 kj3 t277 t278 t279 true)))))) = some r := by rw [if_neg (show ¬ (false = true) by decide)] at H; exact H
        clear H
        have H := H1
        clear H1
        replace H := Option.bind_eq_some_iff.mp H
        obtain ⟨t277, A770, H⟩ := H
        replace H : ((order_Compare.f kj3 a1_0 a1_1 a1_2 l1_3 l1_4 a2_0 a2_1 a2_2 l2_3 l2_4).bind fun t278 => ((order_Compare.f kj3 a0_0 a0_1 a0_2 l0_3 l0_4 a2_0 a2_1 a2_2 l2_3 l2_4).bind fun t279 => ((order_Compare.f kj3 a1_0 a1_1 a1_2 l1_3 l1_4 a0_0 a0_1 a0_2 l0_3 l0_4).bind fun t280 => (if t280 = (wrap64 (-t277)) then ((munimentref01_Same.f kj3 a0_0 a0_1 a0_2 l0_3 l0_4 a1_0 a1_1 a1_2 l1_3 l1_4).bind fun t281 => (if ((t277 == 0) != t281) = true then (munimentlaw03_OrderTotal.j1 kj3 t277 t278 t279 true) else ((order_Compare.f kj3 a0_0 a0_1 a0_2 l0_3 l0_4 a0_0 a0_1 a0_2 l0_3 l0_4).bind fun t282 => (munimentlaw03_OrderTotal.j1 kj3 t277 t278 t279 (t282 != 0))))) else (munimentlaw03_OrderTotal.j1 kj3 t277 t278 t279 true))))) = some r := H
        have A77 := Aside0.mk A770
        clear A770
        replace H := Option.bind_eq_some_iff.mp H
        obtain ⟨t278, A780, H⟩ := H
        replace H : ((order_Compare.f kj3 a0_0 a0_1 a0_2 l0_3 l0_4 a2_0 a2_1 a2_2 l2_3 l2_4).bind fun t279 => ((order_Compare.f kj3 a1_0 a1_1 a1_2 l1_3 l1_4 a0_0 a0_1 a0_2 l0_3 l0_4).bind fun t280 => (if t280 = (wrap64 (-t277)) then ((munimentref01_Same.f kj3 a0_0 a0_1 a0_2 l0_3 l0_4 a1_0 a1_1 a1_2 l1_3 l1_4).bind fun t281 => (if ((t277 == 0) != t281) = true then (munimentlaw03_OrderTotal.j1 kj3 t277 t278 t279 true) else ((order_Compare.f kj3 a0_0 a0_1 a0_2 l0_3 l0_4 a0_0 a0_1 a0_2 l0_3 l0_4).bind fun t282 => (munimentlaw03_OrderTotal.j1 kj3 t277 t278 t279 (t282 != 0))))) else (munimentlaw03_OrderTotal.j1 kj3 t277 t278 t279 true)))) = some r := H
        have A78 := Aside0.mk A780
        clear A780
        replace H := Option.bind_eq_some_iff.mp H
        obtain ⟨t279, A790, H⟩ := H
        replace H : ((order_Compare.f kj3 a1_0 a1_1 a1_2 l1_3 l1_4 a0_0 a0_1 a0_2 l0_3 l0_4).bind fun t280 => (if t280 = (wrap64 (-t277)) then ((munimentref01_Same.f kj3 a0_0 a0_1 a0_2 l0_3 l0_4 a1_0 a1_1 a1_2 l1_3 l1_4).bind fun t281 => (if ((t277 == 0) != t281) = true then (munimentlaw03_OrderTotal.j1 kj3 t277 t278 t279 true) else ((order_Compare.f kj3 a0_0 a0_1 a0_2 l0_3 l0_4 a0_0 a0_1 a0_2 l0_3 l0_4).bind fun t282 => (munimentlaw03_OrderTotal.j1 kj3 t277 t278 t279 (t282 != 0))))) else (munimentlaw03_OrderTotal.j1 kj3 t277 t278 t279 true))) = some r := H
        have A79 := Aside0.mk A790
        clear A790
        have HC80 := Aside0.mk H
        clear H
        try go_wp2
        have n0_ := Aside0.mk (Kd.V_drew HO_266003.out)
        have n1_ := Aside0.mk (Kd.V_drew HO_266004.out)
        have n2_ := Aside0.mk (Kd.V_drew HO_267003.out)
        have n3_ := Aside0.mk (Kd.V_drew HO_267004.out)
        have n4_ := Aside0.mk (Kd.V_drew HO_268003.out)
        have n5_ := Aside0.mk (Kd.V_drew HO_268004.out)
        have n6_ := Aside0.mk (blk_drew BK265.out)
        have n7_ := Aside0.mk (blk_drew BK266.out)
        have n8_ := Aside0.mk (blk_drew BK267.out)
        have n9_ := Aside0.mk (below_drew1 HB.out)
        clear HO_266003
        clear HO_266004
        clear HO_267003
        clear HO_267004
        clear HO_268003
        clear HO_268004
        clear BK265
        clear BK266
        clear BK267
        clear HB
        have HO_266003 := n0_
        have HO_266004 := n1_
        have HO_267003 := n2_
        have HO_267004 := n3_
        have HO_268003 := n4_
        have HO_268004 := n5_
        have BK265 := n6_
        have BK266 := n7_
        have BK267 := n8_
        have HB := n9_
        clear n0_ n1_ n2_ n3_ n4_ n5_ n6_ n7_ n8_ n9_
        refine start_ (n := 12) (S := fun w' => w'.cell? ⟨gb265, 0, none⟩ = some (.int .i64 a0_0) ∧ w'.cell? ⟨gb265, 1, none⟩ = some (.int .i64 a0_1) ∧ w'.cell? ⟨gb265, 2, none⟩ = some (.string a0_2) ∧ w'.cell? ⟨gb265, 3, none⟩ = some (.slice A0_3 l0_3.length c0_3) ∧ w'.cell? ⟨gb265, 4, none⟩ = some (.slice A0_4 l0_4.length c0_4) ∧ w'.cell? ⟨gb266, 0, none⟩ = some (.int .i64 a1_0) ∧ w'.cell? ⟨gb266, 1, none⟩ = some (.int .i64 a1_1) ∧ w'.cell? ⟨gb266, 2, none⟩ = some (.string a1_2) ∧ w'.cell? ⟨gb266, 3, none⟩ = some (.slice A1_3 l1_3.length c1_3) ∧ w'.cell? ⟨gb266, 4, none⟩ = some (.slice A1_4 l1_4.length c1_4) ∧ w'.cell? ⟨gb267, 0, none⟩ = some (.int .i64 a2_0) ∧ w'.cell? ⟨gb267, 1, none⟩ = some (.int .i64 a2_1) ∧ w'.cell? ⟨gb267, 2, none⟩ = some (.string a2_2) ∧ w'.cell? ⟨gb267, 3, none⟩ = some (.slice A2_3 l2_3.length c2_3) ∧ w'.cell? ⟨gb267, 4, none⟩ = some (.slice A2_4 l2_4.length c2_4)) (ds := []) #[false, false, false, false, false, false, false, false, false, false, false, false] (by kernel_rfl) rfl rfl ⟨(blk_cell BK265.out 0).trans rfl, (blk_cell BK265.out 1).trans rfl, (blk_cell BK265.out 2).trans rfl, (blk_cell BK265.out 3).trans rfl, (blk_cell BK265.out 4).trans rfl, (blk_cell BK266.out 0).trans rfl, (blk_cell BK266.out 1).trans rfl, (blk_cell BK266.out 2).trans rfl, (blk_cell BK266.out 3).trans rfl, (blk_cell BK266.out 4).trans rfl, (blk_cell BK267.out 0).trans rfl, (blk_cell BK267.out 1).trans rfl, (blk_cell BK267.out 2).trans rfl, (blk_cell BK267.out 3).trans rfl, (blk_cell BK267.out 4).trans rfl⟩ (fun hHeld => ?_); refine with_tabW munimentlaw03_OrderTotal.tab3 munimentlaw03_OrderTotal.bits3 (fun HT_ HW_ => ?_)
        generalize wc.drew = w81 at HO_266003 HO_266004 HO_267003 HO_267004 HO_268003 HO_268004 BK265 BK266 BK267 HB hHeld ⊢
        refine take_ (i := 0) (N := some 36) (v := ?_) (a' := ?_) #[true, false, false, false, false, false, false, false, false, false, false, false] rfl rfl (take_ofW HT_.out HW_.out (by kernel_rfl)) (fun _ _ _ h => h) (Or.inl ⟨by rfl, ?_⟩) hHeld ?_ ?_
        rotate_left
        · rintro w' ⟨s0, s1, s2, s3, s4, s5, s6, s7, s8, s9, s10, s11, s12, s13, s14⟩
          go_simp
          with_reducible rfl
        rotate_left
        · simp only [Act.put, List.setIfInBounds_toArray, List.set_cons_zero, List.set_cons_succ, i64_w, i32_w]
          rfl
        refine take_ (i := 1) (N := some 37) (v := ?_) (a' := ?_) #[true, true, false, false, false, false, false, false, false, false, false, false] rfl rfl (take_ofW HT_.out HW_.out (by kernel_rfl)) (fun _ _ _ h => h) (Or.inl ⟨by rfl, ?_⟩) hHeld ?_ ?_
        rotate_left
        · rintro w' ⟨s0, s1, s2, s3, s4, s5, s6, s7, s8, s9, s10, s11, s12, s13, s14⟩
          go_simp
          with_reducible rfl
        rotate_left
        · simp only [Act.put, List.setIfInBounds_toArray, List.set_cons_zero, List.set_cons_succ, i64_w, i32_w]
          rfl
        refine take_ (i := 3) (N := some 39) (v := ?_) (a' := ?_) #[true, true, false, true, false, false, false, false, false, false, false, false] rfl rfl (take_ofW HT_.out HW_.out (by kernel_rfl)) (fun _ _ _ h => h) (Or.inl ⟨by rfl, ?_⟩) hHeld ?_ ?_
        rotate_left
        · rintro w' ⟨s0, s1, s2, s3, s4, s5, s6, s7, s8, s9, s10, s11, s12, s13, s14⟩
          go_simp
          with_reducible rfl
        rotate_left
        · simp only [Act.put, List.setIfInBounds_toArray, List.set_cons_zero, List.set_cons_succ, i64_w, i32_w]
          rfl
        refine take_ (i := 4) (N := some 40) (v := ?_) (a' := ?_) #[true, true, false, true, true, false, false, false, false, false, false, false] rfl rfl (take_ofW HT_.out HW_.out (by kernel_rfl)) (fun _ _ _ h => h) (Or.inl ⟨by rfl, ?_⟩) hHeld ?_ ?_
        rotate_left
        · rintro w' ⟨s0, s1, s2, s3, s4, s5, s6, s7, s8, s9, s10, s11, s12, s13, s14⟩
          go_simp
          with_reducible rfl
        rotate_left
        · simp only [Act.put, List.setIfInBounds_toArray, List.set_cons_zero, List.set_cons_succ, i64_w, i32_w]
          rfl
        refine take_ (i := 6) (N := some 42) (v := ?_) (a' := ?_) #[true, true, false, true, true, false, true, false, false, false, false, false] rfl rfl (take_ofW HT_.out HW_.out (by kernel_rfl)) (fun _ _ _ h => h) (Or.inl ⟨by rfl, ?_⟩) hHeld ?_ ?_
        rotate_left
        · rintro w' ⟨s0, s1, s2, s3, s4, s5, s6, s7, s8, s9, s10, s11, s12, s13, s14⟩
          go_simp
          with_reducible rfl
        rotate_left
        · simp only [Act.put, List.setIfInBounds_toArray, List.set_cons_zero, List.set_cons_succ, i64_w, i32_w]
          rfl
        refine take_ (i := 7) (N := some 43) (v := ?_) (a' := ?_) #[true, true, false, true, true, false, true, true, false, false, false, false] rfl rfl (take_ofW HT_.out HW_.out (by kernel_rfl)) (fun _ _ _ h => h) (Or.inl ⟨by rfl, ?_⟩) hHeld ?_ ?_
        rotate_left
        · rintro w' ⟨s0, s1, s2, s3, s4, s5, s6, s7, s8, s9, s10, s11, s12, s13, s14⟩
          go_simp
          with_reducible rfl
        rotate_left
        · simp only [Act.put, List.setIfInBounds_toArray, List.set_cons_zero, List.set_cons_succ, i64_w, i32_w]
          rfl
        refine one_ (i := 2) (N := some 38) #[true, true, true, true, true, false, true, true, false, false, false, false] rfl rfl (one_of HT_.out (by kernel_rfl)) (by decide) (fun K hK => ?_)
        refine goes_ Tryd.func17 (by kernel_rfl) rfl #[.agg #[.int .i64 a0_0, .int .i64 a0_1, .string a0_2, .slice A0_3 l0_3.length c0_3, .slice A0_4 l0_4.length c0_4], .agg #[.int .i64 a1_0, .int .i64 a1_1, .string a1_2, .slice A1_3 l1_3.length c1_3, .slice A1_4 l1_4.length c1_4]] (by rfl) rfl rfl (by (try simp only [List.map_toArray, List.map_cons, List.map_nil]); first | done | rfl | (simp only [List.length_drop, List.length_take]; rfl)) ?_
        with_reducible refine (order_Compare.calls kj3 a0_0 a0_1 a0_2 _ _ l0_3 _ _ l0_4 a1_0 a1_1 a1_2 _ _ l1_3 _ _ l1_4 t277 _ ?side1 ?side2 ?side3 ?side4 ?side5 ?side6 ?side7 ?side8 ?side9 A77.out).mono ?_
        (case side1 => repeat (first | exact (Kd.V_reads' HO_266003.out).2.2 | (with_reducible refine Kd.C_alloc ?_ _) | (with_reducible refine Kd.C_drewN ?_ _) | (with_reducible refine Kd.C_drew ?_)))
        (case side2 => exact (Kd.V_reads' HO_266003.out).2.1)
        (case side3 => repeat (first | exact (Kd.V_reads' HO_266004.out).2.2 | (with_reducible refine Kd.C_alloc ?_ _) | (with_reducible refine Kd.C_drewN ?_ _) | (with_reducible refine Kd.C_drew ?_)))
        (case side4 => exact (Kd.V_reads' HO_266004.out).2.1)
        (case side5 => repeat (first | exact (Kd.V_reads' HO_267003.out).2.2 | (with_reducible refine Kd.C_alloc ?_ _) | (with_reducible refine Kd.C_drewN ?_ _) | (with_reducible refine Kd.C_drew ?_)))
        (case side6 => exact (Kd.V_reads' HO_267003.out).2.1)
        (case side7 => repeat (first | exact (Kd.V_reads' HO_267004.out).2.2 | (with_reducible refine Kd.C_alloc ?_ _) | (with_reducible refine Kd.C_drewN ?_ _) | (with_reducible refine Kd.C_drew ?_)))
        (case side8 => exact (Kd.V_reads' HO_267004.out).2.1)
        (case side9 => first | exact HT.out | (refine tabs_below HT.out ?_; repeat (first | exact HB.out | (with_reducible first | apply below_alloc | apply pw_below_drewN | apply below_drew1 | exact Below.refl _ _) | (refine below_set ?_ (Aside0.out (by assumption))))))
        rintro e w82 ⟨rfl, hb⟩
        refine ⟨_, rfl, ?_⟩
        have n0_ := Aside0.mk (Kd.V_below (by (with_reducible repeat (first | apply Kd.V_alloc | apply Kd.V_drewN | apply Kd.V_drew)); exact HO_266003.out) hb)
        have n1_ := Aside0.mk (Kd.V_below (by (with_reducible repeat (first | apply Kd.V_alloc | apply Kd.V_drewN | apply Kd.V_drew)); exact HO_266004.out) hb)
        have n2_ := Aside0.mk (Kd.V_below (by (with_reducible repeat (first | apply Kd.V_alloc | apply Kd.V_drewN | apply Kd.V_drew)); exact HO_267003.out) hb)
        have n3_ := Aside0.mk (Kd.V_below (by (with_reducible repeat (first | apply Kd.V_alloc | apply Kd.V_drewN | apply Kd.V_drew)); exact HO_267004.out) hb)
        have n4_ := Aside0.mk (Kd.V_below (by (with_reducible repeat (first | apply Kd.V_alloc | apply Kd.V_drewN | apply Kd.V_drew)); exact HO_268003.out) hb)
        have n5_ := Aside0.mk (Kd.V_below (by (with_reducible repeat (first | apply Kd.V_alloc | apply Kd.V_drewN | apply Kd.V_drew)); exact HO_268004.out) hb)
        have n6_ := Aside0.mk (blk_below (g := gb265) (o := .cells #[.int .i64 a0_0, .int .i64 a0_1, .string a0_2, .slice A0_3 l0_3.length c0_3, .slice A0_4 l0_4.length c0_4] 30 (0, 0)) (by (with_reducible repeat (first | refine blk_drewN ?_ _ | refine blk_drew ?_ | refine blk_alloc ?_ _)); exact BK265.out) hb)
        have n7_ := Aside0.mk (blk_below (g := gb266) (o := .cells #[.int .i64 a1_0, .int .i64 a1_1, .string a1_2, .slice A1_3 l1_3.length c1_3, .slice A1_4 l1_4.length c1_4] 30 (0, 0)) (by (with_reducible repeat (first | refine blk_drewN ?_ _ | refine blk_drew ?_ | refine blk_alloc ?_ _)); exact BK266.out) hb)
        have n8_ := Aside0.mk (blk_below (g := gb267) (o := .cells #[.int .i64 a2_0, .int .i64 a2_1, .string a2_2, .slice A2_3 l2_3.length c2_3, .slice A2_4 l2_4.length c2_4] 30 (0, 0)) (by (with_reducible repeat (first | refine blk_drewN ?_ _ | refine blk_drew ?_ | refine blk_alloc ?_ _)); exact BK267.out) hb)
        have n9_ := Aside0.mk (below_step (by repeat (first | (with_reducible first | exact HB.out | apply below_alloc | apply pw_below_drewN | apply below_drew1 | refine below_set ?_ GE265.out | refine below_set ?_ GE266.out | refine below_set ?_ GE267.out) | exact HB.out)) hb)
        clear HO_266003
        clear HO_266004
        clear HO_267003
        clear HO_267004
        clear HO_268003
        clear HO_268004
        clear BK265
        clear BK266
        clear BK267
        clear HB
        have HO_266003 := n0_
        have HO_266004 := n1_
        have HO_267003 := n2_
        have HO_267004 := n3_
        have HO_268003 := n4_
        have HO_268004 := n5_
        have BK265 := n6_
        have BK266 := n7_
        have BK267 := n8_
        have HB := n9_
        clear n0_ n1_ n2_ n3_ n4_ n5_ n6_ n7_ n8_ n9_
        (try clear hb)
        (try clear hb2)
        (try clear hk)
        (try clear hi)
        refine hK.out _ _ ⟨(blk_cell BK265.out 0).trans rfl, (blk_cell BK265.out 1).trans rfl, (blk_cell BK265.out 2).trans rfl, (blk_cell BK265.out 3).trans rfl, (blk_cell BK265.out 4).trans rfl, (blk_cell BK266.out 0).trans rfl, (blk_cell BK266.out 1).trans rfl, (blk_cell BK266.out 2).trans rfl, (blk_cell BK266.out 3).trans rfl, (blk_cell BK266.out 4).trans rfl, (blk_cell BK267.out 0).trans rfl, (blk_cell BK267.out 1).trans rfl, (blk_cell BK267.out 2).trans rfl, (blk_cell BK267.out 3).trans rfl, (blk_cell BK267.out 4).trans rfl⟩ (fun hHeld => ?_)
        clear hK K
        refine norm_ (a' := ?_) ?_ ?_
        rotate_left
        · show Act.put _ (some 38) _ = _
          simp only [Act.put, List.setIfInBounds_toArray, List.set_cons_zero, List.set_cons_succ, i64_w, i32_w]
          rfl
        refine one_ (i := 5) (N := some 41) #[true, true, true, true, true, true, true, true, false, false, false, false] rfl rfl (one_of HT_.out (by kernel_rfl)) (by decide) (fun K hK => ?_)
        refine goes_ Tryd.func17 (by kernel_rfl) rfl #[.agg #[.int .i64 a1_0, .int .i64 a1_1, .string a1_2, .slice A1_3 l1_3.length c1_3, .slice A1_4 l1_4.length c1_4], .agg #[.int .i64 a2_0, .int .i64 a2_1, .string a2_2, .slice A2_3 l2_3.length c2_3, .slice A2_4 l2_4.length c2_4]] (by rfl) rfl rfl (by (try simp only [List.map_toArray, List.map_cons, List.map_nil]); first | done | rfl | (simp only [List.length_drop, List.length_take]; rfl)) ?_
        with_reducible refine (order_Compare.calls kj3 a1_0 a1_1 a1_2 _ _ l1_3 _ _ l1_4 a2_0 a2_1 a2_2 _ _ l2_3 _ _ l2_4 t278 _ ?side1 ?side2 ?side3 ?side4 ?side5 ?side6 ?side7 ?side8 ?side9 A78.out).mono ?_
        (case side1 => repeat (first | exact (Kd.V_reads' HO_267003.out).2.2 | (with_reducible refine Kd.C_alloc ?_ _) | (with_reducible refine Kd.C_drewN ?_ _) | (with_reducible refine Kd.C_drew ?_)))
        (case side2 => exact (Kd.V_reads' HO_267003.out).2.1)
        (case side3 => repeat (first | exact (Kd.V_reads' HO_267004.out).2.2 | (with_reducible refine Kd.C_alloc ?_ _) | (with_reducible refine Kd.C_drewN ?_ _) | (with_reducible refine Kd.C_drew ?_)))
        (case side4 => exact (Kd.V_reads' HO_267004.out).2.1)
        (case side5 => repeat (first | exact (Kd.V_reads' HO_268003.out).2.2 | (with_reducible refine Kd.C_alloc ?_ _) | (with_reducible refine Kd.C_drewN ?_ _) | (with_reducible refine Kd.C_drew ?_)))
        (case side6 => exact (Kd.V_reads' HO_268003.out).2.1)
        (case side7 => repeat (first | exact (Kd.V_reads' HO_268004.out).2.2 | (with_reducible refine Kd.C_alloc ?_ _) | (with_reducible refine Kd.C_drewN ?_ _) | (with_reducible refine Kd.C_drew ?_)))
        (case side8 => exact (Kd.V_reads' HO_268004.out).2.1)
        (case side9 => first | exact HT.out | (refine tabs_below HT.out ?_; repeat (first | exact HB.out | (with_reducible first | apply below_alloc | apply pw_below_drewN | apply below_drew1 | exact Below.refl _ _) | (refine below_set ?_ (Aside0.out (by assumption))))))
        rintro e w83 ⟨rfl, hb⟩
        refine ⟨_, rfl, ?_⟩
        have n0_ := Aside0.mk (Kd.V_below (by (with_reducible repeat (first | apply Kd.V_alloc | apply Kd.V_drewN | apply Kd.V_drew)); exact HO_266003.out) hb)
        have n1_ := Aside0.mk (Kd.V_below (by (with_reducible repeat (first | apply Kd.V_alloc | apply Kd.V_drewN | apply Kd.V_drew)); exact HO_266004.out) hb)
        have n2_ := Aside0.mk (Kd.V_below (by (with_reducible repeat (first | apply Kd.V_alloc | apply Kd.V_drewN | apply Kd.V_drew)); exact HO_267003.out) hb)
        have n3_ := Aside0.mk (Kd.V_below (by (with_reducible repeat (first | apply Kd.V_alloc | apply Kd.V_drewN | apply Kd.V_drew)); exact HO_267004.out) hb)
        have n4_ := Aside0.mk (Kd.V_below (by (with_reducible repeat (first | apply Kd.V_alloc | apply Kd.V_drewN | apply Kd.V_drew)); exact HO_268003.out) hb)
        have n5_ := Aside0.mk (Kd.V_below (by (with_reducible repeat (first | apply Kd.V_alloc | apply Kd.V_drewN | apply Kd.V_drew)); exact HO_268004.out) hb)
        have n6_ := Aside0.mk (blk_below (g := gb265) (o := .cells #[.int .i64 a0_0, .int .i64 a0_1, .string a0_2, .slice A0_3 l0_3.length c0_3, .slice A0_4 l0_4.length c0_4] 30 (0, 0)) (by (with_reducible repeat (first | refine blk_drewN ?_ _ | refine blk_drew ?_ | refine blk_alloc ?_ _)); exact BK265.out) hb)
        have n7_ := Aside0.mk (blk_below (g := gb266) (o := .cells #[.int .i64 a1_0, .int .i64 a1_1, .string a1_2, .slice A1_3 l1_3.length c1_3, .slice A1_4 l1_4.length c1_4] 30 (0, 0)) (by (with_reducible repeat (first | refine blk_drewN ?_ _ | refine blk_drew ?_ | refine blk_alloc ?_ _)); exact BK266.out) hb)
        have n8_ := Aside0.mk (blk_below (g := gb267) (o := .cells #[.int .i64 a2_0, .int .i64 a2_1, .string a2_2, .slice A2_3 l2_3.length c2_3, .slice A2_4 l2_4.length c2_4] 30 (0, 0)) (by (with_reducible repeat (first | refine blk_drewN ?_ _ | refine blk_drew ?_ | refine blk_alloc ?_ _)); exact BK267.out) hb)
        have n9_ := Aside0.mk (below_step (by repeat (first | (with_reducible first | exact HB.out | apply below_alloc | apply pw_below_drewN | apply below_drew1 | refine below_set ?_ GE265.out | refine below_set ?_ GE266.out | refine below_set ?_ GE267.out) | exact HB.out)) hb)
        clear HO_266003
        clear HO_266004
        clear HO_267003
        clear HO_267004
        clear HO_268003
        clear HO_268004
        clear BK265
        clear BK266
        clear BK267
        clear HB
        have HO_266003 := n0_
        have HO_266004 := n1_
        have HO_267003 := n2_
        have HO_267004 := n3_
        have HO_268003 := n4_
        have HO_268004 := n5_
        have BK265 := n6_
        have BK266 := n7_
        have BK267 := n8_
        have HB := n9_
        clear n0_ n1_ n2_ n3_ n4_ n5_ n6_ n7_ n8_ n9_
        (try clear hb)
        (try clear hb2)
        (try clear hk)
        (try clear hi)
        refine hK.out _ _ ⟨(blk_cell BK265.out 0).trans rfl, (blk_cell BK265.out 1).trans rfl, (blk_cell BK265.out 2).trans rfl, (blk_cell BK265.out 3).trans rfl, (blk_cell BK265.out 4).trans rfl, (blk_cell BK266.out 0).trans rfl, (blk_cell BK266.out 1).trans rfl, (blk_cell BK266.out 2).trans rfl, (blk_cell BK266.out 3).trans rfl, (blk_cell BK266.out 4).trans rfl, (blk_cell BK267.out 0).trans rfl, (blk_cell BK267.out 1).trans rfl, (blk_cell BK267.out 2).trans rfl, (blk_cell BK267.out 3).trans rfl, (blk_cell BK267.out 4).trans rfl⟩ (fun hHeld => ?_)
        clear hK K
        refine norm_ (a' := ?_) ?_ ?_
        rotate_left
        · show Act.put _ (some 41) _ = _
          simp only [Act.put, List.setIfInBounds_toArray, List.set_cons_zero, List.set_cons_succ, i64_w, i32_w]
          rfl
        refine one_ (i := 8) (N := some 44) #[true, true, true, true, true, true, true, true, true, false, false, false] rfl rfl (one_of HT_.out (by kernel_rfl)) (by decide) (fun K hK => ?_)
        refine goes_ Tryd.func17 (by kernel_rfl) rfl #[.agg #[.int .i64 a0_0, .int .i64 a0_1, .string a0_2, .slice A0_3 l0_3.length c0_3, .slice A0_4 l0_4.length c0_4], .agg #[.int .i64 a2_0, .int .i64 a2_1, .string a2_2, .slice A2_3 l2_3.length c2_3, .slice A2_4 l2_4.length c2_4]] (by rfl) rfl rfl (by (try simp only [List.map_toArray, List.map_cons, List.map_nil]); first | done | rfl | (simp only [List.length_drop, List.length_take]; rfl)) ?_
        with_reducible refine (order_Compare.calls kj3 a0_0 a0_1 a0_2 _ _ l0_3 _ _ l0_4 a2_0 a2_1 a2_2 _ _ l2_3 _ _ l2_4 t279 _ ?side1 ?side2 ?side3 ?side4 ?side5 ?side6 ?side7 ?side8 ?side9 A79.out).mono ?_
        (case side1 => repeat (first | exact (Kd.V_reads' HO_266003.out).2.2 | (with_reducible refine Kd.C_alloc ?_ _) | (with_reducible refine Kd.C_drewN ?_ _) | (with_reducible refine Kd.C_drew ?_)))
        (case side2 => exact (Kd.V_reads' HO_266003.out).2.1)
        (case side3 => repeat (first | exact (Kd.V_reads' HO_266004.out).2.2 | (with_reducible refine Kd.C_alloc ?_ _) | (with_reducible refine Kd.C_drewN ?_ _) | (with_reducible refine Kd.C_drew ?_)))
        (case side4 => exact (Kd.V_reads' HO_266004.out).2.1)
        (case side5 => repeat (first | exact (Kd.V_reads' HO_268003.out).2.2 | (with_reducible refine Kd.C_alloc ?_ _) | (with_reducible refine Kd.C_drewN ?_ _) | (with_reducible refine Kd.C_drew ?_)))
        (case side6 => exact (Kd.V_reads' HO_268003.out).2.1)
        (case side7 => repeat (first | exact (Kd.V_reads' HO_268004.out).2.2 | (with_reducible refine Kd.C_alloc ?_ _) | (with_reducible refine Kd.C_drewN ?_ _) | (with_reducible refine Kd.C_drew ?_)))
        (case side8 => exact (Kd.V_reads' HO_268004.out).2.1)
        (case side9 => first | exact HT.out | (refine tabs_below HT.out ?_; repeat (first | exact HB.out | (with_reducible first | apply below_alloc | apply pw_below_drewN | apply below_drew1 | exact Below.refl _ _) | (refine below_set ?_ (Aside0.out (by assumption))))))
        rintro e w84 ⟨rfl, hb⟩
        refine ⟨_, rfl, ?_⟩
        have n0_ := Aside0.mk (Kd.V_below (by (with_reducible repeat (first | apply Kd.V_alloc | apply Kd.V_drewN | apply Kd.V_drew)); exact HO_266003.out) hb)
        have n1_ := Aside0.mk (Kd.V_below (by (with_reducible repeat (first | apply Kd.V_alloc | apply Kd.V_drewN | apply Kd.V_drew)); exact HO_266004.out) hb)
        have n2_ := Aside0.mk (Kd.V_below (by (with_reducible repeat (first | apply Kd.V_alloc | apply Kd.V_drewN | apply Kd.V_drew)); exact HO_267003.out) hb)
        have n3_ := Aside0.mk (Kd.V_below (by (with_reducible repeat (first | apply Kd.V_alloc | apply Kd.V_drewN | apply Kd.V_drew)); exact HO_267004.out) hb)
        have n4_ := Aside0.mk (Kd.V_below (by (with_reducible repeat (first | apply Kd.V_alloc | apply Kd.V_drewN | apply Kd.V_drew)); exact HO_268003.out) hb)
        have n5_ := Aside0.mk (Kd.V_below (by (with_reducible repeat (first | apply Kd.V_alloc | apply Kd.V_drewN | apply Kd.V_drew)); exact HO_268004.out) hb)
        have n6_ := Aside0.mk (blk_below (g := gb265) (o := .cells #[.int .i64 a0_0, .int .i64 a0_1, .string a0_2, .slice A0_3 l0_3.length c0_3, .slice A0_4 l0_4.length c0_4] 30 (0, 0)) (by (with_reducible repeat (first | refine blk_drewN ?_ _ | refine blk_drew ?_ | refine blk_alloc ?_ _)); exact BK265.out) hb)
        have n7_ := Aside0.mk (blk_below (g := gb266) (o := .cells #[.int .i64 a1_0, .int .i64 a1_1, .string a1_2, .slice A1_3 l1_3.length c1_3, .slice A1_4 l1_4.length c1_4] 30 (0, 0)) (by (with_reducible repeat (first | refine blk_drewN ?_ _ | refine blk_drew ?_ | refine blk_alloc ?_ _)); exact BK266.out) hb)
        have n8_ := Aside0.mk (blk_below (g := gb267) (o := .cells #[.int .i64 a2_0, .int .i64 a2_1, .string a2_2, .slice A2_3 l2_3.length c2_3, .slice A2_4 l2_4.length c2_4] 30 (0, 0)) (by (with_reducible repeat (first | refine blk_drewN ?_ _ | refine blk_drew ?_ | refine blk_alloc ?_ _)); exact BK267.out) hb)
        have n9_ := Aside0.mk (below_step (by repeat (first | (with_reducible first | exact HB.out | apply below_alloc | apply pw_below_drewN | apply below_drew1 | refine below_set ?_ GE265.out | refine below_set ?_ GE266.out | refine below_set ?_ GE267.out) | exact HB.out)) hb)
        clear HO_266003
        clear HO_266004
        clear HO_267003
        clear HO_267004
        clear HO_268003
        clear HO_268004
        clear BK265
        clear BK266
        clear BK267
        clear HB
        have HO_266003 := n0_
        have HO_266004 := n1_
        have HO_267003 := n2_
        have HO_267004 := n3_
        have HO_268003 := n4_
        have HO_268004 := n5_
        have BK265 := n6_
        have BK266 := n7_
        have BK267 := n8_
        have HB := n9_
        clear n0_ n1_ n2_ n3_ n4_ n5_ n6_ n7_ n8_ n9_
        (try clear hb)
        (try clear hb2)
        (try clear hk)
        (try clear hi)
        refine hK.out _ _ ⟨(blk_cell BK265.out 0).trans rfl, (blk_cell BK265.out 1).trans rfl, (blk_cell BK265.out 2).trans rfl, (blk_cell BK265.out 3).trans rfl, (blk_cell BK265.out 4).trans rfl, (blk_cell BK266.out 0).trans rfl, (blk_cell BK266.out 1).trans rfl, (blk_cell BK266.out 2).trans rfl, (blk_cell BK266.out 3).trans rfl, (blk_cell BK266.out 4).trans rfl, (blk_cell BK267.out 0).trans rfl, (blk_cell BK267.out 1).trans rfl, (blk_cell BK267.out 2).trans rfl, (blk_cell BK267.out 3).trans rfl, (blk_cell BK267.out 4).trans rfl⟩ (fun hHeld => ?_)
        clear hK K
        refine norm_ (a' := ?_) ?_ ?_
        rotate_left
        · show Act.put _ (some 44) _ = _
          simp only [Act.put, List.setIfInBounds_toArray, List.set_cons_zero, List.set_cons_succ, i64_w, i32_w]
          rfl
        refine pure_ (i := 9) (N := some 7) (v := ?_) (a' := ?_) #[true, true, true, true, true, true, true, true, true, true, false, false] rfl rfl (any_of HT_.out (by kernel_rfl)) (fun _ _ _ h => h) (Or.inl ⟨by rfl, ?_⟩) ?_ ?_
        rotate_left
        · intro w'
          go_simp
          with_reducible rfl
        rotate_left
        · simp only [Act.put, List.setIfInBounds_toArray, List.set_cons_zero, List.set_cons_succ, i64_w, i32_w]
          rfl
        refine pure_ (i := 10) (N := some 8) (v := ?_) (a' := ?_) #[true, true, true, true, true, true, true, true, true, true, true, false] rfl rfl (any_of HT_.out (by kernel_rfl)) (fun _ _ _ h => h) (Or.inl ⟨by rfl, ?_⟩) ?_ ?_
        rotate_left
        · intro w'
          go_simp
          with_reducible rfl
        rotate_left
        · simp only [Act.put, List.setIfInBounds_toArray, List.set_cons_zero, List.set_cons_succ, i64_w, i32_w]
          rfl
        refine pure_ (i := 11) (N := some 9) (v := ?_) (a' := ?_) #[true, true, true, true, true, true, true, true, true, true, true, true] rfl rfl (any_of HT_.out (by kernel_rfl)) (fun _ _ _ h => h) (Or.inl ⟨by rfl, ?_⟩) ?_ ?_
        rotate_left
        · intro w'
          go_simp
          with_reducible rfl
        rotate_left
        · simp only [Act.put, List.setIfInBounds_toArray, List.set_cons_zero, List.set_cons_succ, i64_w, i32_w]
          rfl
        refine done_ (done_of HT_.out (by kernel_rfl)) ?_
        go_upto_region 4 with (fail)
        go_cut [64] (fun v64 wc => ∃ (kq : Nat) (x64_79 : Bool), v64 = .bool x64_79 ∧ Aside0 (munimentlaw03_OrderTotal.j1 kq t277 t278 t279 x64_79 = some r) ∧ Aside0 (kq ≤ kj3) ∧ Aside0 (Kd.V Kd.string 9 wc w.heap.size (fun k_ => ((P0_3_ k_ ∨ P0_4_ k_ ∨ P1_3_ k_ ∨ P1_4_ k_ ∨ P2_3_ k_ ∨ P2_4_ k_) ∨ w.heap.size ≤ k_) ∧ k_ ≠ gb265 ∧ k_ ≠ gb266 ∧ k_ ≠ gb267) (.slice A0_3 l0_3.length c0_3) l0_3) ∧ Aside0 (Kd.V k30 30 wc w.heap.size (fun k_ => ((P0_3_ k_ ∨ P0_4_ k_ ∨ P1_3_ k_ ∨ P1_4_ k_ ∨ P2_3_ k_ ∨ P2_4_ k_) ∨ w.heap.size ≤ k_) ∧ k_ ≠ gb265 ∧ k_ ≠ gb266 ∧ k_ ≠ gb267) (.slice A0_4 l0_4.length c0_4) l0_4) ∧ Aside0 (Kd.V Kd.string 9 wc w.heap.size (fun k_ => ((P0_3_ k_ ∨ P0_4_ k_ ∨ P1_3_ k_ ∨ P1_4_ k_ ∨ P2_3_ k_ ∨ P2_4_ k_) ∨ w.heap.size ≤ k_) ∧ k_ ≠ gb265 ∧ k_ ≠ gb266 ∧ k_ ≠ gb267) (.slice A1_3 l1_3.length c1_3) l1_3) ∧ Aside0 (Kd.V k30 30 wc w.heap.size (fun k_ => ((P0_3_ k_ ∨ P0_4_ k_ ∨ P1_3_ k_ ∨ P1_4_ k_ ∨ P2_3_ k_ ∨ P2_4_ k_) ∨ w.heap.size ≤ k_) ∧ k_ ≠ gb265 ∧ k_ ≠ gb266 ∧ k_ ≠ gb267) (.slice A1_4 l1_4.length c1_4) l1_4) ∧ Aside0 (Kd.V Kd.string 9 wc w.heap.size (fun k_ => ((P0_3_ k_ ∨ P0_4_ k_ ∨ P1_3_ k_ ∨ P1_4_ k_ ∨ P2_3_ k_ ∨ P2_4_ k_) ∨ w.heap.size ≤ k_) ∧ k_ ≠ gb265 ∧ k_ ≠ gb266 ∧ k_ ≠ gb267) (.slice A2_3 l2_3.length c2_3) l2_3) ∧ Aside0 (Kd.V k30 30 wc w.heap.size (fun k_ => ((P0_3_ k_ ∨ P0_4_ k_ ∨ P1_3_ k_ ∨ P1_4_ k_ ∨ P2_3_ k_ ∨ P2_4_ k_) ∨ w.heap.size ≤ k_) ∧ k_ ≠ gb265 ∧ k_ ≠ gb266 ∧ k_ ≠ gb267) (.slice A2_4 l2_4.length c2_4) l2_4) ∧ Aside0 (wc.heap[gb265]? = some (.cells #[.int .i64 a0_0, .int .i64 a0_1, .string a0_2, (.slice A0_3 l0_3.length c0_3), (.slice A0_4 l0_4.length c0_4)] 30 (0, 0))) ∧ Aside0 (wc.heap[gb266]? = some (.cells #[.int .i64 a1_0, .int .i64 a1_1, .string a1_2, (.slice A1_3 l1_3.length c1_3), (.slice A1_4 l1_4.length c1_4)] 30 (0, 0))) ∧ Aside0 (wc.heap[gb267]? = some (.cells #[.int .i64 a2_0, .int .i64 a2_1, .string a2_2, (.slice A2_3 l2_3.length c2_3), (.slice A2_4 l2_4.length c2_4)] 30 (0, 0))) ∧ Aside0 (Below w.heap.size w wc))
        case first =>
          have H := HC80.out
          clear HC80
          replace H := Option.bind_eq_some_iff.mp H
          obtain ⟨t280, A850, H⟩ := H
          replace H : (if t280 = (wrap64 (-t277)) then ((munimentref01_Same.f kj3 a0_0 a0_1 a0_2 l0_3 l0_4 a1_0 a1_1 a1_2 l1_3 l1_4).bind fun t281 => (if ((t277 == 0) != t281) = true then (munimentlaw03_OrderTotal.j1 kj3 t277 t278 t279 true) else ((order_Compare.f kj3 a0_0 a0_1 a0_2 l0_3 l0_4 a0_0 a0_1 a0_2 l0_3 l0_4).bind fun t282 => (munimentlaw03_OrderTotal.j1 kj3 t277 t278 t279 (t282 != 0))))) else (munimentlaw03_OrderTotal.j1 kj3 t277 t278 t279 true)) = some r := H
          have A85 := Aside0.mk A850
          clear A850
          by_cases c86 : t280 = (wrap64 (-t277))
          · rw [if_pos c86] at H
            have c86b0 : (t280 == (wrap64 (-t277))) = true := beq_iff_eq.mpr c86
            have c86b1 : (t280 != (wrap64 (-t277))) = false := bne_eq_false_iff_eq.mpr c86
            clear c86
            (first | rw [c86b0] | (simp only [i64_w, i32_w]; rw [c86b0]) | skip)
            replace H := Option.bind_eq_some_iff.mp H
            obtain ⟨t281, A870, H⟩ := H
            replace H : (if ((t277 == 0) != t281) = true then (munimentlaw03_OrderTotal.j1 kj3 t277 t278 t279 true) else ((order_Compare.f kj3 a0_0 a0_1 a0_2 l0_3 l0_4 a0_0 a0_1 a0_2 l0_3 l0_4).bind fun t282 => (munimentlaw03_OrderTotal.j1 kj3 t277 t278 t279 (t282 != 0)))) = some r := H
            have A87 := Aside0.mk A870
            clear A870
            by_cases c88 : ((t277 == 0) != t281) = true
            · rw [if_pos c88] at H
              have c88b0 : ((t277 == 0) != t281) = true := c88
              (try (have c88b1 : decide ((t277 == 0) = t281) = false := by simpa using c88))
              (try (have c88b2 : ((t277 == 0) == t281) = false := by simpa using c88))
              (try (have c88b3 : ¬ ((t277 == 0) = t281) := by simpa using c88))
              clear c88
              have H' := Aside0.mk H
              clear H
              have hnb89 := NB266_265.out
              have hnc89 := NB265_266.out
              have hnb90 := NB266_267.out
              have hnc90 := NB267_266.out
              have hcz91_0 : w84.cell? ⟨gb266, 0, none⟩ = some (.int .i64 a1_0) := (blk_cell BK266.out 0).trans rfl
              have hcz91_1 : w84.cell? ⟨gb266, 1, none⟩ = some (.int .i64 a1_1) := (blk_cell BK266.out 1).trans rfl
              have hcz91_2 : w84.cell? ⟨gb266, 2, none⟩ = some (.string a1_2) := (blk_cell BK266.out 2).trans rfl
              have hcz91_3 : w84.cell? ⟨gb266, 3, none⟩ = some (.slice A1_3 l1_3.length c1_3) := (blk_cell BK266.out 3).trans rfl
              have hcz91_4 : w84.cell? ⟨gb266, 4, none⟩ = some (.slice A1_4 l1_4.length c1_4) := (blk_cell BK266.out 4).trans rfl
              have hfz91_0 := blk_frozen BK266.out 0
              have hfz91_1 := blk_frozen BK266.out 1
              have hfz91_2 := blk_frozen BK266.out 2
              have hfz91_3 := blk_frozen BK266.out 3
              have hfz91_4 := blk_frozen BK266.out 4
              have hnb92 := NB265_267.out
              have hnc92 := NB267_265.out
              have hcz93_0 : w84.cell? ⟨gb265, 0, none⟩ = some (.int .i64 a0_0) := (blk_cell BK265.out 0).trans rfl
              have hcz93_1 : w84.cell? ⟨gb265, 1, none⟩ = some (.int .i64 a0_1) := (blk_cell BK265.out 1).trans rfl
              have hcz93_2 : w84.cell? ⟨gb265, 2, none⟩ = some (.string a0_2) := (blk_cell BK265.out 2).trans rfl
              have hcz93_3 : w84.cell? ⟨gb265, 3, none⟩ = some (.slice A0_3 l0_3.length c0_3) := (blk_cell BK265.out 3).trans rfl
              have hcz93_4 : w84.cell? ⟨gb265, 4, none⟩ = some (.slice A0_4 l0_4.length c0_4) := (blk_cell BK265.out 4).trans rfl
              have hfz93_0 := blk_frozen BK265.out 0
              have hfz93_1 := blk_frozen BK265.out 1
              have hfz93_2 := blk_frozen BK265.out 2
              have hfz93_3 := blk_frozen BK265.out 3
              have hfz93_4 := blk_frozen BK265.out 4
              go_wp2_with (first | ((with_reducible refine gate_callee (f := 17) rfl ?_); refine goesL_ (some 47) rfl rfl Tryd.func17 (by kernel_rfl) rfl #[.agg #[.int .i64 a1_0, .int .i64 a1_1, .string a1_2, .slice A1_3 l1_3.length c1_3, .slice A1_4 l1_4.length c1_4], .agg #[.int .i64 a0_0, .int .i64 a0_1, .string a0_2, .slice A0_3 l0_3.length c0_3, .slice A0_4 l0_4.length c0_4]] rfl (by (try simp only [List.map_toArray, List.map_cons, List.map_nil]); first | done | rfl | (simp only [List.length_drop, List.length_take]; rfl)) ?_; (with_reducible refine (order_Compare.calls kj3 a1_0 a1_1 a1_2 _ _ l1_3 _ _ l1_4 a0_0 a0_1 a0_2 _ _ l0_3 _ _ l0_4 t280 _ ?side1 ?side2 ?side3 ?side4 ?side5 ?side6 ?side7 ?side8 ?side9 A85.out).mono ?_); (case side1 => repeat (first | exact (Kd.V_reads' HO_267003.out).2.2 | (with_reducible refine Kd.C_alloc ?_ _) | (with_reducible refine Kd.C_drewN ?_ _) | (with_reducible refine Kd.C_drew ?_))); (case side2 => exact (Kd.V_reads' HO_267003.out).2.1); (case side3 => repeat (first | exact (Kd.V_reads' HO_267004.out).2.2 | (with_reducible refine Kd.C_alloc ?_ _) | (with_reducible refine Kd.C_drewN ?_ _) | (with_reducible refine Kd.C_drew ?_))); (case side4 => exact (Kd.V_reads' HO_267004.out).2.1); (case side5 => repeat (first | exact (Kd.V_reads' HO_266003.out).2.2 | (with_reducible refine Kd.C_alloc ?_ _) | (with_reducible refine Kd.C_drewN ?_ _) | (with_reducible refine Kd.C_drew ?_))); (case side6 => exact (Kd.V_reads' HO_266003.out).2.1); (case side7 => repeat (first | exact (Kd.V_reads' HO_266004.out).2.2 | (with_reducible refine Kd.C_alloc ?_ _) | (with_reducible refine Kd.C_drewN ?_ _) | (with_reducible refine Kd.C_drew ?_))); (case side8 => exact (Kd.V_reads' HO_266004.out).2.1); (case side9 => first | exact HT.out | (refine tabs_below HT.out ?_; repeat (first | exact HB.out | (with_reducible first | apply below_alloc | apply pw_below_drewN | apply below_drew1 | exact Below.refl _ _) | (refine below_set ?_ (Aside0.out (by assumption)))))); rintro e w94 ⟨rfl, hb⟩; refine ⟨_, rfl, ?_⟩; have n0_ := Aside0.mk (Kd.V_below (by (with_reducible repeat (first | apply Kd.V_alloc | apply Kd.V_drewN | apply Kd.V_drew)); exact HO_266003.out) hb); have n1_ := Aside0.mk (Kd.V_below (by (with_reducible repeat (first | apply Kd.V_alloc | apply Kd.V_drewN | apply Kd.V_drew)); exact HO_266004.out) hb); have n2_ := Aside0.mk (Kd.V_below (by (with_reducible repeat (first | apply Kd.V_alloc | apply Kd.V_drewN | apply Kd.V_drew)); exact HO_267003.out) hb); have n3_ := Aside0.mk (Kd.V_below (by (with_reducible repeat (first | apply Kd.V_alloc | apply Kd.V_drewN | apply Kd.V_drew)); exact HO_267004.out) hb); have n4_ := Aside0.mk (Kd.V_below (by (with_reducible repeat (first | apply Kd.V_alloc | apply Kd.V_drewN | apply Kd.V_drew)); exact HO_268003.out) hb); have n5_ := Aside0.mk (Kd.V_below (by (with_reducible repeat (first | apply Kd.V_alloc | apply Kd.V_drewN | apply Kd.V_drew)); exact HO_268004.out) hb); have n6_ := Aside0.mk (blk_below (g := gb265) (o := .cells #[.int .i64 a0_0, .int .i64 a0_1, .string a0_2, .slice A0_3 l0_3.length c0_3, .slice A0_4 l0_4.length c0_4] 30 (0, 0)) (by (with_reducible repeat (first | refine blk_drewN ?_ _ | refine blk_drew ?_ | refine blk_alloc ?_ _)); exact BK265.out) hb); have n7_ := Aside0.mk (blk_below (g := gb266) (o := .cells #[.int .i64 a1_0, .int .i64 a1_1, .string a1_2, .slice A1_3 l1_3.length c1_3, .slice A1_4 l1_4.length c1_4] 30 (0, 0)) (by (with_reducible repeat (first | refine blk_drewN ?_ _ | refine blk_drew ?_ | refine blk_alloc ?_ _)); exact BK266.out) hb); have n8_ := Aside0.mk (blk_below (g := gb267) (o := .cells #[.int .i64 a2_0, .int .i64 a2_1, .string a2_2, .slice A2_3 l2_3.length c2_3, .slice A2_4 l2_4.length c2_4] 30 (0, 0)) (by (with_reducible repeat (first | refine blk_drewN ?_ _ | refine blk_drew ?_ | refine blk_alloc ?_ _)); exact BK267.out) hb); have n9_ := Aside0.mk (below_step (by repeat (first | (with_reducible first | exact HB.out | apply below_alloc | apply pw_below_drewN | apply below_drew1 | refine below_set ?_ GE265.out | refine below_set ?_ GE266.out | refine below_set ?_ GE267.out) | exact HB.out)) hb); clear HO_266003; clear HO_266004; clear HO_267003; clear HO_267004; clear HO_268003; clear HO_268004; clear BK265; clear BK266; clear BK267; clear HB; have HO_266003 := n0_; have HO_266004 := n1_; have HO_267003 := n2_; have HO_267004 := n3_; have HO_268003 := n4_; have HO_268004 := n5_; have BK265 := n6_; have BK266 := n7_; have BK267 := n8_; have HB := n9_; clear n0_ n1_ n2_ n3_ n4_ n5_ n6_ n7_ n8_ n9_; (try clear hb); (try clear hb2); (try clear hk); (try clear hi); have hcz95_0 : w94.cell? ⟨gb265, 0, none⟩ = some (.int .i64 a0_0) := (blk_cell BK265.out 0).trans rfl; have hcz95_1 : w94.cell? ⟨gb265, 1, none⟩ = some (.int .i64 a0_1) := (blk_cell BK265.out 1).trans rfl; have hcz95_2 : w94.cell? ⟨gb265, 2, none⟩ = some (.string a0_2) := (blk_cell BK265.out 2).trans rfl; have hcz95_3 : w94.cell? ⟨gb265, 3, none⟩ = some (.slice A0_3 l0_3.length c0_3) := (blk_cell BK265.out 3).trans rfl; have hcz95_4 : w94.cell? ⟨gb265, 4, none⟩ = some (.slice A0_4 l0_4.length c0_4) := (blk_cell BK265.out 4).trans rfl; have hfz95_0 := blk_frozen BK265.out 0; have hfz95_1 := blk_frozen BK265.out 1; have hfz95_2 := blk_frozen BK265.out 2; have hfz95_3 := blk_frozen BK265.out 3; have hfz95_4 := blk_frozen BK265.out 4; have hcz96_0 : w94.cell? ⟨gb266, 0, none⟩ = some (.int .i64 a1_0) := (blk_cell BK266.out 0).trans rfl; have hcz96_1 : w94.cell? ⟨gb266, 1, none⟩ = some (.int .i64 a1_1) := (blk_cell BK266.out 1).trans rfl; have hcz96_2 : w94.cell? ⟨gb266, 2, none⟩ = some (.string a1_2) := (blk_cell BK266.out 2).trans rfl; have hcz96_3 : w94.cell? ⟨gb266, 3, none⟩ = some (.slice A1_3 l1_3.length c1_3) := (blk_cell BK266.out 3).trans rfl; have hcz96_4 : w94.cell? ⟨gb266, 4, none⟩ = some (.slice A1_4 l1_4.length c1_4) := (blk_cell BK266.out 4).trans rfl; have hfz96_0 := blk_frozen BK266.out 0; have hfz96_1 := blk_frozen BK266.out 1; have hfz96_2 := blk_frozen BK266.out 2; have hfz96_3 := blk_frozen BK266.out 3; have hfz96_4 := blk_frozen BK266.out 4) | (go_at_call 15; (with_reducible refine (munimentref01_Same.calls kj3 a0_0 a0_1 a0_2 _ _ l0_3 _ _ l0_4 a1_0 a1_1 a1_2 _ _ l1_3 _ _ l1_4 t281 _ ?side1 ?side2 ?side3 ?side4 ?side5 ?side6 ?side7 ?side8 A87.out).mono ?_); (case side1 => repeat (first | exact (Kd.V_reads' HO_266003.out).2.2 | (with_reducible refine Kd.C_alloc ?_ _) | (with_reducible refine Kd.C_drewN ?_ _) | (with_reducible refine Kd.C_drew ?_))); (case side2 => exact (Kd.V_reads' HO_266003.out).2.1); (case side3 => repeat (first | exact (Kd.V_reads' HO_266004.out).2.2 | (with_reducible refine Kd.C_alloc ?_ _) | (with_reducible refine Kd.C_drewN ?_ _) | (with_reducible refine Kd.C_drew ?_))); (case side4 => exact (Kd.V_reads' HO_266004.out).2.1); (case side5 => repeat (first | exact (Kd.V_reads' HO_267003.out).2.2 | (with_reducible refine Kd.C_alloc ?_ _) | (with_reducible refine Kd.C_drewN ?_ _) | (with_reducible refine Kd.C_drew ?_))); (case side6 => exact (Kd.V_reads' HO_267003.out).2.1); (case side7 => repeat (first | exact (Kd.V_reads' HO_267004.out).2.2 | (with_reducible refine Kd.C_alloc ?_ _) | (with_reducible refine Kd.C_drewN ?_ _) | (with_reducible refine Kd.C_drew ?_))); (case side8 => exact (Kd.V_reads' HO_267004.out).2.1); rintro e w97 ⟨rfl, hb⟩; have n0_ := Aside0.mk (Kd.V_below (by (with_reducible repeat (first | apply Kd.V_alloc | apply Kd.V_drewN | apply Kd.V_drew)); exact HO_266003.out) hb); have n1_ := Aside0.mk (Kd.V_below (by (with_reducible repeat (first | apply Kd.V_alloc | apply Kd.V_drewN | apply Kd.V_drew)); exact HO_266004.out) hb); have n2_ := Aside0.mk (Kd.V_below (by (with_reducible repeat (first | apply Kd.V_alloc | apply Kd.V_drewN | apply Kd.V_drew)); exact HO_267003.out) hb); have n3_ := Aside0.mk (Kd.V_below (by (with_reducible repeat (first | apply Kd.V_alloc | apply Kd.V_drewN | apply Kd.V_drew)); exact HO_267004.out) hb); have n4_ := Aside0.mk (Kd.V_below (by (with_reducible repeat (first | apply Kd.V_alloc | apply Kd.V_drewN | apply Kd.V_drew)); exact HO_268003.out) hb); have n5_ := Aside0.mk (Kd.V_below (by (with_reducible repeat (first | apply Kd.V_alloc | apply Kd.V_drewN | apply Kd.V_drew)); exact HO_268004.out) hb); have n6_ := Aside0.mk (blk_below (g := gb265) (o := .cells #[.int .i64 a0_0, .int .i64 a0_1, .string a0_2, .slice A0_3 l0_3.length c0_3, .slice A0_4 l0_4.length c0_4] 30 (0, 0)) (by (with_reducible repeat (first | refine blk_drewN ?_ _ | refine blk_drew ?_ | refine blk_alloc ?_ _)); exact BK265.out) hb); have n7_ := Aside0.mk (blk_below (g := gb266) (o := .cells #[.int .i64 a1_0, .int .i64 a1_1, .string a1_2, .slice A1_3 l1_3.length c1_3, .slice A1_4 l1_4.length c1_4] 30 (0, 0)) (by (with_reducible repeat (first | refine blk_drewN ?_ _ | refine blk_drew ?_ | refine blk_alloc ?_ _)); exact BK266.out) hb); have n8_ := Aside0.mk (blk_below (g := gb267) (o := .cells #[.int .i64 a2_0, .int .i64 a2_1, .string a2_2, .slice A2_3 l2_3.length c2_3, .slice A2_4 l2_4.length c2_4] 30 (0, 0)) (by (with_reducible repeat (first | refine blk_drewN ?_ _ | refine blk_drew ?_ | refine blk_alloc ?_ _)); exact BK267.out) hb); have n9_ := Aside0.mk (below_step (by repeat (first | (with_reducible first | exact HB.out | apply below_alloc | apply pw_below_drewN | apply below_drew1 | refine below_set ?_ GE265.out | refine below_set ?_ GE266.out | refine below_set ?_ GE267.out) | exact HB.out)) hb); clear HO_266003; clear HO_266004; clear HO_267003; clear HO_267004; clear HO_268003; clear HO_268004; clear BK265; clear BK266; clear BK267; clear HB; have HO_266003 := n0_; have HO_266004 := n1_; have HO_267003 := n2_; have HO_267004 := n3_; have HO_268003 := n4_; have HO_268004 := n5_; have BK265 := n6_; have BK266 := n7_; have BK267 := n8_; have HB := n9_; clear n0_ n1_ n2_ n3_ n4_ n5_ n6_ n7_ n8_ n9_; (try clear hb); (try clear hb2); (try clear hk); (try clear hi)))
              go_meet
              case rel => exact ⟨_, (true), (by first | rfl | (simp; done) | (simp [*]; done)), H', ⟨by have := HJ3.out; first | omega | exact Nat.le_refl _⟩, ⟨by (with_reducible repeat (first | apply Kd.V_alloc | apply Kd.V_drewN | apply Kd.V_drew)); exact HO_266003.out⟩, ⟨by (with_reducible repeat (first | apply Kd.V_alloc | apply Kd.V_drewN | apply Kd.V_drew)); exact HO_266004.out⟩, ⟨by (with_reducible repeat (first | apply Kd.V_alloc | apply Kd.V_drewN | apply Kd.V_drew)); exact HO_267003.out⟩, ⟨by (with_reducible repeat (first | apply Kd.V_alloc | apply Kd.V_drewN | apply Kd.V_drew)); exact HO_267004.out⟩, ⟨by (with_reducible repeat (first | apply Kd.V_alloc | apply Kd.V_drewN | apply Kd.V_drew)); exact HO_268003.out⟩, ⟨by (with_reducible repeat (first | apply Kd.V_alloc | apply Kd.V_drewN | apply Kd.V_drew)); exact HO_268004.out⟩, ⟨by (with_reducible repeat (first | refine blk_drewN ?_ _ | refine blk_drew ?_ | refine blk_alloc ?_ _)); exact BK265.out⟩, ⟨by (with_reducible repeat (first | refine blk_drewN ?_ _ | refine blk_drew ?_ | refine blk_alloc ?_ _)); exact BK266.out⟩, ⟨by (with_reducible repeat (first | refine blk_drewN ?_ _ | refine blk_drew ?_ | refine blk_alloc ?_ _)); exact BK267.out⟩, ⟨by repeat (first | (with_reducible first | exact HB.out | apply below_alloc | apply pw_below_drewN | apply below_drew1 | refine below_set ?_ GE265.out | refine below_set ?_ GE266.out | refine below_set ?_ GE267.out) | exact HB.out)⟩⟩
            · rw [if_neg c88] at H
              have c88b0 : ((t277 == 0) != t281) = false := by simpa using c88
              (try (have c88b1 : decide ((t277 == 0) = t281) = true := by simpa using c88))
              (try (have c88b2 : ((t277 == 0) == t281) = true := by simpa using c88))
              clear c88
              replace H := Option.bind_eq_some_iff.mp H
              obtain ⟨t282, A980, H⟩ := H
              replace H : (munimentlaw03_OrderTotal.j1 kj3 t277 t278 t279 (t282 != 0)) = some r := H
              have A98 := Aside0.mk A980
              clear A980
              have H' := Aside0.mk H
              clear H
              have hnb99 := NB266_265.out
              have hnc99 := NB265_266.out
              have hnb100 := NB266_267.out
              have hnc100 := NB267_266.out
              have hcz101_0 : w84.cell? ⟨gb266, 0, none⟩ = some (.int .i64 a1_0) := (blk_cell BK266.out 0).trans rfl
              have hcz101_1 : w84.cell? ⟨gb266, 1, none⟩ = some (.int .i64 a1_1) := (blk_cell BK266.out 1).trans rfl
              have hcz101_2 : w84.cell? ⟨gb266, 2, none⟩ = some (.string a1_2) := (blk_cell BK266.out 2).trans rfl
              have hcz101_3 : w84.cell? ⟨gb266, 3, none⟩ = some (.slice A1_3 l1_3.length c1_3) := (blk_cell BK266.out 3).trans rfl
              have hcz101_4 : w84.cell? ⟨gb266, 4, none⟩ = some (.slice A1_4 l1_4.length c1_4) := (blk_cell BK266.out 4).trans rfl
              have hfz101_0 := blk_frozen BK266.out 0
              have hfz101_1 := blk_frozen BK266.out 1
              have hfz101_2 := blk_frozen BK266.out 2
              have hfz101_3 := blk_frozen BK266.out 3
              have hfz101_4 := blk_frozen BK266.out 4
              have hnb102 := NB265_267.out
              have hnc102 := NB267_265.out
              have hcz103_0 : w84.cell? ⟨gb265, 0, none⟩ = some (.int .i64 a0_0) := (blk_cell BK265.out 0).trans rfl
              have hcz103_1 : w84.cell? ⟨gb265, 1, none⟩ = some (.int .i64 a0_1) := (blk_cell BK265.out 1).trans rfl
              have hcz103_2 : w84.cell? ⟨gb265, 2, none⟩ = some (.string a0_2) := (blk_cell BK265.out 2).trans rfl
              have hcz103_3 : w84.cell? ⟨gb265, 3, none⟩ = some (.slice A0_3 l0_3.length c0_3) := (blk_cell BK265.out 3).trans rfl
              have hcz103_4 : w84.cell? ⟨gb265, 4, none⟩ = some (.slice A0_4 l0_4.length c0_4) := (blk_cell BK265.out 4).trans rfl
              have hfz103_0 := blk_frozen BK265.out 0
              have hfz103_1 := blk_frozen BK265.out 1
              have hfz103_2 := blk_frozen BK265.out 2
              have hfz103_3 := blk_frozen BK265.out 3
              have hfz103_4 := blk_frozen BK265.out 4
              go_wp2_with (first | ((with_reducible refine gate_callee (f := 17) rfl ?_); refine goesL_ (some 47) rfl rfl Tryd.func17 (by kernel_rfl) rfl #[.agg #[.int .i64 a1_0, .int .i64 a1_1, .string a1_2, .slice A1_3 l1_3.length c1_3, .slice A1_4 l1_4.length c1_4], .agg #[.int .i64 a0_0, .int .i64 a0_1, .string a0_2, .slice A0_3 l0_3.length c0_3, .slice A0_4 l0_4.length c0_4]] rfl (by (try simp only [List.map_toArray, List.map_cons, List.map_nil]); first | done | rfl | (simp only [List.length_drop, List.length_take]; rfl)) ?_; (with_reducible refine (order_Compare.calls kj3 a1_0 a1_1 a1_2 _ _ l1_3 _ _ l1_4 a0_0 a0_1 a0_2 _ _ l0_3 _ _ l0_4 t280 _ ?side1 ?side2 ?side3 ?side4 ?side5 ?side6 ?side7 ?side8 ?side9 A85.out).mono ?_); (case side1 => repeat (first | exact (Kd.V_reads' HO_267003.out).2.2 | (with_reducible refine Kd.C_alloc ?_ _) | (with_reducible refine Kd.C_drewN ?_ _) | (with_reducible refine Kd.C_drew ?_))); (case side2 => exact (Kd.V_reads' HO_267003.out).2.1); (case side3 => repeat (first | exact (Kd.V_reads' HO_267004.out).2.2 | (with_reducible refine Kd.C_alloc ?_ _) | (with_reducible refine Kd.C_drewN ?_ _) | (with_reducible refine Kd.C_drew ?_))); (case side4 => exact (Kd.V_reads' HO_267004.out).2.1); (case side5 => repeat (first | exact (Kd.V_reads' HO_266003.out).2.2 | (with_reducible refine Kd.C_alloc ?_ _) | (with_reducible refine Kd.C_drewN ?_ _) | (with_reducible refine Kd.C_drew ?_))); (case side6 => exact (Kd.V_reads' HO_266003.out).2.1); (case side7 => repeat (first | exact (Kd.V_reads' HO_266004.out).2.2 | (with_reducible refine Kd.C_alloc ?_ _) | (with_reducible refine Kd.C_drewN ?_ _) | (with_reducible refine Kd.C_drew ?_))); (case side8 => exact (Kd.V_reads' HO_266004.out).2.1); (case side9 => first | exact HT.out | (refine tabs_below HT.out ?_; repeat (first | exact HB.out | (with_reducible first | apply below_alloc | apply pw_below_drewN | apply below_drew1 | exact Below.refl _ _) | (refine below_set ?_ (Aside0.out (by assumption)))))); rintro e w104 ⟨rfl, hb⟩; refine ⟨_, rfl, ?_⟩; have n0_ := Aside0.mk (Kd.V_below (by (with_reducible repeat (first | apply Kd.V_alloc | apply Kd.V_drewN | apply Kd.V_drew)); exact HO_266003.out) hb); have n1_ := Aside0.mk (Kd.V_below (by (with_reducible repeat (first | apply Kd.V_alloc | apply Kd.V_drewN | apply Kd.V_drew)); exact HO_266004.out) hb); have n2_ := Aside0.mk (Kd.V_below (by (with_reducible repeat (first | apply Kd.V_alloc | apply Kd.V_drewN | apply Kd.V_drew)); exact HO_267003.out) hb); have n3_ := Aside0.mk (Kd.V_below (by (with_reducible repeat (first | apply Kd.V_alloc | apply Kd.V_drewN | apply Kd.V_drew)); exact HO_267004.out) hb); have n4_ := Aside0.mk (Kd.V_below (by (with_reducible repeat (first | apply Kd.V_alloc | apply Kd.V_drewN | apply Kd.V_drew)); exact HO_268003.out) hb); have n5_ := Aside0.mk (Kd.V_below (by (with_reducible repeat (first | apply Kd.V_alloc | apply Kd.V_drewN | apply Kd.V_drew)); exact HO_268004.out) hb); have n6_ := Aside0.mk (blk_below (g := gb265) (o := .cells #[.int .i64 a0_0, .int .i64 a0_1, .string a0_2, .slice A0_3 l0_3.length c0_3, .slice A0_4 l0_4.length c0_4] 30 (0, 0)) (by (with_reducible repeat (first | refine blk_drewN ?_ _ | refine blk_drew ?_ | refine blk_alloc ?_ _)); exact BK265.out) hb); have n7_ := Aside0.mk (blk_below (g := gb266) (o := .cells #[.int .i64 a1_0, .int .i64 a1_1, .string a1_2, .slice A1_3 l1_3.length c1_3, .slice A1_4 l1_4.length c1_4] 30 (0, 0)) (by (with_reducible repeat (first | refine blk_drewN ?_ _ | refine blk_drew ?_ | refine blk_alloc ?_ _)); exact BK266.out) hb); have n8_ := Aside0.mk (blk_below (g := gb267) (o := .cells #[.int .i64 a2_0, .int .i64 a2_1, .string a2_2, .slice A2_3 l2_3.length c2_3, .slice A2_4 l2_4.length c2_4] 30 (0, 0)) (by (with_reducible repeat (first | refine blk_drewN ?_ _ | refine blk_drew ?_ | refine blk_alloc ?_ _)); exact BK267.out) hb); have n9_ := Aside0.mk (below_step (by repeat (first | (with_reducible first | exact HB.out | apply below_alloc | apply pw_below_drewN | apply below_drew1 | refine below_set ?_ GE265.out | refine below_set ?_ GE266.out | refine below_set ?_ GE267.out) | exact HB.out)) hb); clear HO_266003; clear HO_266004; clear HO_267003; clear HO_267004; clear HO_268003; clear HO_268004; clear BK265; clear BK266; clear BK267; clear HB; have HO_266003 := n0_; have HO_266004 := n1_; have HO_267003 := n2_; have HO_267004 := n3_; have HO_268003 := n4_; have HO_268004 := n5_; have BK265 := n6_; have BK266 := n7_; have BK267 := n8_; have HB := n9_; clear n0_ n1_ n2_ n3_ n4_ n5_ n6_ n7_ n8_ n9_; (try clear hb); (try clear hb2); (try clear hk); (try clear hi); have hcz105_0 : w104.cell? ⟨gb265, 0, none⟩ = some (.int .i64 a0_0) := (blk_cell BK265.out 0).trans rfl; have hcz105_1 : w104.cell? ⟨gb265, 1, none⟩ = some (.int .i64 a0_1) := (blk_cell BK265.out 1).trans rfl; have hcz105_2 : w104.cell? ⟨gb265, 2, none⟩ = some (.string a0_2) := (blk_cell BK265.out 2).trans rfl; have hcz105_3 : w104.cell? ⟨gb265, 3, none⟩ = some (.slice A0_3 l0_3.length c0_3) := (blk_cell BK265.out 3).trans rfl; have hcz105_4 : w104.cell? ⟨gb265, 4, none⟩ = some (.slice A0_4 l0_4.length c0_4) := (blk_cell BK265.out 4).trans rfl; have hfz105_0 := blk_frozen BK265.out 0; have hfz105_1 := blk_frozen BK265.out 1; have hfz105_2 := blk_frozen BK265.out 2; have hfz105_3 := blk_frozen BK265.out 3; have hfz105_4 := blk_frozen BK265.out 4; have hcz106_0 : w104.cell? ⟨gb266, 0, none⟩ = some (.int .i64 a1_0) := (blk_cell BK266.out 0).trans rfl; have hcz106_1 : w104.cell? ⟨gb266, 1, none⟩ = some (.int .i64 a1_1) := (blk_cell BK266.out 1).trans rfl; have hcz106_2 : w104.cell? ⟨gb266, 2, none⟩ = some (.string a1_2) := (blk_cell BK266.out 2).trans rfl; have hcz106_3 : w104.cell? ⟨gb266, 3, none⟩ = some (.slice A1_3 l1_3.length c1_3) := (blk_cell BK266.out 3).trans rfl; have hcz106_4 : w104.cell? ⟨gb266, 4, none⟩ = some (.slice A1_4 l1_4.length c1_4) := (blk_cell BK266.out 4).trans rfl; have hfz106_0 := blk_frozen BK266.out 0; have hfz106_1 := blk_frozen BK266.out 1; have hfz106_2 := blk_frozen BK266.out 2; have hfz106_3 := blk_frozen BK266.out 3; have hfz106_4 := blk_frozen BK266.out 4) | (go_at_call 15; (with_reducible refine (munimentref01_Same.calls kj3 a0_0 a0_1 a0_2 _ _ l0_3 _ _ l0_4 a1_0 a1_1 a1_2 _ _ l1_3 _ _ l1_4 t281 _ ?side1 ?side2 ?side3 ?side4 ?side5 ?side6 ?side7 ?side8 A87.out).mono ?_); (case side1 => repeat (first | exact (Kd.V_reads' HO_266003.out).2.2 | (with_reducible refine Kd.C_alloc ?_ _) | (with_reducible refine Kd.C_drewN ?_ _) | (with_reducible refine Kd.C_drew ?_))); (case side2 => exact (Kd.V_reads' HO_266003.out).2.1); (case side3 => repeat (first | exact (Kd.V_reads' HO_266004.out).2.2 | (with_reducible refine Kd.C_alloc ?_ _) | (with_reducible refine Kd.C_drewN ?_ _) | (with_reducible refine Kd.C_drew ?_))); (case side4 => exact (Kd.V_reads' HO_266004.out).2.1); (case side5 => repeat (first | exact (Kd.V_reads' HO_267003.out).2.2 | (with_reducible refine Kd.C_alloc ?_ _) | (with_reducible refine Kd.C_drewN ?_ _) | (with_reducible refine Kd.C_drew ?_))); (case side6 => exact (Kd.V_reads' HO_267003.out).2.1); (case side7 => repeat (first | exact (Kd.V_reads' HO_267004.out).2.2 | (with_reducible refine Kd.C_alloc ?_ _) | (with_reducible refine Kd.C_drewN ?_ _) | (with_reducible refine Kd.C_drew ?_))); (case side8 => exact (Kd.V_reads' HO_267004.out).2.1); rintro e w107 ⟨rfl, hb⟩; have n0_ := Aside0.mk (Kd.V_below (by (with_reducible repeat (first | apply Kd.V_alloc | apply Kd.V_drewN | apply Kd.V_drew)); exact HO_266003.out) hb); have n1_ := Aside0.mk (Kd.V_below (by (with_reducible repeat (first | apply Kd.V_alloc | apply Kd.V_drewN | apply Kd.V_drew)); exact HO_266004.out) hb); have n2_ := Aside0.mk (Kd.V_below (by (with_reducible repeat (first | apply Kd.V_alloc | apply Kd.V_drewN | apply Kd.V_drew)); exact HO_267003.out) hb); have n3_ := Aside0.mk (Kd.V_below (by (with_reducible repeat (first | apply Kd.V_alloc | apply Kd.V_drewN | apply Kd.V_drew)); exact HO_267004.out) hb); have n4_ := Aside0.mk (Kd.V_below (by (with_reducible repeat (first | apply Kd.V_alloc | apply Kd.V_drewN | apply Kd.V_drew)); exact HO_268003.out) hb); have n5_ := Aside0.mk (Kd.V_below (by (with_reducible repeat (first | apply Kd.V_alloc | apply Kd.V_drewN | apply Kd.V_drew)); exact HO_268004.out) hb); have n6_ := Aside0.mk (blk_below (g := gb265) (o := .cells #[.int .i64 a0_0, .int .i64 a0_1, .string a0_2, .slice A0_3 l0_3.length c0_3, .slice A0_4 l0_4.length c0_4] 30 (0, 0)) (by (with_reducible repeat (first | refine blk_drewN ?_ _ | refine blk_drew ?_ | refine blk_alloc ?_ _)); exact BK265.out) hb); have n7_ := Aside0.mk (blk_below (g := gb266) (o := .cells #[.int .i64 a1_0, .int .i64 a1_1, .string a1_2, .slice A1_3 l1_3.length c1_3, .slice A1_4 l1_4.length c1_4] 30 (0, 0)) (by (with_reducible repeat (first | refine blk_drewN ?_ _ | refine blk_drew ?_ | refine blk_alloc ?_ _)); exact BK266.out) hb); have n8_ := Aside0.mk (blk_below (g := gb267) (o := .cells #[.int .i64 a2_0, .int .i64 a2_1, .string a2_2, .slice A2_3 l2_3.length c2_3, .slice A2_4 l2_4.length c2_4] 30 (0, 0)) (by (with_reducible repeat (first | refine blk_drewN ?_ _ | refine blk_drew ?_ | refine blk_alloc ?_ _)); exact BK267.out) hb); have n9_ := Aside0.mk (below_step (by repeat (first | (with_reducible first | exact HB.out | apply below_alloc | apply pw_below_drewN | apply below_drew1 | refine below_set ?_ GE265.out | refine below_set ?_ GE266.out | refine below_set ?_ GE267.out) | exact HB.out)) hb); clear HO_266003; clear HO_266004; clear HO_267003; clear HO_267004; clear HO_268003; clear HO_268004; clear BK265; clear BK266; clear BK267; clear HB; have HO_266003 := n0_; have HO_266004 := n1_; have HO_267003 := n2_; have HO_267004 := n3_; have HO_268003 := n4_; have HO_268004 := n5_; have BK265 := n6_; have BK266 := n7_; have BK267 := n8_; have HB := n9_; clear n0_ n1_ n2_ n3_ n4_ n5_ n6_ n7_ n8_ n9_; (try clear hb); (try clear hb2); (try clear hk); (try clear hi); have hcz108_0 : w107.cell? ⟨gb265, 0, none⟩ = some (.int .i64 a0_0) := (blk_cell BK265.out 0).trans rfl; have hcz108_1 : w107.cell? ⟨gb265, 1, none⟩ = some (.int .i64 a0_1) := (blk_cell BK265.out 1).trans rfl; have hcz108_2 : w107.cell? ⟨gb265, 2, none⟩ = some (.string a0_2) := (blk_cell BK265.out 2).trans rfl; have hcz108_3 : w107.cell? ⟨gb265, 3, none⟩ = some (.slice A0_3 l0_3.length c0_3) := (blk_cell BK265.out 3).trans rfl; have hcz108_4 : w107.cell? ⟨gb265, 4, none⟩ = some (.slice A0_4 l0_4.length c0_4) := (blk_cell BK265.out 4).trans rfl; have hfz108_0 := blk_frozen BK265.out 0; have hfz108_1 := blk_frozen BK265.out 1; have hfz108_2 := blk_frozen BK265.out 2; have hfz108_3 := blk_frozen BK265.out 3; have hfz108_4 := blk_frozen BK265.out 4) | (go_at_call 17; (with_reducible refine (order_Compare.calls kj3 a0_0 a0_1 a0_2 _ _ l0_3 _ _ l0_4 a0_0 a0_1 a0_2 _ _ l0_3 _ _ l0_4 t282 _ ?side1 ?side2 ?side3 ?side4 ?side5 ?side6 ?side7 ?side8 ?side9 A98.out).mono ?_); (case side1 => repeat (first | exact (Kd.V_reads' HO_266003.out).2.2 | (with_reducible refine Kd.C_alloc ?_ _) | (with_reducible refine Kd.C_drewN ?_ _) | (with_reducible refine Kd.C_drew ?_))); (case side2 => exact (Kd.V_reads' HO_266003.out).2.1); (case side3 => repeat (first | exact (Kd.V_reads' HO_266004.out).2.2 | (with_reducible refine Kd.C_alloc ?_ _) | (with_reducible refine Kd.C_drewN ?_ _) | (with_reducible refine Kd.C_drew ?_))); (case side4 => exact (Kd.V_reads' HO_266004.out).2.1); (case side5 => repeat (first | exact (Kd.V_reads' HO_266003.out).2.2 | (with_reducible refine Kd.C_alloc ?_ _) | (with_reducible refine Kd.C_drewN ?_ _) | (with_reducible refine Kd.C_drew ?_))); (case side6 => exact (Kd.V_reads' HO_266003.out).2.1); (case side7 => repeat (first | exact (Kd.V_reads' HO_266004.out).2.2 | (with_reducible refine Kd.C_alloc ?_ _) | (with_reducible refine Kd.C_drewN ?_ _) | (with_reducible refine Kd.C_drew ?_))); (case side8 => exact (Kd.V_reads' HO_266004.out).2.1); (case side9 => first | exact HT.out | (refine tabs_below HT.out ?_; repeat (first | exact HB.out | (with_reducible first | apply below_alloc | apply pw_below_drewN | apply below_drew1 | exact Below.refl _ _) | (refine below_set ?_ (Aside0.out (by assumption)))))); rintro e w109 ⟨rfl, hb⟩; have n0_ := Aside0.mk (Kd.V_below (by (with_reducible repeat (first | apply Kd.V_alloc | apply Kd.V_drewN | apply Kd.V_drew)); exact HO_266003.out) hb); have n1_ := Aside0.mk (Kd.V_below (by (with_reducible repeat (first | apply Kd.V_alloc | apply Kd.V_drewN | apply Kd.V_drew)); exact HO_266004.out) hb); have n2_ := Aside0.mk (Kd.V_below (by (with_reducible repeat (first | apply Kd.V_alloc | apply Kd.V_drewN | apply Kd.V_drew)); exact HO_267003.out) hb); have n3_ := Aside0.mk (Kd.V_below (by (with_reducible repeat (first | apply Kd.V_alloc | apply Kd.V_drewN | apply Kd.V_drew)); exact HO_267004.out) hb); have n4_ := Aside0.mk (Kd.V_below (by (with_reducible repeat (first | apply Kd.V_alloc | apply Kd.V_drewN | apply Kd.V_drew)); exact HO_268003.out) hb); have n5_ := Aside0.mk (Kd.V_below (by (with_reducible repeat (first | apply Kd.V_alloc | apply Kd.V_drewN | apply Kd.V_drew)); exact HO_268004.out) hb); have n6_ := Aside0.mk (blk_below (g := gb265) (o := .cells #[.int .i64 a0_0, .int .i64 a0_1, .string a0_2, .slice A0_3 l0_3.length c0_3, .slice A0_4 l0_4.length c0_4] 30 (0, 0)) (by (with_reducible repeat (first | refine blk_drewN ?_ _ | refine blk_drew ?_ | refine blk_alloc ?_ _)); exact BK265.out) hb); have n7_ := Aside0.mk (blk_below (g := gb266) (o := .cells #[.int .i64 a1_0, .int .i64 a1_1, .string a1_2, .slice A1_3 l1_3.length c1_3, .slice A1_4 l1_4.length c1_4] 30 (0, 0)) (by (with_reducible repeat (first | refine blk_drewN ?_ _ | refine blk_drew ?_ | refine blk_alloc ?_ _)); exact BK266.out) hb); have n8_ := Aside0.mk (blk_below (g := gb267) (o := .cells #[.int .i64 a2_0, .int .i64 a2_1, .string a2_2, .slice A2_3 l2_3.length c2_3, .slice A2_4 l2_4.length c2_4] 30 (0, 0)) (by (with_reducible repeat (first | refine blk_drewN ?_ _ | refine blk_drew ?_ | refine blk_alloc ?_ _)); exact BK267.out) hb); have n9_ := Aside0.mk (below_step (by repeat (first | (with_reducible first | exact HB.out | apply below_alloc | apply pw_below_drewN | apply below_drew1 | refine below_set ?_ GE265.out | refine below_set ?_ GE266.out | refine below_set ?_ GE267.out) | exact HB.out)) hb); clear HO_266003; clear HO_266004; clear HO_267003; clear HO_267004; clear HO_268003; clear HO_268004; clear BK265; clear BK266; clear BK267; clear HB; have HO_266003 := n0_; have HO_266004 := n1_; have HO_267003 := n2_; have HO_267004 := n3_; have HO_268003 := n4_; have HO_268004 := n5_; have BK265 := n6_; have BK266 := n7_; have BK267 := n8_; have HB := n9_; clear n0_ n1_ n2_ n3_ n4_ n5_ n6_ n7_ n8_ n9_; (try clear hb); (try clear hb2); (try clear hk); (try clear hi)))
              go_meet
              case rel => exact ⟨_, ((t282 != 0)), (by first | rfl | (simp; done) | (simp [*]; done)), H', ⟨by have := HJ3.out; first | omega | exact Nat.le_refl _⟩, ⟨by (with_reducible repeat (first | apply Kd.V_alloc | apply Kd.V_drewN | apply Kd.V_drew)); exact HO_266003.out⟩, ⟨by (with_reducible repeat (first | apply Kd.V_alloc | apply Kd.V_drewN | apply Kd.V_drew)); exact HO_266004.out⟩, ⟨by (with_reducible repeat (first | apply Kd.V_alloc | apply Kd.V_drewN | apply Kd.V_drew)); exact HO_267003.out⟩, ⟨by (with_reducible repeat (first | apply Kd.V_alloc | apply Kd.V_drewN | apply Kd.V_drew)); exact HO_267004.out⟩, ⟨by (with_reducible repeat (first | apply Kd.V_alloc | apply Kd.V_drewN | apply Kd.V_drew)); exact HO_268003.out⟩, ⟨by (with_reducible repeat (first | apply Kd.V_alloc | apply Kd.V_drewN | apply Kd.V_drew)); exact HO_268004.out⟩, ⟨by (with_reducible repeat (first | refine blk_drewN ?_ _ | refine blk_drew ?_ | refine blk_alloc ?_ _)); exact BK265.out⟩, ⟨by (with_reducible repeat (first | refine blk_drewN ?_ _ | refine blk_drew ?_ | refine blk_alloc ?_ _)); exact BK266.out⟩, ⟨by (with_reducible repeat (first | refine blk_drewN ?_ _ | refine blk_drew ?_ | refine blk_alloc ?_ _)); exact BK267.out⟩, ⟨by repeat (first | (with_reducible first | exact HB.out | apply below_alloc | apply pw_below_drewN | apply below_drew1 | refine below_set ?_ GE265.out | refine below_set ?_ GE266.out | refine below_set ?_ GE267.out) | exact HB.out)⟩⟩
          · rw [if_neg c86] at H
            have c86b0 : (t280 == (wrap64 (-t277))) = false := beq_eq_false_iff_ne.mpr c86
            have c86b1 : (t280 != (wrap64 (-t277))) = true := bne_iff_ne.mpr c86
            (first | rw [c86b0] | (simp only [i64_w, i32_w]; rw [c86b0]) | skip)
            have H' := Aside0.mk H
            clear H
            have hnb110 := NB266_265.out
            have hnc110 := NB265_266.out
            have hnb111 := NB266_267.out
            have hnc111 := NB267_266.out
            have hcz112_0 : w84.cell? ⟨gb266, 0, none⟩ = some (.int .i64 a1_0) := (blk_cell BK266.out 0).trans rfl
            have hcz112_1 : w84.cell? ⟨gb266, 1, none⟩ = some (.int .i64 a1_1) := (blk_cell BK266.out 1).trans rfl
            have hcz112_2 : w84.cell? ⟨gb266, 2, none⟩ = some (.string a1_2) := (blk_cell BK266.out 2).trans rfl
            have hcz112_3 : w84.cell? ⟨gb266, 3, none⟩ = some (.slice A1_3 l1_3.length c1_3) := (blk_cell BK266.out 3).trans rfl
            have hcz112_4 : w84.cell? ⟨gb266, 4, none⟩ = some (.slice A1_4 l1_4.length c1_4) := (blk_cell BK266.out 4).trans rfl
            have hfz112_0 := blk_frozen BK266.out 0
            have hfz112_1 := blk_frozen BK266.out 1
            have hfz112_2 := blk_frozen BK266.out 2
            have hfz112_3 := blk_frozen BK266.out 3
            have hfz112_4 := blk_frozen BK266.out 4
            have hnb113 := NB265_267.out
            have hnc113 := NB267_265.out
            have hcz114_0 : w84.cell? ⟨gb265, 0, none⟩ = some (.int .i64 a0_0) := (blk_cell BK265.out 0).trans rfl
            have hcz114_1 : w84.cell? ⟨gb265, 1, none⟩ = some (.int .i64 a0_1) := (blk_cell BK265.out 1).trans rfl
            have hcz114_2 : w84.cell? ⟨gb265, 2, none⟩ = some (.string a0_2) := (blk_cell BK265.out 2).trans rfl
            have hcz114_3 : w84.cell? ⟨gb265, 3, none⟩ = some (.slice A0_3 l0_3.length c0_3) := (blk_cell BK265.out 3).trans rfl
            have hcz114_4 : w84.cell? ⟨gb265, 4, none⟩ = some (.slice A0_4 l0_4.length c0_4) := (blk_cell BK265.out 4).trans rfl
            have hfz114_0 := blk_frozen BK265.out 0
            have hfz114_1 := blk_frozen BK265.out 1
            have hfz114_2 := blk_frozen BK265.out 2
            have hfz114_3 := blk_frozen BK265.out 3
            have hfz114_4 := blk_frozen BK265.out 4
            go_wp2_with (first | ((with_reducible refine gate_callee (f := 17) rfl ?_); refine goesL_ (some 47) rfl rfl Tryd.func17 (by kernel_rfl) rfl #[.agg #[.int .i64 a1_0, .int .i64 a1_1, .string a1_2, .slice A1_3 l1_3.length c1_3, .slice A1_4 l1_4.length c1_4], .agg #[.int .i64 a0_0, .int .i64 a0_1, .string a0_2, .slice A0_3 l0_3.length c0_3, .slice A0_4 l0_4.length c0_4]] rfl (by (try simp only [List.map_toArray, List.map_cons, List.map_nil]); first | done | rfl | (simp only [List.length_drop, List.length_take]; rfl)) ?_; (with_reducible refine (order_Compare.calls kj3 a1_0 a1_1 a1_2 _ _ l1_3 _ _ l1_4 a0_0 a0_1 a0_2 _ _ l0_3 _ _ l0_4 t280 _ ?side1 ?side2 ?side3 ?side4 ?side5 ?side6 ?side7 ?side8 ?side9 A85.out).mono ?_); (case side1 => repeat (first | exact (Kd.V_reads' HO_267003.out).2.2 | (with_reducible refine Kd.C_alloc ?_ _) | (with_reducible refine Kd.C_drewN ?_ _) | (with_reducible refine Kd.C_drew ?_))); (case side2 => exact (Kd.V_reads' HO_267003.out).2.1); (case side3 => repeat (first | exact (Kd.V_reads' HO_267004.out).2.2 | (with_reducible refine Kd.C_alloc ?_ _) | (with_reducible refine Kd.C_drewN ?_ _) | (with_reducible refine Kd.C_drew ?_))); (case side4 => exact (Kd.V_reads' HO_267004.out).2.1); (case side5 => repeat (first | exact (Kd.V_reads' HO_266003.out).2.2 | (with_reducible refine Kd.C_alloc ?_ _) | (with_reducible refine Kd.C_drewN ?_ _) | (with_reducible refine Kd.C_drew ?_))); (case side6 => exact (Kd.V_reads' HO_266003.out).2.1); (case side7 => repeat (first | exact (Kd.V_reads' HO_266004.out).2.2 | (with_reducible refine Kd.C_alloc ?_ _) | (with_reducible refine Kd.C_drewN ?_ _) | (with_reducible refine Kd.C_drew ?_))); (case side8 => exact (Kd.V_reads' HO_266004.out).2.1); (case side9 => first | exact HT.out | (refine tabs_below HT.out ?_; repeat (first | exact HB.out | (with_reducible first | apply below_alloc | apply pw_below_drewN | apply below_drew1 | exact Below.refl _ _) | (refine below_set ?_ (Aside0.out (by assumption)))))); rintro e w115 ⟨rfl, hb⟩; refine ⟨_, rfl, ?_⟩; have n0_ := Aside0.mk (Kd.V_below (by (with_reducible repeat (first | apply Kd.V_alloc | apply Kd.V_drewN | apply Kd.V_drew)); exact HO_266003.out) hb); have n1_ := Aside0.mk (Kd.V_below (by (with_reducible repeat (first | apply Kd.V_alloc | apply Kd.V_drewN | apply Kd.V_drew)); exact HO_266004.out) hb); have n2_ := Aside0.mk (Kd.V_below (by (with_reducible repeat (first | apply Kd.V_alloc | apply Kd.V_drewN | apply Kd.V_drew)); exact HO_267003.out) hb); have n3_ := Aside0.mk (Kd.V_below (by (with_reducible repeat (first | apply Kd.V_alloc | apply Kd.V_drewN | apply Kd.V_drew)); exact HO_267004.out) hb); have n4_ := Aside0.mk (Kd.V_below (by (with_reducible repeat (first | apply Kd.V_alloc | apply Kd.V_drewN | apply Kd.V_drew)); exact HO_268003.out) hb); have n5_ := Aside0.mk (Kd.V_below (by (with_reducible repeat (first | apply Kd.V_alloc | apply Kd.V_drewN | apply Kd.V_drew)); exact HO_268004.out) hb); have n6_ := Aside0.mk (blk_below (g := gb265) (o := .cells #[.int .i64 a0_0, .int .i64 a0_1, .string a0_2, .slice A0_3 l0_3.length c0_3, .slice A0_4 l0_4.length c0_4] 30 (0, 0)) (by (with_reducible repeat (first | refine blk_drewN ?_ _ | refine blk_drew ?_ | refine blk_alloc ?_ _)); exact BK265.out) hb); have n7_ := Aside0.mk (blk_below (g := gb266) (o := .cells #[.int .i64 a1_0, .int .i64 a1_1, .string a1_2, .slice A1_3 l1_3.length c1_3, .slice A1_4 l1_4.length c1_4] 30 (0, 0)) (by (with_reducible repeat (first | refine blk_drewN ?_ _ | refine blk_drew ?_ | refine blk_alloc ?_ _)); exact BK266.out) hb); have n8_ := Aside0.mk (blk_below (g := gb267) (o := .cells #[.int .i64 a2_0, .int .i64 a2_1, .string a2_2, .slice A2_3 l2_3.length c2_3, .slice A2_4 l2_4.length c2_4] 30 (0, 0)) (by (with_reducible repeat (first | refine blk_drewN ?_ _ | refine blk_drew ?_ | refine blk_alloc ?_ _)); exact BK267.out) hb); have n9_ := Aside0.mk (below_step (by repeat (first | (with_reducible first | exact HB.out | apply below_alloc | apply pw_below_drewN | apply below_drew1 | refine below_set ?_ GE265.out | refine below_set ?_ GE266.out | refine below_set ?_ GE267.out) | exact HB.out)) hb); clear HO_266003; clear HO_266004; clear HO_267003; clear HO_267004; clear HO_268003; clear HO_268004; clear BK265; clear BK266; clear BK267; clear HB; have HO_266003 := n0_; have HO_266004 := n1_; have HO_267003 := n2_; have HO_267004 := n3_; have HO_268003 := n4_; have HO_268004 := n5_; have BK265 := n6_; have BK266 := n7_; have BK267 := n8_; have HB := n9_; clear n0_ n1_ n2_ n3_ n4_ n5_ n6_ n7_ n8_ n9_; (try clear hb); (try clear hb2); (try clear hk); (try clear hi)))
            go_meet
            case rel => exact ⟨_, (true), (by first | rfl | (simp; done) | (simp [*]; done)), H', ⟨by have := HJ3.out; first | omega | exact Nat.le_refl _⟩, ⟨by (with_reducible repeat (first | apply Kd.V_alloc | apply Kd.V_drewN | apply Kd.V_drew)); exact HO_266003.out⟩, ⟨by (with_reducible repeat (first | apply Kd.V_alloc | apply Kd.V_drewN | apply Kd.V_drew)); exact HO_266004.out⟩, ⟨by (with_reducible repeat (first | apply Kd.V_alloc | apply Kd.V_drewN | apply Kd.V_drew)); exact HO_267003.out⟩, ⟨by (with_reducible repeat (first | apply Kd.V_alloc | apply Kd.V_drewN | apply Kd.V_drew)); exact HO_267004.out⟩, ⟨by (with_reducible repeat (first | apply Kd.V_alloc | apply Kd.V_drewN | apply Kd.V_drew)); exact HO_268003.out⟩, ⟨by (with_reducible repeat (first | apply Kd.V_alloc | apply Kd.V_drewN | apply Kd.V_drew)); exact HO_268004.out⟩, ⟨by (with_reducible repeat (first | refine blk_drewN ?_ _ | refine blk_drew ?_ | refine blk_alloc ?_ _)); exact BK265.out⟩, ⟨by (with_reducible repeat (first | refine blk_drewN ?_ _ | refine blk_drew ?_ | refine blk_alloc ?_ _)); exact BK266.out⟩, ⟨by (with_reducible repeat (first | refine blk_drewN ?_ _ | refine blk_drew ?_ | refine blk_alloc ?_ _)); exact BK267.out⟩, ⟨by repeat (first | (with_reducible first | exact HB.out | apply below_alloc | apply pw_below_drewN | apply below_drew1 | refine below_set ?_ GE265.out | refine below_set ?_ GE266.out | refine below_set ?_ GE267.out) | exact HB.out)⟩⟩
        case rest =>
          clear HC80
          try clear c1
          try clear c2
          try clear p2
          try clear p6
          try clear c7
          try clear c8
          try clear c9
          try clear c10
          try clear c11
          try clear c17
          try clear p64
          try clear c74
          try clear c86
          try clear c86b0
          try clear c86b1
          try clear c88
          try clear c88b0
          try clear c88b1
          try clear c88b2
          try clear c89
          try clear c90
          try clear c92
          try clear c99
          try clear c100
          try clear c102
          try clear c110
          try clear c111
          try clear c113
          try clear hcz101_0
          try clear hcz101_1
          try clear hcz101_2
          try clear hcz101_3
          try clear hcz101_4
          try clear hcz103_0
          try clear hcz103_1
          try clear hcz103_2
          try clear hcz103_3
          try clear hcz103_4
          try clear hcz105_0
          try clear hcz105_1
          try clear hcz105_2
          try clear hcz105_3
          try clear hcz105_4
          try clear hcz106_0
          try clear hcz106_1
          try clear hcz106_2
          try clear hcz106_3
          try clear hcz106_4
          try clear hcz108_0
          try clear hcz108_1
          try clear hcz108_2
          try clear hcz108_3
          try clear hcz108_4
          try clear hcz112_0
          try clear hcz112_1
          try clear hcz112_2
          try clear hcz112_3
          try clear hcz112_4
          try clear hcz114_0
          try clear hcz114_1
          try clear hcz114_2
          try clear hcz114_3
          try clear hcz114_4
          try clear hcz39_2
          try clear hcz39_3
          try clear hcz39_4
          try clear hcz40_0
          try clear hcz40_1
          try clear hcz40_2
          try clear hcz40_3
          try clear hcz40_4
          try clear hcz45_0
          try clear hcz45_1
          try clear hcz45_2
          try clear hcz45_3
          try clear hcz45_4
          try clear hcz47_0
          try clear hcz47_1
          try clear hcz47_2
          try clear hcz47_3
          try clear hcz47_4
          try clear hcz52_0
          try clear hcz52_1
          try clear hcz52_2
          try clear hcz52_3
          try clear hcz52_4
          try clear hcz54_0
          try clear hcz54_1
          try clear hcz54_2
          try clear hcz54_3
          try clear hcz54_4
          try clear hcz55_0
          try clear hcz55_1
          try clear hcz55_2
          try clear hcz55_3
          try clear hcz55_4
          try clear hcz60_0
          try clear hcz60_1
          try clear hcz60_2
          try clear hcz60_3
          try clear hcz60_4
          try clear hcz65_0
          try clear hcz65_1
          try clear hcz65_2
          try clear hcz65_3
          try clear hcz65_4
          try clear hcz67_0
          try clear hcz67_1
          try clear hcz67_2
          try clear hcz67_3
          try clear hcz67_4
          try clear hcz68_0
          try clear hcz68_1
          try clear hcz68_2
          try clear hcz68_3
          try clear hcz68_4
          try clear hcz91_0
          try clear hcz91_1
          try clear hcz91_2
          try clear hcz91_3
          try clear hcz91_4
          try clear hcz93_0
          try clear hcz93_1
          try clear hcz93_2
          try clear hcz93_3
          try clear hcz93_4
          try clear hcz95_0
          try clear hcz95_1
          try clear hcz95_2
          try clear hcz95_3
          try clear hcz95_4
          try clear hcz96_0
          try clear hcz96_1
          try clear hcz96_2
          try clear hcz96_3
          try clear hcz96_4
          try clear hfz101_0
          try clear hfz101_1
          try clear hfz101_2
          try clear hfz101_3
          try clear hfz101_4
          try clear hfz103_0
          try clear hfz103_1
          try clear hfz103_2
          try clear hfz103_3
          try clear hfz103_4
          try clear hfz105_0
          try clear hfz105_1
          try clear hfz105_2
          try clear hfz105_3
          try clear hfz105_4
          try clear hfz106_0
          try clear hfz106_1
          try clear hfz106_2
          try clear hfz106_3
          try clear hfz106_4
          try clear hfz108_0
          try clear hfz108_1
          try clear hfz108_2
          try clear hfz108_3
          try clear hfz108_4
          try clear hfz112_0
          try clear hfz112_1
          try clear hfz112_2
          try clear hfz112_3
          try clear hfz112_4
          try clear hfz114_0
          try clear hfz114_1
          try clear hfz114_2
          try clear hfz114_3
          try clear hfz114_4
          try clear hfz20_0
          try clear hfz20_1
          try clear hfz20_2
          try clear hfz20_3
          try clear hfz20_4
          try clear hfz22_0
          try clear hfz22_1
          try clear hfz22_2
          try clear hfz22_3
          try clear hfz22_4
          try clear hfz23_0
          try clear hfz23_1
          try clear hfz23_2
          try clear hfz23_3
          try clear hfz23_4
          try clear hfz28_0
          try clear hfz28_1
          try clear hfz28_2
          try clear hfz28_3
          try clear hfz28_4
          try clear hfz30_0
          try clear hfz30_1
          try clear hfz30_2
          try clear hfz30_3
          try clear hfz30_4
          try clear hfz32_0
          try clear hfz32_1
          try clear hfz32_2
          try clear hfz32_3
          try clear hfz32_4
          try clear hfz37_0
          try clear hfz37_1
          try clear hfz37_2
          try clear hfz37_3
          try clear hfz37_4
          try clear hfz39_0
          try clear hfz39_1
          try clear hfz39_2
          try clear hfz39_3
          try clear hfz39_4
          try clear hfz40_0
          try clear hfz40_1
          try clear hfz40_2
          try clear hfz40_3
          try clear hfz40_4
          try clear hfz45_0
          try clear hfz45_1
          try clear hfz45_2
          try clear hfz45_3
          try clear hfz45_4
          try clear hfz47_0
          try clear hfz47_1
          try clear hfz47_2
          try clear hfz47_3
          try clear hfz47_4
          try clear hfz52_0
          try clear hfz52_1
          try clear hfz52_2
          try clear hfz52_3
          try clear hfz52_4
          try clear hfz54_0
          try clear hfz54_1
          try clear hfz54_2
          try clear hfz54_3
          try clear hfz54_4
          try clear hfz55_0
          try clear hfz55_1
          try clear hfz55_2
          try clear hfz55_3
          try clear hfz55_4
          try clear hfz60_0
          try clear hfz60_1
          try clear hfz60_2
          try clear hfz60_3
          try clear hfz60_4
          try clear hfz65_0
          try clear hfz65_1
          try clear hfz65_2
          try clear hfz65_3
          try clear hfz65_4
          try clear hfz67_0
          try clear hfz67_1
          try clear hfz67_2
          try clear hfz67_3
          try clear hfz67_4
          try clear hfz68_0
          try clear hfz68_1
          try clear hfz68_2
          try clear hfz68_3
          try clear hfz68_4
          try clear hfz91_0
          try clear hfz91_1
          try clear hfz91_2
          try clear hfz91_3
          try clear hfz91_4
          try clear hfz93_0
          try clear hfz93_1
          try clear hfz93_2
          try clear hfz93_3
          try clear hfz93_4
          try clear hfz95_0
          try clear hfz95_1
          try clear hfz95_2
          try clear hfz95_3
          try clear hfz95_4
          try clear hfz96_0
          try clear hfz96_1
          try clear hfz96_2
          try clear hfz96_3
          try clear hfz96_4
          obtain ⟨kq, x64_79, rfl, HA, HJ79, HO_266003, HO_266004, HO_267003, HO_267004, HO_268003, HO_268004, BK265, BK266, BK267, HB⟩ := hcut
          cases kq with
          | zero => exact absurd HA.out (by simp [munimentlaw03_OrderTotal.j1])
          | succ kj79 =>
            have H := HA.out
            clear HA
            simp only [munimentlaw03_OrderTotal.j1] at H
            by_cases c116 : x64_79 = true
            · subst c116
              have H1 : (some false) = some r := by rw [if_pos rfl] at H; exact H
              clear H
              have H := H1
              clear H1
              obtain rfl := Option.some.inj H
              go_wp2
              go_ret
              exact ⟨by first | rfl | (simp [errW_none, errW_some] <;> rfl) | (simp [*, errW_none, errW_some] <;> rfl), by repeat (first | (with_reducible first | exact HB.out | apply below_alloc | apply pw_below_drewN | apply below_drew1 | refine below_set ?_ GE265.out | refine below_set ?_ GE266.out | refine below_set ?_ GE267.out) | exact HB.out)⟩
            · replace c116 := Bool.eq_false_iff.mpr c116
              subst c116
              have H1 : (if t277 ≤ 0 then (if t278 ≤ 0 then (if t279 > 0 then (some false) else (if t277 ≥ 0 then (if t278 ≥ 0 then (some (!(decide (t279 < 0)))) else (some (!false))) else (some (!false)))) else (if t277 ≥ 0 then (if t278 ≥ 0 then (some (!(decide (t279 < 0)))) else (some (!false))) else (some (!false)))) else (if t277 ≥ 0 then (if t278 ≥ 0 then (some (!(decide (t279 < 0)))) else (some (!false))) else (some (!false)))) = some r := by rw [if_neg (show ¬ (false = true) by decide)] at H; exact H
              clear H
              have H := H1
              clear H1
              by_cases c117 : t277 ≤ 0
              · rw [if_pos c117] at H
                have c117b0 : decide (t277 ≤ 0) = true := decide_eq_true c117
                clear c117
                by_cases c118 : t278 ≤ 0
                · rw [if_pos c118] at H
                  have c118b0 : decide (t278 ≤ 0) = true := decide_eq_true c118
                  clear c118
                  by_cases c119 : t279 > 0
                  · rw [if_pos c119] at H
                    have c119b0 : decide (0 < t279) = true := decide_eq_true c119
                    clear c119
                    obtain rfl := Option.some.inj H
                    go_wp2
                    go_ret
                    exact ⟨by first | rfl | (simp [errW_none, errW_some] <;> rfl) | (simp [*, errW_none, errW_some] <;> rfl), by repeat (first | (with_reducible first | exact HB.out | apply below_alloc | apply pw_below_drewN | apply below_drew1 | refine below_set ?_ GE265.out | refine below_set ?_ GE266.out | refine below_set ?_ GE267.out) | exact HB.out)⟩
                  · rw [if_neg c119] at H
                    have c119b0 : decide (0 < t279) = false := decide_eq_false c119
                    clear c119
                    by_cases c120 : t277 ≥ 0
                    · rw [if_pos c120] at H
                      have c120b0 : decide (0 ≤ t277) = true := decide_eq_true c120
                      clear c120
                      by_cases c121 : t278 ≥ 0
                      · rw [if_pos c121] at H
                        have c121b0 : decide (0 ≤ t278) = true := decide_eq_true c121
                        clear c121
                        obtain rfl := Option.some.inj H
                        go_wp2
                        go_ret
                        exact ⟨by first | rfl | (simp [errW_none, errW_some] <;> rfl) | (simp [*, errW_none, errW_some] <;> rfl), by repeat (first | (with_reducible first | exact HB.out | apply below_alloc | apply pw_below_drewN | apply below_drew1 | refine below_set ?_ GE265.out | refine below_set ?_ GE266.out | refine below_set ?_ GE267.out) | exact HB.out)⟩
                      · rw [if_neg c121] at H
                        have c121b0 : decide (0 ≤ t278) = false := decide_eq_false c121
                        clear c121
                        obtain rfl := Option.some.inj H
                        go_wp2
                        go_ret
                        exact ⟨by first | rfl | (simp [errW_none, errW_some] <;> rfl) | (simp [*, errW_none, errW_some] <;> rfl), by repeat (first | (with_reducible first | exact HB.out | apply below_alloc | apply pw_below_drewN | apply below_drew1 | refine below_set ?_ GE265.out | refine below_set ?_ GE266.out | refine below_set ?_ GE267.out) | exact HB.out)⟩
                    · rw [if_neg c120] at H
                      have c120b0 : decide (0 ≤ t277) = false := decide_eq_false c120
                      clear c120
                      obtain rfl := Option.some.inj H
                      go_wp2
                      go_ret
                      exact ⟨by first | rfl | (simp [errW_none, errW_some] <;> rfl) | (simp [*, errW_none, errW_some] <;> rfl), by repeat (first | (with_reducible first | exact HB.out | apply below_alloc | apply pw_below_drewN | apply below_drew1 | refine below_set ?_ GE265.out | refine below_set ?_ GE266.out | refine below_set ?_ GE267.out) | exact HB.out)⟩
                · rw [if_neg c118] at H
                  have c118b0 : decide (t278 ≤ 0) = false := decide_eq_false c118
                  clear c118
                  by_cases c122 : t277 ≥ 0
                  · rw [if_pos c122] at H
                    have c122b0 : decide (0 ≤ t277) = true := decide_eq_true c122
                    clear c122
                    by_cases c123 : t278 ≥ 0
                    · rw [if_pos c123] at H
                      have c123b0 : decide (0 ≤ t278) = true := decide_eq_true c123
                      clear c123
                      obtain rfl := Option.some.inj H
                      go_wp2
                      go_ret
                      exact ⟨by first | rfl | (simp [errW_none, errW_some] <;> rfl) | (simp [*, errW_none, errW_some] <;> rfl), by repeat (first | (with_reducible first | exact HB.out | apply below_alloc | apply pw_below_drewN | apply below_drew1 | refine below_set ?_ GE265.out | refine below_set ?_ GE266.out | refine below_set ?_ GE267.out) | exact HB.out)⟩
                    · rw [if_neg c123] at H
                      have c123b0 : decide (0 ≤ t278) = false := decide_eq_false c123
                      clear c123
                      obtain rfl := Option.some.inj H
                      go_wp2
                      go_ret
                      exact ⟨by first | rfl | (simp [errW_none, errW_some] <;> rfl) | (simp [*, errW_none, errW_some] <;> rfl), by repeat (first | (with_reducible first | exact HB.out | apply below_alloc | apply pw_below_drewN | apply below_drew1 | refine below_set ?_ GE265.out | refine below_set ?_ GE266.out | refine below_set ?_ GE267.out) | exact HB.out)⟩
                  · rw [if_neg c122] at H
                    have c122b0 : decide (0 ≤ t277) = false := decide_eq_false c122
                    clear c122
                    obtain rfl := Option.some.inj H
                    go_wp2
                    go_ret
                    exact ⟨by first | rfl | (simp [errW_none, errW_some] <;> rfl) | (simp [*, errW_none, errW_some] <;> rfl), by repeat (first | (with_reducible first | exact HB.out | apply below_alloc | apply pw_below_drewN | apply below_drew1 | refine below_set ?_ GE265.out | refine below_set ?_ GE266.out | refine below_set ?_ GE267.out) | exact HB.out)⟩
              · rw [if_neg c117] at H
                have c117b0 : decide (t277 ≤ 0) = false := decide_eq_false c117
                clear c117
                by_cases c124 : t277 ≥ 0
                · rw [if_pos c124] at H
                  have c124b0 : decide (0 ≤ t277) = true := decide_eq_true c124
                  clear c124
                  by_cases c125 : t278 ≥ 0
                  · rw [if_pos c125] at H
                    have c125b0 : decide (0 ≤ t278) = true := decide_eq_true c125
                    clear c125
                    obtain rfl := Option.some.inj H
                    go_wp2
                    go_ret
                    exact ⟨by first | rfl | (simp [errW_none, errW_some] <;> rfl) | (simp [*, errW_none, errW_some] <;> rfl), by repeat (first | (with_reducible first | exact HB.out | apply below_alloc | apply pw_below_drewN | apply below_drew1 | refine below_set ?_ GE265.out | refine below_set ?_ GE266.out | refine below_set ?_ GE267.out) | exact HB.out)⟩
                  · rw [if_neg c125] at H
                    have c125b0 : decide (0 ≤ t278) = false := decide_eq_false c125
                    clear c125
                    obtain rfl := Option.some.inj H
                    go_wp2
                    go_ret
                    exact ⟨by first | rfl | (simp [errW_none, errW_some] <;> rfl) | (simp [*, errW_none, errW_some] <;> rfl), by repeat (first | (with_reducible first | exact HB.out | apply below_alloc | apply pw_below_drewN | apply below_drew1 | refine below_set ?_ GE265.out | refine below_set ?_ GE266.out | refine below_set ?_ GE267.out) | exact HB.out)⟩
                · rw [if_neg c124] at H
                  have c124b0 : decide (0 ≤ t277) = false := decide_eq_false c124
                  clear c124
                  obtain rfl := Option.some.inj H
                  go_wp2
                  go_ret
                  exact ⟨by first | rfl | (simp [errW_none, errW_some] <;> rfl) | (simp [*, errW_none, errW_some] <;> rfl), by repeat (first | (with_reducible first | exact HB.out | apply below_alloc | apply pw_below_drewN | apply below_drew1 | refine below_set ?_ GE265.out | refine below_set ?_ GE266.out | refine below_set ?_ GE267.out) | exact HB.out)⟩
end Go.Proofs.YtegcbfgoomopdaaDoor.PO
