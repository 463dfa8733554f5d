import Derived.Test.YteblbippmllfkaaDoorZpgtsPPx0
import Derived.Test.YteblbippmllfkaaDoorZpgtsPPx4
import Derived.Test.YteblbippmllfkaaDoorZpgtsPPx18
import Derived.Test.YteblbippmllfkaaDoorZpgtsPPx20
namespace Go.Proofs.YteblbippmllfkaaDoor.PP
open Go.RowKit Go.Proofs.YteblbippmllfkaaDoorW.PrintWords Go.Proofs.YteblbippmllfkaaDoorW.PrintLast Go.Proofs.YteblbippmllfkaaDoorW.PrintMore
attribute [local go_sem] max2_mx_ min2_mn_ max_two min_two max_three min_three max_four min_four   -- for this text's walks alone
set_option linter.unusedVariables false
set_option linter.unusedSimpArgs false
mutual
def munimentref02_Get.j0 : Nat → List ByteArray → Bool → Int → Int → ByteArray → List ByteArray → List (S30) → Option (Int × Int × ByteArray × List ByteArray × (List (S30)) × Bool)
  | 0, _, _, _, _, _, _, _ => none
  | k + 1, x6, x21, x204000, x204001, x204002, x204003, x204004 => if x21 = true then (some (0, 0, (⟨#[]⟩ : ByteArray), ([] : List ByteArray), ([] : List (S30)), false)) else (munimentref02_Get.l0 k x6 0 x204000 x204001 x204002 x204003 x204004)
def munimentref02_Get.l0 : Nat → List ByteArray → Int → Int → Int → ByteArray → List ByteArray → List (S30) → Option (Int × Int × ByteArray × List ByteArray × (List (S30)) × Bool)
  | 0, _, _, _, _, _, _, _ => none
  | k + 1, x6, x8, x204000, x204001, x204002, x204003, x204004 => if x8 < (x6.length : Int) then (if 0 ≤ x8 then ((munimentref02_place.f k x204000 x204001 x204002 x204003 x204004 (rdOf ByteArray.empty x6 x8)).bind fun t211 => (if t211 < 0 then (some (0, 0, (⟨#[]⟩ : ByteArray), ([] : List ByteArray), ([] : List (S30)), false)) else (if 0 ≤ t211 then (if t211 < (x204004.length : Int) then (munimentref02_Get.l0 k x6 (wrap64 (x8 + 1)) ((rd_T30 x204004 t211).f0) ((rd_T30 x204004 t211).f1) ((rd_T30 x204004 t211).f2) ((rd_T30 x204004 t211).f3) ((rd_T30 x204004 t211).f4)) else (none)) else (none)))) else (none)) else (some (x204000, x204001, x204002, x204003, x204004, true))
end
def munimentref02_Get.f (k : Nat) (a0_0 : Int) (a0_1 : Int) (a0_2 : ByteArray) (l0_3 : List ByteArray) (l0_4 : List (S30)) (a1 : ByteArray) : Option (Int × Int × ByteArray × List ByteArray × (List (S30)) × Bool) := (munimentref02_Steps.f k a1).bind fun bt205 => (if bt205.2 = 0 then ((munimentref01_Formed.f k a0_0 a0_1 a0_2 l0_3 l0_4).bind fun t209 => (munimentref02_Get.j0 k bt205.1 (!t209) a0_0 a0_1 a0_2 l0_3 l0_4)) else (munimentref02_Get.j0 k bt205.1 true a0_0 a0_1 a0_2 l0_3 l0_4))
set_option maxHeartbeats 8000000 in
set_option maxRecDepth 100000 in
theorem munimentref02_Get.calls (k : Nat) (a0_0 : Int) (a0_1 : Int) (a0_2 : ByteArray) (P0_3_ : Nat → Prop) (A0_3 : Option Addr) (c0_3 : Nat) (l0_3 : List ByteArray) (P0_4_ : Nat → Prop) (A0_4 : Option Addr) (c0_4 : Nat) (l0_4 : List (S30)) (a1 : ByteArray) (r1 : Int) (r2 : Int) (r3 : ByteArray) (r4 : List ByteArray) (r5 : List (S30)) (r6 : Bool) (w : World) (hs0_3 : Kd.V Kd.string 9 w w.heap.size (fun k_ => P0_3_ k_) (.slice A0_3 l0_3.length c0_3) l0_3) (hs0_4 : Kd.V k30 30 w w.heap.size (fun k_ => P0_4_ k_) (.slice A0_4 l0_4.length c0_4) l0_4) (h : munimentref02_Get.f k a0_0 a0_1 a0_2 l0_3 l0_4 a1 = some (r1, r2, r3, r4, r5, r6)) :
    Calls Tryd.prog 13 #[.agg #[.int .i64 a0_0, .int .i64 a0_1, .string a0_2, .slice A0_3 l0_3.length c0_3, .slice A0_4 l0_4.length c0_4], .string a1] w fun e w' => ∃ v3_ v4_ : Value, e = .returned (.tuple #[.agg #[.int .i64 r1, .int .i64 r2, .string r3, v3_, v4_], .bool r6]) ∧ Kd.V Kd.string 9 w' w.heap.size (fun k_ => ((P0_3_ k_ ∨ P0_4_ k_) ∨ w.heap.size ≤ k_)) v3_ r4 ∧ Kd.V k30 30 w' w.heap.size (fun k_ => ((P0_3_ k_ ∨ P0_4_ k_) ∨ w.heap.size ≤ k_)) v4_ r5 ∧ Below w.heap.size w w' := by
  have hu30 := Tryd.underlying30
  have HO0_3 := Aside0.mk (show Kd.V Kd.string 9 w w.heap.size (fun k_ => ((P0_3_ k_ ∨ P0_4_ k_) ∨ w.heap.size ≤ k_)) (.slice A0_3 l0_3.length c0_3) l0_3 from Kd.V_mono hs0_3 (fun k_ hk => .inl (.inl hk)))
  have HO0_4 := Aside0.mk (show Kd.V k30 30 w w.heap.size (fun k_ => ((P0_3_ k_ ∨ P0_4_ k_) ∨ w.heap.size ≤ k_)) (.slice A0_4 l0_4.length c0_4) l0_4 from Kd.V_mono hs0_4 (fun k_ hk => .inl (.inr hk)))
  have HB := Aside0.mk (Below.refl w.heap.size w)
  have H : ((munimentref02_Steps.f k a1).bind fun bt205 => (if bt205.2 = 0 then ((munimentref01_Formed.f k a0_0 a0_1 a0_2 l0_3 l0_4).bind fun t209 => (munimentref02_Get.j0 k bt205.1 (!t209) a0_0 a0_1 a0_2 l0_3 l0_4)) else (munimentref02_Get.j0 k bt205.1 true a0_0 a0_1 a0_2 l0_3 l0_4))) = some (r1, r2, r3, r4, r5, r6) := h
  clear h
  replace H := Option.bind_eq_some_iff.mp H
  obtain ⟨⟨t205, t206⟩, A30, H⟩ := H
  replace H : (if t206 = 0 then ((munimentref01_Formed.f k a0_0 a0_1 a0_2 l0_3 l0_4).bind fun t209 => (munimentref02_Get.j0 k t205 (!t209) a0_0 a0_1 a0_2 l0_3 l0_4)) else (munimentref02_Get.j0 k t205 true a0_0 a0_1 a0_2 l0_3 l0_4)) = some (r1, r2, r3, r4, r5, r6) := H
  have A3 := Aside0.mk A30
  clear A30
  have HC4 := Aside0.mk H
  clear H
  go_enter Tryd.func13, Tryd.ntmps13
  go_upto_region 2 with (first | ((with_reducible refine gate_dst (N := 2) rfl ?_); refine box_event ?hg (N := 2) ?hd (cs := #[.int .i64 a0_0, .int .i64 a0_1, .string a0_2, .slice A0_3 l0_3.length c0_3, .slice A0_4 l0_4.length c0_4]) (t := 30) ?hr ?_; (case hd => rfl); (case hg => rfl); (case hr => first | (go_simp; done) | (go_simp; rfl)); intro gb203 hg w5 hbox hb; have n0_ := Aside0.mk (Kd.V_below (Kd.V_elderB (by (with_reducible repeat (first | apply Kd.V_alloc | apply Kd.V_drewN | apply Kd.V_drew)); exact HO0_3.out) gb203 (Nat.le_of_eq hg.symm)) hb); have n1_ := Aside0.mk (Kd.V_below (Kd.V_elderB (by (with_reducible repeat (first | apply Kd.V_alloc | apply Kd.V_drewN | apply Kd.V_drew)); exact HO0_4.out) gb203 (Nat.le_of_eq hg.symm)) hb); have n2_ := Aside0.mk (below_step (by repeat (first | (with_reducible first | exact HB.out | apply below_alloc | apply pw_below_drewN | apply below_drew1) | exact HB.out)) hb); have n3_ := Aside0.mk (hbox); have n4_ := Aside0.mk ((by rw [hg]; exact (below_size (by repeat (first | (with_reducible first | exact HB.out | apply below_alloc | apply pw_below_drewN | apply below_drew1) | exact HB.out))) : w.heap.size ≤ gb203)); have n5_ := Aside0.mk ((by rw [hg]; exact (below_size (by repeat (first | (with_reducible first | exact HB.out | apply below_alloc | apply pw_below_drewN | apply below_drew1) | exact HB.out))) : w.heap.size ≤ gb203)); clear HO0_3; clear HO0_4; clear HB; have HO0_3 := n0_; have HO0_4 := n1_; have HB := n2_; have BK203 := n3_; have GW203 := n4_; have GE203 := n5_; clear n0_ n1_ n2_ n3_ n4_ n5_; clear hb hbox hg) | ((with_reducible refine gate_dst (N := 4) rfl ?_); refine box_event ?hg (N := 4) ?hd (cs := #[.int .i64 0, .int .i64 0, .string (⟨#[]⟩ : ByteArray), .slice none 0 0, .slice none 0 0]) (t := 30) ?hr ?_; (case hd => rfl); (case hg => rfl); (case hr => first | (go_simp; done) | (go_simp; rfl)); intro gb204 hg w6 hbox hb; have n0_ := Aside0.mk (Kd.V_below (Kd.V_elderB (by (with_reducible repeat (first | apply Kd.V_alloc | apply Kd.V_drewN | apply Kd.V_drew)); exact HO0_3.out) gb204 (Nat.le_of_eq hg.symm)) hb); have n1_ := Aside0.mk (Kd.V_below (Kd.V_elderB (by (with_reducible repeat (first | apply Kd.V_alloc | apply Kd.V_drewN | apply Kd.V_drew)); exact HO0_4.out) gb204 (Nat.le_of_eq hg.symm)) hb); have n2_ := Aside0.mk (blk_below (g := gb203) (o := .cells #[.int .i64 a0_0, .int .i64 a0_1, .string a0_2, .slice A0_3 l0_3.length c0_3, .slice A0_4 l0_4.length c0_4] 30 (0, 0)) (by (with_reducible repeat (first | refine blk_drewN ?_ _ | refine blk_drew ?_ | refine blk_alloc ?_ _)); exact BK203.out) hb); have n3_ := Aside0.mk (below_step (by repeat (first | (with_reducible first | exact HB.out | apply below_alloc | apply pw_below_drewN | apply below_drew1 | refine below_set ?_ GE203.out) | exact HB.out)) hb); have n4_ := Aside0.mk (hbox); have n5_ := Aside0.mk ((by rw [hg]; exact (below_size (by repeat (first | (with_reducible first | exact HB.out | apply below_alloc | apply pw_below_drewN | apply below_drew1 | refine below_set ?_ GE203.out) | exact HB.out))) : w.heap.size ≤ gb204)); have n6_ := Aside0.mk ((by rw [hg]; exact (below_size (by repeat (first | (with_reducible first | exact HB.out | apply below_alloc | apply pw_below_drewN | apply below_drew1 | refine below_set ?_ GE203.out) | exact HB.out))) : w.heap.size ≤ gb204)); have n7_ := Aside0.mk ((by rw [hg]; exact Nat.ne_of_lt (blk_lt (g := gb203) (o := .cells #[.int .i64 a0_0, .int .i64 a0_1, .string a0_2, .slice A0_3 l0_3.length c0_3, .slice A0_4 l0_4.length c0_4] 30 (0, 0)) (by (with_reducible repeat (first | refine blk_drewN ?_ _ | refine blk_drew ?_ | refine blk_alloc ?_ _)); exact BK203.out)) : gb203 ≠ gb204)); have n8_ := Aside0.mk ((by rw [hg]; exact Nat.ne_of_gt (blk_lt (g := gb203) (o := .cells #[.int .i64 a0_0, .int .i64 a0_1, .string a0_2, .slice A0_3 l0_3.length c0_3, .slice A0_4 l0_4.length c0_4] 30 (0, 0)) (by (with_reducible repeat (first | refine blk_drewN ?_ _ | refine blk_drew ?_ | refine blk_alloc ?_ _)); exact BK203.out)) : gb204 ≠ gb203)); clear HO0_3; clear HO0_4; clear BK203; clear HB; have HO0_3 := n0_; have HO0_4 := n1_; have BK203 := n2_; have HB := n3_; have BK204 := n4_; have GW204 := n5_; have GE204 := n6_; have NB203_204 := n7_; have NB204_203 := n8_; clear n0_ n1_ n2_ n3_ n4_ n5_ n6_ n7_ n8_; clear hb hbox hg) | ((with_reducible refine gate_callee (f := 10) rfl ?_); refine goesL_ (some 12) rfl rfl Tryd.func10 (by kernel_rfl) rfl #[.string a1] rfl (by (try simp only [List.map_toArray, List.map_cons, List.map_nil]); first | done | rfl | (simp only [List.length_drop, List.length_take]; rfl)) ?_; (with_reducible refine (munimentref02_Steps.calls k a1 t205 t206 _ A3.out).mono ?_); rintro e w7 ⟨v207, rfl, ho0, hb⟩; refine ⟨_, rfl, ?_⟩; have n0_ := Aside0.mk (Kd.V_elder' (by (with_reducible repeat (first | apply Kd.V_alloc | apply Kd.V_drewN | apply Kd.V_drew)); exact HO0_3.out) (Kd.R_base ho0) hb); have n1_ := Aside0.mk (Kd.V_elder' (by (with_reducible repeat (first | apply Kd.V_alloc | apply Kd.V_drewN | apply Kd.V_drew)); exact HO0_4.out) (Kd.R_base ho0) hb); have n2_ := Aside0.mk (Kd.R_lower (Kd.R_newM (M := fun k_ => (w.heap.size ≤ k_)) ho0 (below_size (by repeat (first | (with_reducible first | exact HB.out | apply below_alloc | apply pw_below_drewN | apply below_drew1 | refine below_set ?_ GE203.out | refine below_set ?_ GE204.out) | exact HB.out))) (fun k_ h_ => h_)) (below_size (by repeat (first | (with_reducible first | exact HB.out | apply below_alloc | apply pw_below_drewN | apply below_drew1 | refine below_set ?_ GE203.out | refine below_set ?_ GE204.out) | exact HB.out)))); have n3_ := Aside0.mk (blk_below (g := gb203) (o := .cells #[.int .i64 a0_0, .int .i64 a0_1, .string a0_2, .slice A0_3 l0_3.length c0_3, .slice A0_4 l0_4.length c0_4] 30 (0, 0)) (by (with_reducible repeat (first | refine blk_drewN ?_ _ | refine blk_drew ?_ | refine blk_alloc ?_ _)); exact BK203.out) hb); have n4_ := Aside0.mk (blk_below (g := gb204) (o := .cells #[.int .i64 0, .int .i64 0, .string (⟨#[]⟩ : ByteArray), .slice none 0 0, .slice none 0 0] 30 (0, 0)) (by (with_reducible repeat (first | refine blk_drewN ?_ _ | refine blk_drew ?_ | refine blk_alloc ?_ _)); exact BK204.out) hb); have n5_ := Aside0.mk (below_step (by repeat (first | (with_reducible first | exact HB.out | apply below_alloc | apply pw_below_drewN | apply below_drew1 | refine below_set ?_ GE203.out | refine below_set ?_ GE204.out) | exact HB.out)) hb); clear HO0_3; clear HO0_4; clear BK203; clear BK204; clear HB; have HO0_3 := n0_; have HO0_4 := n1_; have HO208 := n2_; have BK203 := n3_; have BK204 := n4_; have HB := n5_; clear n0_ n1_ n2_ n3_ n4_ n5_; (try clear hb); (try clear hb2); (try clear hk); (try clear hi); (try clear ho0)))
  (try simp only [Act.put, List.setIfInBounds_toArray, List.set_cons_zero, List.set_cons_succ])
  go_cut [21] (fun v21 wc => ∃ (kq : Nat) (x21_3 : Bool), v21 = .bool x21_3 ∧ Aside0 (munimentref02_Get.j0 kq t205 x21_3 a0_0 a0_1 a0_2 l0_3 l0_4 = some (r1, r2, r3, r4, r5, r6)) ∧ Aside0 (kq ≤ k) ∧ Aside0 (Kd.R Kd.string 9 wc w.heap.size (fun k_ => (w.heap.size ≤ k_)) v207 t205) ∧ Aside0 (Kd.V Kd.string 9 wc w.heap.size (fun k_ => ((P0_3_ k_ ∨ P0_4_ k_) ∨ w.heap.size ≤ k_) ∧ some k_ ≠ (v207 : Value).ownBlock ∧ k_ ≠ gb203 ∧ k_ ≠ gb204) (.slice A0_3 l0_3.length c0_3) l0_3) ∧ Aside0 (Kd.V k30 30 wc w.heap.size (fun k_ => ((P0_3_ k_ ∨ P0_4_ k_) ∨ w.heap.size ≤ k_) ∧ some k_ ≠ (v207 : Value).ownBlock ∧ k_ ≠ gb203 ∧ k_ ≠ gb204) (.slice A0_4 l0_4.length c0_4) l0_4) ∧ Aside0 (wc.heap[gb203]? = some (.cells #[.int .i64 a0_0, .int .i64 a0_1, .string a0_2, (.slice A0_3 l0_3.length c0_3), (.slice A0_4 l0_4.length c0_4)] 30 (0, 0))) ∧ Aside0 (wc.heap[gb204]? = some (.cells #[.int .i64 0, .int .i64 0, .string (⟨#[]⟩ : ByteArray), (.slice none 0 0), (.slice none 0 0)] 30 (0, 0))) ∧ Aside0 (Below w.heap.size w wc))
  case first =>
    have H := HC4.out
    clear HC4
    by_cases c8 : t206 = 0
    · rw [if_pos c8] at H
      have c8b0 : (t206 == 0) = true := beq_iff_eq.mpr c8
      have c8b1 : (t206 != 0) = false := bne_eq_false_iff_eq.mpr c8
      clear c8
      (first | rw [c8b0] | (simp only [i64_w, i32_w]; rw [c8b0]) | skip)
      replace H := Option.bind_eq_some_iff.mp H
      obtain ⟨t209, A90, H⟩ := H
      replace H : (munimentref02_Get.j0 k t205 (!t209) a0_0 a0_1 a0_2 l0_3 l0_4) = some (r1, r2, r3, r4, r5, r6) := H
      have A9 := Aside0.mk A90
      clear A90
      have H' := Aside0.mk H
      clear H
      have hnb10 := NB203_204.out
      have hnc10 := NB204_203.out
      have hcz11_0 : w7.cell? ⟨gb203, 0, none⟩ = some (.int .i64 a0_0) := (blk_cell BK203.out 0).trans rfl
      have hcz11_1 : w7.cell? ⟨gb203, 1, none⟩ = some (.int .i64 a0_1) := (blk_cell BK203.out 1).trans rfl
      have hcz11_2 : w7.cell? ⟨gb203, 2, none⟩ = some (.string a0_2) := (blk_cell BK203.out 2).trans rfl
      have hcz11_3 : w7.cell? ⟨gb203, 3, none⟩ = some (.slice A0_3 l0_3.length c0_3) := (blk_cell BK203.out 3).trans rfl
      have hcz11_4 : w7.cell? ⟨gb203, 4, none⟩ = some (.slice A0_4 l0_4.length c0_4) := (blk_cell BK203.out 4).trans rfl
      have hfz11_0 := blk_frozen BK203.out 0
      have hfz11_1 := blk_frozen BK203.out 1
      have hfz11_2 := blk_frozen BK203.out 2
      have hfz11_3 := blk_frozen BK203.out 3
      have hfz11_4 := blk_frozen BK203.out 4
      go_wp2_with (first | (go_at_call 23; (with_reducible refine (munimentref01_Formed.calls k a0_0 a0_1 a0_2 _ _ l0_3 _ _ l0_4 t209 _ ?side1 ?side2 ?side3 ?side4 A9.out).mono ?_); (case side1 => repeat (first | exact (Kd.V_reads' HO0_3.out).2.2 | (with_reducible refine Kd.C_alloc ?_ _) | (with_reducible refine Kd.C_drewN ?_ _) | (with_reducible refine Kd.C_drew ?_))); (case side2 => exact (Kd.V_reads' HO0_3.out).2.1); (case side3 => repeat (first | exact (Kd.V_reads' HO0_4.out).2.2 | (with_reducible refine Kd.C_alloc ?_ _) | (with_reducible refine Kd.C_drewN ?_ _) | (with_reducible refine Kd.C_drew ?_))); (case side4 => exact (Kd.V_reads' HO0_4.out).2.1); rintro e w12 ⟨rfl, hb⟩; have n0_ := Aside0.mk (Kd.V_below (by (with_reducible repeat (first | apply Kd.V_alloc | apply Kd.V_drewN | apply Kd.V_drew)); exact HO0_3.out) hb); have n1_ := Aside0.mk (Kd.V_below (by (with_reducible repeat (first | apply Kd.V_alloc | apply Kd.V_drewN | apply Kd.V_drew)); exact HO0_4.out) hb); have n2_ := Aside0.mk (Kd.R_below (by (with_reducible repeat (first | apply Kd.R_alloc | apply Kd.R_drewN | apply Kd.R_drew)); exact HO208.out) hb); have n3_ := Aside0.mk (blk_below (g := gb203) (o := .cells #[.int .i64 a0_0, .int .i64 a0_1, .string a0_2, .slice A0_3 l0_3.length c0_3, .slice A0_4 l0_4.length c0_4] 30 (0, 0)) (by (with_reducible repeat (first | refine blk_drewN ?_ _ | refine blk_drew ?_ | refine blk_alloc ?_ _)); exact BK203.out) hb); have n4_ := Aside0.mk (blk_below (g := gb204) (o := .cells #[.int .i64 0, .int .i64 0, .string (⟨#[]⟩ : ByteArray), .slice none 0 0, .slice none 0 0] 30 (0, 0)) (by (with_reducible repeat (first | refine blk_drewN ?_ _ | refine blk_drew ?_ | refine blk_alloc ?_ _)); exact BK204.out) hb); have n5_ := Aside0.mk (below_step (by repeat (first | (with_reducible first | exact HB.out | apply below_alloc | apply pw_below_drewN | apply below_drew1 | refine below_set ?_ GE203.out | refine below_set ?_ GE204.out) | exact HB.out)) hb); clear HO0_3; clear HO0_4; clear HO208; clear BK203; clear BK204; clear HB; have HO0_3 := n0_; have HO0_4 := n1_; have HO208 := n2_; have BK203 := n3_; have BK204 := n4_; have HB := n5_; clear n0_ n1_ n2_ n3_ n4_ n5_; (try clear hb); (try clear hb2); (try clear hk); (try clear hi)))
      go_meet
      case rel => exact ⟨_, (!t209), (by first | rfl | (simp; done) | (simp [*]; done)), H', ⟨by first | omega | exact Nat.le_refl _⟩, ⟨by (with_reducible repeat (first | apply Kd.R_alloc | apply Kd.R_drewN | apply Kd.R_drew)); exact Kd.R_mono HO208.out (fun _ hk => hk.1)⟩, ⟨by (with_reducible repeat (first | apply Kd.V_alloc | apply Kd.V_drewN | apply Kd.V_drew)); exact Kd.V_mono HO0_3.out (fun _ hk => ⟨hk.1.1.1, ⟨hk.2, ⟨hk.1.1.2, hk.1.2⟩⟩⟩)⟩, ⟨by (with_reducible repeat (first | apply Kd.V_alloc | apply Kd.V_drewN | apply Kd.V_drew)); exact Kd.V_mono HO0_4.out (fun _ hk => ⟨hk.1.1.1, ⟨hk.2, ⟨hk.1.1.2, hk.1.2⟩⟩⟩)⟩, ⟨by (with_reducible repeat (first | refine blk_drewN ?_ _ | refine blk_drew ?_ | refine blk_alloc ?_ _)); exact BK203.out⟩, ⟨by (with_reducible repeat (first | refine blk_drewN ?_ _ | refine blk_drew ?_ | refine blk_alloc ?_ _)); exact BK204.out⟩, ⟨by repeat (first | (with_reducible first | exact HB.out | apply below_alloc | apply pw_below_drewN | apply below_drew1 | refine below_set ?_ GE203.out | refine below_set ?_ GE204.out) | exact HB.out)⟩⟩
    · rw [if_neg c8] at H
      have c8b0 : (t206 == 0) = false := beq_eq_false_iff_ne.mpr c8
      have c8b1 : (t206 != 0) = true := bne_iff_ne.mpr c8
      (first | rw [c8b0] | (simp only [i64_w, i32_w]; rw [c8b0]) | skip)
      have H' := Aside0.mk H
      clear H
      go_wp2
      go_meet
      case rel => exact ⟨_, (true), (by first | rfl | (simp; done) | (simp [*]; done)), H', ⟨by first | omega | exact Nat.le_refl _⟩, ⟨by (with_reducible repeat (first | apply Kd.R_alloc | apply Kd.R_drewN | apply Kd.R_drew)); exact Kd.R_mono HO208.out (fun _ hk => hk.1)⟩, ⟨by (with_reducible repeat (first | apply Kd.V_alloc | apply Kd.V_drewN | apply Kd.V_drew)); exact Kd.V_mono HO0_3.out (fun _ hk => ⟨hk.1.1.1, ⟨hk.2, ⟨hk.1.1.2, hk.1.2⟩⟩⟩)⟩, ⟨by (with_reducible repeat (first | apply Kd.V_alloc | apply Kd.V_drewN | apply Kd.V_drew)); exact Kd.V_mono HO0_4.out (fun _ hk => ⟨hk.1.1.1, ⟨hk.2, ⟨hk.1.1.2, hk.1.2⟩⟩⟩)⟩, ⟨by (with_reducible repeat (first | refine blk_drewN ?_ _ | refine blk_drew ?_ | refine blk_alloc ?_ _)); exact BK203.out⟩, ⟨by (with_reducible repeat (first | refine blk_drewN ?_ _ | refine blk_drew ?_ | refine blk_alloc ?_ _)); exact BK204.out⟩, ⟨by repeat (first | (with_reducible first | exact HB.out | apply below_alloc | apply pw_below_drewN | apply below_drew1 | refine below_set ?_ GE203.out | refine below_set ?_ GE204.out) | exact HB.out)⟩⟩
  case rest =>
    clear HC4
    try clear c1
    try clear p2
    try clear c8
    try clear c8b0
    try clear c8b1
    try clear c10
    try clear hcz11_0
    try clear hcz11_1
    try clear hcz11_2
    try clear hcz11_3
    try clear hcz11_4
    try clear hfz11_0
    try clear hfz11_1
    try clear hfz11_2
    try clear hfz11_3
    try clear hfz11_4
    obtain ⟨kq, x21_3, rfl, HA, HJ3, HO_6, HO_204003, HO_204004, BK203, BK204, HB⟩ := hcut
    cases kq with
    | zero => exact absurd HA.out (by simp [munimentref02_Get.j0])
    | succ kj3 =>
      have H := HA.out
      clear HA
      simp only [munimentref02_Get.j0] at H
      by_cases c13 : x21_3 = true
      · subst c13
        have H1 : (some (0, 0, (⟨#[]⟩ : ByteArray), ([] : List ByteArray), ([] : List (S30)), false)) = some (r1, r2, r3, r4, r5, r6) := by rw [if_pos rfl] at H; exact H
        clear H
        have H := H1
        clear H1
        simp only [Option.some.injEq, Prod.mk.injEq] at H
        obtain ⟨rfl, rfl, rfl, rfl, rfl, rfl⟩ := H
        have hnb14 := NB204_203.out
        have hnc14 := NB203_204.out
        have hcz15_0 : wc.cell? ⟨gb204, 0, none⟩ = some (.int .i64 0) := (blk_cell BK204.out 0).trans rfl
        have hcz15_1 : wc.cell? ⟨gb204, 1, none⟩ = some (.int .i64 0) := (blk_cell BK204.out 1).trans rfl
        have hcz15_2 : wc.cell? ⟨gb204, 2, none⟩ = some (.string (⟨#[]⟩ : ByteArray)) := (blk_cell BK204.out 2).trans rfl
        have hcz15_3 : wc.cell? ⟨gb204, 3, none⟩ = some (.slice none 0 0) := (blk_cell BK204.out 3).trans rfl
        have hcz15_4 : wc.cell? ⟨gb204, 4, none⟩ = some (.slice none 0 0) := (blk_cell BK204.out 4).trans rfl
        have hfz15_0 := blk_frozen BK204.out 0
        have hfz15_1 := blk_frozen BK204.out 1
        have hfz15_2 := blk_frozen BK204.out 2
        have hfz15_3 := blk_frozen BK204.out 3
        have hfz15_4 := blk_frozen BK204.out 4
        go_wp2
        refine bodyPost_ret (results_ct rfl _ _ gb204 30 #[.int .i64 0, .int .i64 0, .string (⟨#[]⟩ : ByteArray), .slice none 0 0, .slice none 0 0] (0, 0) _ rfl (by (with_reducible repeat (first | refine blk_drewN ?_ _ | refine blk_drew ?_ | refine blk_alloc ?_ _)); refine blk_put (cs := #[.int .i64 0, .int .i64 0, .string (⟨#[]⟩ : ByteArray), .slice none 0 0, .slice none 0 0]) ?_ 4 _ rfl; (with_reducible repeat (first | refine blk_drewN ?_ _ | refine blk_drew ?_ | refine blk_alloc ?_ _)); refine blk_put (cs := #[.int .i64 0, .int .i64 0, .string (⟨#[]⟩ : ByteArray), .slice none 0 0, .slice none 0 0]) ?_ 3 _ rfl; (with_reducible repeat (first | refine blk_drewN ?_ _ | refine blk_drew ?_ | refine blk_alloc ?_ _)); refine blk_put (cs := #[.int .i64 0, .int .i64 0, .string (⟨#[]⟩ : ByteArray), .slice none 0 0, .slice none 0 0]) ?_ 2 _ rfl; (with_reducible repeat (first | refine blk_drewN ?_ _ | refine blk_drew ?_ | refine blk_alloc ?_ _)); refine blk_put (cs := #[.int .i64 0, .int .i64 0, .string (⟨#[]⟩ : ByteArray), .slice none 0 0, .slice none 0 0]) ?_ 1 _ rfl; (with_reducible repeat (first | refine blk_drewN ?_ _ | refine blk_drew ?_ | refine blk_alloc ?_ _)); refine blk_put (cs := #[.int .i64 0, .int .i64 0, .string (⟨#[]⟩ : ByteArray), .slice none 0 0, .slice none 0 0]) ?_ 0 _ rfl; (with_reducible repeat (first | refine blk_drewN ?_ _ | refine blk_drew ?_ | refine blk_alloc ?_ _)); exact BK204.out) Tryd.underlying30 rfl (by kernel_rfl)) rfl ?_
        exact ⟨_, _, by first | rfl | (simp [errW_none, errW_some] <;> rfl) | (simp [*, errW_none, errW_some] <;> rfl), Kd.V_nil _ _ _ _ _, Kd.V_nil _ _ _ _ _, by repeat (first | (with_reducible first | exact HB.out | apply below_alloc | apply pw_below_drewN | apply below_drew1 | refine below_set ?_ GE203.out | refine below_set ?_ GE204.out) | exact HB.out)⟩
      · replace c13 := Bool.eq_false_iff.mpr c13
        subst c13
        have H1 : (munimentref02_Get.l0 kj3 t205 0 a0_0 a0_1 a0_2 l0_3 l0_4) = some (r1, r2, r3, r4, r5, r6) := by rw [if_neg (show ¬ (false = true) by decide)] at H; exact H
        clear H
        have H := H1
        clear H1
        have H' := Aside0.mk H
        clear H
        go_wp2
        go_loopg [8] kj3 (fun kq v8 w' => ∃ (x8_2 : Int) (x204000_2 : Int) (x204001_2 : Int) (x204002_2 : ByteArray) (x204003_2 : List ByteArray) (x204004_2 : List (S30)) (x205000_2 : Int) (x205001_2 : Int) (x205002_2 : ByteArray) (u204003 : Value) (u204004 : Value), v8 = .int .i64 x8_2 ∧ Aside0 (munimentref02_Get.l0 kq t205 x8_2 x204000_2 x204001_2 x204002_2 x204003_2 x204004_2 = some (r1, r2, r3, r4, r5, r6)) ∧ Aside0 (kq ≤ kj3) ∧ Aside0 (Kd.R Kd.string 9 w' w.heap.size (fun k_ => (w.heap.size ≤ k_)) v207 t205) ∧ Aside0 (Kd.V Kd.string 9 w' w.heap.size (fun k_ => ((P0_3_ k_ ∨ P0_4_ k_) ∨ w.heap.size ≤ k_) ∧ some k_ ≠ (v207 : Value).ownBlock ∧ k_ ≠ gb203 ∧ k_ ≠ gb204) u204003 x204003_2) ∧ Aside0 (Kd.V k30 30 w' w.heap.size (fun k_ => ((P0_3_ k_ ∨ P0_4_ k_) ∨ w.heap.size ≤ k_) ∧ some k_ ≠ (v207 : Value).ownBlock ∧ k_ ≠ gb203 ∧ k_ ≠ gb204) u204004 x204004_2) ∧ Aside0 (w'.heap[gb203]? = some (.cells #[.int .i64 x204000_2, .int .i64 x204001_2, .string x204002_2, u204003, u204004] 30 (0, 0))) ∧ Aside0 (w'.heap[gb204]? = some (.cells #[.int .i64 x205000_2, .int .i64 x205001_2, .string x205002_2, (.slice none 0 0), (.slice none 0 0)] 30 (0, 0))) ∧ Aside0 (Below w.heap.size w w'))
        case atStart => exact ⟨(0), (a0_0), (a0_1), (a0_2), (l0_3), (l0_4), (0), (0), ((⟨#[]⟩ : ByteArray)), (.slice A0_3 l0_3.length c0_3), (.slice A0_4 l0_4.length c0_4), (by first | rfl | (simp; done) | (simp [*]; done)), H', ⟨Nat.le_refl _⟩, ⟨by (with_reducible repeat (first | apply Kd.R_alloc | apply Kd.R_drewN | apply Kd.R_drew)); exact HO_6.out⟩, ⟨by (with_reducible repeat (first | apply Kd.V_alloc | apply Kd.V_drewN | apply Kd.V_drew)); exact HO_204003.out⟩, ⟨by (with_reducible repeat (first | apply Kd.V_alloc | apply Kd.V_drewN | apply Kd.V_drew)); exact HO_204004.out⟩, ⟨by (with_reducible repeat (first | refine blk_drewN ?_ _ | refine blk_drew ?_ | refine blk_alloc ?_ _)); exact BK203.out⟩, ⟨by (with_reducible repeat (first | refine blk_drewN ?_ _ | refine blk_drew ?_ | refine blk_alloc ?_ _)); exact BK204.out⟩, ⟨by repeat (first | (with_reducible first | exact HB.out | apply below_alloc | apply pw_below_drewN | apply below_drew1 | refine below_set ?_ GE203.out | refine below_set ?_ GE204.out) | exact HB.out)⟩⟩
        case round =>
          clear H'
          try clear c1
          try clear p2
          try clear c8
          try clear c8b0
          try clear c8b1
          try clear c10
          try clear c13
          try clear c14
          try clear hcz11_0
          try clear hcz11_1
          try clear hcz11_2
          try clear hcz11_3
          try clear hcz11_4
          try clear hcz15_0
          try clear hcz15_1
          try clear hcz15_2
          try clear hcz15_3
          try clear hcz15_4
          try clear hfz11_0
          try clear hfz11_1
          try clear hfz11_2
          try clear hfz11_3
          try clear hfz11_4
          try clear hfz15_0
          try clear hfz15_1
          try clear hfz15_2
          try clear hfz15_3
          try clear hfz15_4
          try clear p2
          try clear BK203
          try clear BK204
          obtain ⟨x8_2, x204000_2, x204001_2, x204002_2, x204003_2, x204004_2, x205000_2, x205001_2, x205002_2, u204003, u204004, rfl, HA, HK2, HO_6, HO_204003, HO_204004, BK203, BK204, HB⟩ := hrel
          cases gk with
          | zero => exact absurd HA.out (by simp [munimentref02_Get.l0])
          | succ k2 =>
            have H := HA.out
            clear HA
            simp only [munimentref02_Get.l0] at H
            by_cases c16 : x8_2 < (t205.length : Int)
            · rw [if_pos c16] at H
              have c16b0 : decide (x8_2 < (t205.length : Int)) = true := decide_eq_true c16
              clear c16
              by_cases c17 : 0 ≤ x8_2
              · rw [if_pos c17] at H
                have c17b0 : decide (0 ≤ x8_2) = true := decide_eq_true c17
                clear c17
                replace H := Option.bind_eq_some_iff.mp H
                obtain ⟨t211, A180, H⟩ := H
                replace H : (if t211 < 0 then (some (0, 0, (⟨#[]⟩ : ByteArray), ([] : List ByteArray), ([] : List (S30)), false)) else (if 0 ≤ t211 then (if t211 < (x204004_2.length : Int) then (munimentref02_Get.l0 k2 t205 (wrap64 (x8_2 + 1)) ((rd_T30 x204004_2 t211).f0) ((rd_T30 x204004_2 t211).f1) ((rd_T30 x204004_2 t211).f2) ((rd_T30 x204004_2 t211).f3) ((rd_T30 x204004_2 t211).f4)) else (none)) else (none))) = some (r1, r2, r3, r4, r5, r6) := H
                have A18 := Aside0.mk A180
                clear A180
                by_cases c19 : t211 < 0
                · rw [if_pos c19] at H
                  have c19b0 : decide (t211 < 0) = true := decide_eq_true c19
                  clear c19
                  simp only [Option.some.injEq, Prod.mk.injEq] at H
                  obtain ⟨rfl, rfl, rfl, rfl, rfl, rfl⟩ := H
                  obtain ⟨Ao20, co20, eo20⟩ := Kd.R_slice HO_6.out
                  subst eo20
                  try go_wp2
                  have n0_ := Aside0.mk (Kd.R_drew HO_6.out)
                  have n1_ := Aside0.mk (Kd.V_drew HO_204003.out)
                  have n2_ := Aside0.mk (Kd.V_drew HO_204004.out)
                  have n3_ := Aside0.mk (blk_drew BK203.out)
                  have n4_ := Aside0.mk (blk_drew BK204.out)
                  have n5_ := Aside0.mk (below_drew1 HB.out)
                  clear HO_6
                  clear HO_204003
                  clear HO_204004
                  clear BK203
                  clear BK204
                  clear HB
                  have HO_6 := n0_
                  have HO_204003 := n1_
                  have HO_204004 := n2_
                  have BK203 := n3_
                  have BK204 := n4_
                  have HB := n5_
                  clear n0_ n1_ n2_ n3_ n4_ n5_
                  have p210 : 0 ≤ (x8_2 : Int) := of_decide_eq_true (by first | (with_reducible assumption) | assumption)
                  have q210 : x8_2 < (t205.length : Int) := of_decide_eq_true (by first | (with_reducible assumption) | assumption)
                  obtain ⟨ad210, e210, hx210_0⟩ := Kd.at_string (Kd.R_reads' HO_6.out).2.2 x8_2 p210 q210
                  cases e210
                  replace p210 := eq_true p210
                  replace q210 := eq_true q210
                  obtain ⟨Ao22, co22, eo22⟩ := Kd.V_slice HO_204003.out
                  (first | subst eo22 | (injection eo22 with f1_ f2_ f3_; have f4_ := f1_.symm; have f5_ := f3_.symm; clear f1_ f2_ f3_; subst f4_; subst f5_))
                  obtain ⟨Ao23, co23, eo23⟩ := Kd.V_slice HO_204004.out
                  (first | subst eo23 | (injection eo23 with f1_ f2_ f3_; have f4_ := f1_.symm; have f5_ := f3_.symm; clear f1_ f2_ f3_; subst f4_; subst f5_))
                  refine start_ (n := 7) (S := fun w' => w'.cell? ⟨gb203, 0, none⟩ = some (.int .i64 x204000_2) ∧ w'.cell? ⟨gb203, 1, none⟩ = some (.int .i64 x204001_2) ∧ w'.cell? ⟨gb203, 2, none⟩ = some (.string x204002_2) ∧ w'.cell? ⟨gb203, 3, none⟩ = some (.slice Ao22 x204003_2.length co22) ∧ w'.cell? ⟨gb203, 4, none⟩ = some (.slice Ao23 x204004_2.length co23) ∧ w'.cell? (ad210.add (x8_2).toNat) = some (.string (rdOf ByteArray.empty t205 x8_2))) (ds := []) #[false, false, false, false, false, false, false] (by kernel_rfl) rfl rfl ⟨(blk_cell BK203.out 0).trans rfl, (blk_cell BK203.out 1).trans rfl, (blk_cell BK203.out 2).trans rfl, (blk_cell BK203.out 3).trans rfl, (blk_cell BK203.out 4).trans rfl, hx210_0⟩ (fun hHeld => ?_)
                  generalize wr.drew = w21 at HO_6 HO_204003 HO_204004 BK203 BK204 HB hx210_0 hHeld ⊢
                  refine pure_ (i := 1) (N := some 30) (v := ?_) (a' := ?_) #[false, true, false, false, false, false, false] rfl rfl (by kernel_rfl) (fun _ _ _ h => h) (Or.inl ⟨by rfl, ?_⟩) ?_ ?_
                  rotate_left
                  · intro w'
                    go_simp
                    with_reducible rfl
                  rotate_left
                  · simp only [Act.put, List.setIfInBounds_toArray, List.set_cons_zero, List.set_cons_succ, i64_w, i32_w]
                    rfl
                  refine pure_ (i := 2) (N := some 31) (v := ?_) (a' := ?_) #[false, true, true, false, false, false, false] rfl rfl (by kernel_rfl) (fun _ _ _ h => h) (Or.inl ⟨by rfl, ?_⟩) ?_ ?_
                  rotate_left
                  · intro w'
                    go_simp
                    with_reducible rfl
                  rotate_left
                  · simp only [Act.put, List.setIfInBounds_toArray, List.set_cons_zero, List.set_cons_succ, i64_w, i32_w]
                    rfl
                  refine pure_ (i := 3) (N := some 32) (v := ?_) (a' := ?_) #[false, true, true, true, false, false, false] rfl rfl (by kernel_rfl) (fun _ _ _ h => h) (Or.inl ⟨by rfl, ?_⟩) ?_ ?_
                  rotate_left
                  · intro w'
                    go_simp
                    with_reducible rfl
                  rotate_left
                  · simp only [Act.put, List.setIfInBounds_toArray, List.set_cons_zero, List.set_cons_succ, i64_w, i32_w]
                    rfl
                  refine take_ (i := 0) (N := some 29) (v := ?_) (a' := ?_) #[true, true, true, true, false, false, false] rfl rfl (by kernel_rfl) (fun _ _ _ h => h) (Or.inl ⟨by rfl, ?_⟩) hHeld ?_ ?_
                  rotate_left
                  · rintro w' ⟨s0, s1, s2, s3, s4, s5⟩
                    go_simp
                    with_reducible rfl
                  rotate_left
                  · simp only [Act.put, List.setIfInBounds_toArray, List.set_cons_zero, List.set_cons_succ, i64_w, i32_w]
                    rfl
                  refine take_ (i := 4) (N := some 33) (v := ?_) (a' := ?_) #[true, true, true, true, true, false, false] rfl rfl (by kernel_rfl) (fun _ _ _ h => h) (Or.inl ⟨by rfl, ?_⟩) hHeld ?_ ?_
                  rotate_left
                  · rintro w' ⟨s0, s1, s2, s3, s4, s5⟩
                    go_simp
                    with_reducible rfl
                  rotate_left
                  · simp only [Act.put, List.setIfInBounds_toArray, List.set_cons_zero, List.set_cons_succ, i64_w, i32_w]
                    rfl
                  refine one_ (i := 5) (N := some 34) #[true, true, true, true, true, true, false] rfl rfl (by kernel_rfl) (by decide) (fun K hK => ?_)
                  refine goes_ Tryd.func24 (by kernel_rfl) rfl #[.agg #[.int .i64 x204000_2, .int .i64 x204001_2, .string x204002_2, .slice Ao22 x204003_2.length co22, .slice Ao23 x204004_2.length co23], .string (rdOf ByteArray.empty t205 x8_2)] (by rfl) rfl rfl (by (try simp only [List.map_toArray, List.map_cons, List.map_nil]); first | done | rfl | (simp only [List.length_drop, List.length_take]; rfl)) ?_
                  with_reducible refine (munimentref02_place.calls k2 x204000_2 x204001_2 x204002_2 _ _ x204003_2 _ _ x204004_2 (rdOf ByteArray.empty t205 x8_2) t211 _ ?side1 ?side2 ?side3 ?side4 A18.out).mono ?_
                  (case side1 => repeat (first | exact (Kd.V_reads' HO_204003.out).2.2 | (with_reducible refine Kd.C_alloc ?_ _) | (with_reducible refine Kd.C_drewN ?_ _) | (with_reducible refine Kd.C_drew ?_)))
                  (case side2 => exact (Kd.V_reads' HO_204003.out).2.1)
                  (case side3 => repeat (first | exact (Kd.V_reads' HO_204004.out).2.2 | (with_reducible refine Kd.C_alloc ?_ _) | (with_reducible refine Kd.C_drewN ?_ _) | (with_reducible refine Kd.C_drew ?_)))
                  (case side4 => exact (Kd.V_reads' HO_204004.out).2.1)
                  rintro e w24 ⟨rfl, hb⟩
                  have HS5_ := (hb.cell (World.block_lt_of_cell? _ _ (hHeld.2.2.2.2.2))).trans (hHeld.2.2.2.2.2)
                  refine ⟨_, rfl, ?_⟩
                  have n0_ := Aside0.mk (Kd.R_below (by (with_reducible repeat (first | apply Kd.R_alloc | apply Kd.R_drewN | apply Kd.R_drew)); exact HO_6.out) hb)
                  have n1_ := Aside0.mk (Kd.V_below (by (with_reducible repeat (first | apply Kd.V_alloc | apply Kd.V_drewN | apply Kd.V_drew)); exact HO_204003.out) hb)
                  have n2_ := Aside0.mk (Kd.V_below (by (with_reducible repeat (first | apply Kd.V_alloc | apply Kd.V_drewN | apply Kd.V_drew)); exact HO_204004.out) hb)
                  have n3_ := Aside0.mk (blk_below (g := gb203) (o := .cells #[.int .i64 x204000_2, .int .i64 x204001_2, .string x204002_2, .slice Ao22 x204003_2.length co22, .slice Ao23 x204004_2.length co23] 30 (0, 0)) (by (with_reducible repeat (first | refine blk_drewN ?_ _ | refine blk_drew ?_ | refine blk_alloc ?_ _)); exact BK203.out) hb)
                  have n4_ := Aside0.mk (blk_below (g := gb204) (o := .cells #[.int .i64 x205000_2, .int .i64 x205001_2, .string x205002_2, .slice none 0 0, .slice none 0 0] 30 (0, 0)) (by (with_reducible repeat (first | refine blk_drewN ?_ _ | refine blk_drew ?_ | refine blk_alloc ?_ _)); exact BK204.out) hb)
                  have n5_ := Aside0.mk (below_step (by repeat (first | (with_reducible first | exact HB.out | apply below_alloc | apply pw_below_drewN | apply below_drew1 | refine below_set ?_ GE203.out | refine below_set ?_ GE204.out) | exact HB.out)) hb)
                  clear HO_6
                  clear HO_204003
                  clear HO_204004
                  clear BK203
                  clear BK204
                  clear HB
                  have HO_6 := n0_
                  have HO_204003 := n1_
                  have HO_204004 := n2_
                  have BK203 := n3_
                  have BK204 := n4_
                  have HB := n5_
                  clear n0_ n1_ n2_ n3_ n4_ n5_
                  (try clear hb)
                  (try clear hb2)
                  (try clear hk)
                  (try clear hi)
                  refine hK.out _ _ ⟨(blk_cell BK203.out 0).trans rfl, (blk_cell BK203.out 1).trans rfl, (blk_cell BK203.out 2).trans rfl, (blk_cell BK203.out 3).trans rfl, (blk_cell BK203.out 4).trans rfl, HS5_⟩ (fun hHeld => ?_)
                  clear hK K
                  refine norm_ (a' := ?_) ?_ ?_
                  rotate_left
                  · show Act.put _ (some 34) _ = _
                    simp only [Act.put, List.setIfInBounds_toArray, List.set_cons_zero, List.set_cons_succ, i64_w, i32_w]
                    rfl
                  refine pure_ (i := 6) (N := some 9) (v := ?_) (a' := ?_) #[true, true, true, true, true, true, true] rfl rfl (by kernel_rfl) (fun _ _ _ h => h) (Or.inl ⟨by rfl, ?_⟩) ?_ ?_
                  rotate_left
                  · intro w'
                    go_simp
                    with_reducible rfl
                  rotate_left
                  · simp only [Act.put, List.setIfInBounds_toArray, List.set_cons_zero, List.set_cons_succ, i64_w, i32_w]
                    rfl
                  refine done_ (by kernel_rfl) ?_
                  have hnb25 := NB204_203.out
                  have hnc25 := NB203_204.out
                  have hcz26_0 : w24.cell? ⟨gb204, 0, none⟩ = some (.int .i64 x205000_2) := (blk_cell BK204.out 0).trans rfl
                  have hcz26_1 : w24.cell? ⟨gb204, 1, none⟩ = some (.int .i64 x205001_2) := (blk_cell BK204.out 1).trans rfl
                  have hcz26_2 : w24.cell? ⟨gb204, 2, none⟩ = some (.string x205002_2) := (blk_cell BK204.out 2).trans rfl
                  have hcz26_3 : w24.cell? ⟨gb204, 3, none⟩ = some (.slice none 0 0) := (blk_cell BK204.out 3).trans rfl
                  have hcz26_4 : w24.cell? ⟨gb204, 4, none⟩ = some (.slice none 0 0) := (blk_cell BK204.out 4).trans rfl
                  have hfz26_0 := blk_frozen BK204.out 0
                  have hfz26_1 := blk_frozen BK204.out 1
                  have hfz26_2 := blk_frozen BK204.out 2
                  have hfz26_3 := blk_frozen BK204.out 3
                  have hfz26_4 := blk_frozen BK204.out 4
                  try go_wp2
                  refine bodyPost_ret (results_ct rfl _ _ gb204 30 #[.int .i64 0, .int .i64 0, .string (⟨#[]⟩ : ByteArray), .slice none 0 0, .slice none 0 0] (0, 0) _ rfl (by (with_reducible repeat (first | refine blk_drewN ?_ _ | refine blk_drew ?_ | refine blk_alloc ?_ _)); refine blk_put (cs := #[.int .i64 0, .int .i64 0, .string (⟨#[]⟩ : ByteArray), .slice none 0 0, .slice none 0 0]) ?_ 4 _ rfl; (with_reducible repeat (first | refine blk_drewN ?_ _ | refine blk_drew ?_ | refine blk_alloc ?_ _)); refine blk_put (cs := #[.int .i64 0, .int .i64 0, .string (⟨#[]⟩ : ByteArray), .slice none 0 0, .slice none 0 0]) ?_ 3 _ rfl; (with_reducible repeat (first | refine blk_drewN ?_ _ | refine blk_drew ?_ | refine blk_alloc ?_ _)); refine blk_put (cs := #[.int .i64 0, .int .i64 0, .string x205002_2, .slice none 0 0, .slice none 0 0]) ?_ 2 _ rfl; (with_reducible repeat (first | refine blk_drewN ?_ _ | refine blk_drew ?_ | refine blk_alloc ?_ _)); refine blk_put (cs := #[.int .i64 0, .int .i64 x205001_2, .string x205002_2, .slice none 0 0, .slice none 0 0]) ?_ 1 _ rfl; (with_reducible repeat (first | refine blk_drewN ?_ _ | refine blk_drew ?_ | refine blk_alloc ?_ _)); refine blk_put (cs := #[.int .i64 x205000_2, .int .i64 x205001_2, .string x205002_2, .slice none 0 0, .slice none 0 0]) ?_ 0 _ rfl; (with_reducible repeat (first | refine blk_drewN ?_ _ | refine blk_drew ?_ | refine blk_alloc ?_ _)); exact BK204.out) Tryd.underlying30 rfl (by kernel_rfl)) rfl ?_
                  exact ⟨_, _, by first | rfl | (simp [errW_none, errW_some] <;> rfl) | (simp [*, errW_none, errW_some] <;> rfl), Kd.V_nil _ _ _ _ _, Kd.V_nil _ _ _ _ _, by repeat (first | (with_reducible first | exact HB.out | apply below_alloc | apply pw_below_drewN | apply below_drew1 | refine below_set ?_ GE203.out | refine below_set ?_ GE204.out) | exact HB.out)⟩
                · rw [if_neg c19] at H
                  have c19b0 : decide (t211 < 0) = false := decide_eq_false c19
                  clear c19
                  by_cases c27 : 0 ≤ t211
                  · rw [if_pos c27] at H
                    have c27b0 : decide (0 ≤ t211) = true := decide_eq_true c27
                    clear c27
                    by_cases c28 : t211 < (x204004_2.length : Int)
                    · rw [if_pos c28] at H
                      have c28b0 : decide (t211 < (x204004_2.length : Int)) = true := decide_eq_true c28
                      clear c28
                      have H' := Aside0.mk H
                      clear H
                      obtain ⟨Ao29, co29, eo29⟩ := Kd.R_slice HO_6.out
                      subst eo29
                      try go_wp2
                      have n0_ := Aside0.mk (Kd.R_drew HO_6.out)
                      have n1_ := Aside0.mk (Kd.V_drew HO_204003.out)
                      have n2_ := Aside0.mk (Kd.V_drew HO_204004.out)
                      have n3_ := Aside0.mk (blk_drew BK203.out)
                      have n4_ := Aside0.mk (blk_drew BK204.out)
                      have n5_ := Aside0.mk (below_drew1 HB.out)
                      clear HO_6
                      clear HO_204003
                      clear HO_204004
                      clear BK203
                      clear BK204
                      clear HB
                      have HO_6 := n0_
                      have HO_204003 := n1_
                      have HO_204004 := n2_
                      have BK203 := n3_
                      have BK204 := n4_
                      have HB := n5_
                      clear n0_ n1_ n2_ n3_ n4_ n5_
                      have p210 : 0 ≤ (x8_2 : Int) := of_decide_eq_true (by first | (with_reducible assumption) | assumption)
                      have q210 : x8_2 < (t205.length : Int) := of_decide_eq_true (by first | (with_reducible assumption) | assumption)
                      obtain ⟨ad210, e210, hx210_0⟩ := Kd.at_string (Kd.R_reads' HO_6.out).2.2 x8_2 p210 q210
                      cases e210
                      replace p210 := eq_true p210
                      replace q210 := eq_true q210
                      obtain ⟨Ao31, co31, eo31⟩ := Kd.V_slice HO_204003.out
                      (first | subst eo31 | (injection eo31 with f1_ f2_ f3_; have f4_ := f1_.symm; have f5_ := f3_.symm; clear f1_ f2_ f3_; subst f4_; subst f5_))
                      obtain ⟨Ao32, co32, eo32⟩ := Kd.V_slice HO_204004.out
                      (first | subst eo32 | (injection eo32 with f1_ f2_ f3_; have f4_ := f1_.symm; have f5_ := f3_.symm; clear f1_ f2_ f3_; subst f4_; subst f5_))
                      refine start_ (n := 7) (S := fun w' => w'.cell? ⟨gb203, 0, none⟩ = some (.int .i64 x204000_2) ∧ w'.cell? ⟨gb203, 1, none⟩ = some (.int .i64 x204001_2) ∧ w'.cell? ⟨gb203, 2, none⟩ = some (.string x204002_2) ∧ w'.cell? ⟨gb203, 3, none⟩ = some (.slice Ao31 x204003_2.length co31) ∧ w'.cell? ⟨gb203, 4, none⟩ = some (.slice Ao32 x204004_2.length co32) ∧ w'.cell? (ad210.add (x8_2).toNat) = some (.string (rdOf ByteArray.empty t205 x8_2))) (ds := []) #[false, false, false, false, false, false, false] (by kernel_rfl) rfl rfl ⟨(blk_cell BK203.out 0).trans rfl, (blk_cell BK203.out 1).trans rfl, (blk_cell BK203.out 2).trans rfl, (blk_cell BK203.out 3).trans rfl, (blk_cell BK203.out 4).trans rfl, hx210_0⟩ (fun hHeld => ?_)
                      generalize wr.drew = w30 at HO_6 HO_204003 HO_204004 BK203 BK204 HB hx210_0 hHeld ⊢
                      refine pure_ (i := 1) (N := some 30) (v := ?_) (a' := ?_) #[false, true, false, false, false, false, false] rfl rfl (by kernel_rfl) (fun _ _ _ h => h) (Or.inl ⟨by rfl, ?_⟩) ?_ ?_
                      rotate_left
                      · intro w'
                        go_simp
                        with_reducible rfl
                      rotate_left
                      · simp only [Act.put, List.setIfInBounds_toArray, List.set_cons_zero, List.set_cons_succ, i64_w, i32_w]
                        rfl
                      refine pure_ (i := 2) (N := some 31) (v := ?_) (a' := ?_) #[false, true, true, false, false, false, false] rfl rfl (by kernel_rfl) (fun _ _ _ h => h) (Or.inl ⟨by rfl, ?_⟩) ?_ ?_
                      rotate_left
                      · intro w'
                        go_simp
                        with_reducible rfl
                      rotate_left
                      · simp only [Act.put, List.setIfInBounds_toArray, List.set_cons_zero, List.set_cons_succ, i64_w, i32_w]
                        rfl
                      refine pure_ (i := 3) (N := some 32) (v := ?_) (a' := ?_) #[false, true, true, true, false, false, false] rfl rfl (by kernel_rfl) (fun _ _ _ h => h) (Or.inl ⟨by rfl, ?_⟩) ?_ ?_
                      rotate_left
                      · intro w'
                        go_simp
                        with_reducible rfl
                      rotate_left
                      · simp only [Act.put, List.setIfInBounds_toArray, List.set_cons_zero, List.set_cons_succ, i64_w, i32_w]
                        rfl
                      refine take_ (i := 0) (N := some 29) (v := ?_) (a' := ?_) #[true, true, true, true, false, false, false] rfl rfl (by kernel_rfl) (fun _ _ _ h => h) (Or.inl ⟨by rfl, ?_⟩) hHeld ?_ ?_
                      rotate_left
                      · rintro w' ⟨s0, s1, s2, s3, s4, s5⟩
                        go_simp
                        with_reducible rfl
                      rotate_left
                      · simp only [Act.put, List.setIfInBounds_toArray, List.set_cons_zero, List.set_cons_succ, i64_w, i32_w]
                        rfl
                      refine take_ (i := 4) (N := some 33) (v := ?_) (a' := ?_) #[true, true, true, true, true, false, false] rfl rfl (by kernel_rfl) (fun _ _ _ h => h) (Or.inl ⟨by rfl, ?_⟩) hHeld ?_ ?_
                      rotate_left
                      · rintro w' ⟨s0, s1, s2, s3, s4, s5⟩
                        go_simp
                        with_reducible rfl
                      rotate_left
                      · simp only [Act.put, List.setIfInBounds_toArray, List.set_cons_zero, List.set_cons_succ, i64_w, i32_w]
                        rfl
                      refine one_ (i := 5) (N := some 34) #[true, true, true, true, true, true, false] rfl rfl (by kernel_rfl) (by decide) (fun K hK => ?_)
                      refine goes_ Tryd.func24 (by kernel_rfl) rfl #[.agg #[.int .i64 x204000_2, .int .i64 x204001_2, .string x204002_2, .slice Ao31 x204003_2.length co31, .slice Ao32 x204004_2.length co32], .string (rdOf ByteArray.empty t205 x8_2)] (by rfl) rfl rfl (by (try simp only [List.map_toArray, List.map_cons, List.map_nil]); first | done | rfl | (simp only [List.length_drop, List.length_take]; rfl)) ?_
                      with_reducible refine (munimentref02_place.calls k2 x204000_2 x204001_2 x204002_2 _ _ x204003_2 _ _ x204004_2 (rdOf ByteArray.empty t205 x8_2) t211 _ ?side1 ?side2 ?side3 ?side4 A18.out).mono ?_
                      (case side1 => repeat (first | exact (Kd.V_reads' HO_204003.out).2.2 | (with_reducible refine Kd.C_alloc ?_ _) | (with_reducible refine Kd.C_drewN ?_ _) | (with_reducible refine Kd.C_drew ?_)))
                      (case side2 => exact (Kd.V_reads' HO_204003.out).2.1)
                      (case side3 => repeat (first | exact (Kd.V_reads' HO_204004.out).2.2 | (with_reducible refine Kd.C_alloc ?_ _) | (with_reducible refine Kd.C_drewN ?_ _) | (with_reducible refine Kd.C_drew ?_)))
                      (case side4 => exact (Kd.V_reads' HO_204004.out).2.1)
                      rintro e w33 ⟨rfl, hb⟩
                      have HS5_ := (hb.cell (World.block_lt_of_cell? _ _ (hHeld.2.2.2.2.2))).trans (hHeld.2.2.2.2.2)
                      refine ⟨_, rfl, ?_⟩
                      have n0_ := Aside0.mk (Kd.R_below (by (with_reducible repeat (first | apply Kd.R_alloc | apply Kd.R_drewN | apply Kd.R_drew)); exact HO_6.out) hb)
                      have n1_ := Aside0.mk (Kd.V_below (by (with_reducible repeat (first | apply Kd.V_alloc | apply Kd.V_drewN | apply Kd.V_drew)); exact HO_204003.out) hb)
                      have n2_ := Aside0.mk (Kd.V_below (by (with_reducible repeat (first | apply Kd.V_alloc | apply Kd.V_drewN | apply Kd.V_drew)); exact HO_204004.out) hb)
                      have n3_ := Aside0.mk (blk_below (g := gb203) (o := .cells #[.int .i64 x204000_2, .int .i64 x204001_2, .string x204002_2, .slice Ao31 x204003_2.length co31, .slice Ao32 x204004_2.length co32] 30 (0, 0)) (by (with_reducible repeat (first | refine blk_drewN ?_ _ | refine blk_drew ?_ | refine blk_alloc ?_ _)); exact BK203.out) hb)
                      have n4_ := Aside0.mk (blk_below (g := gb204) (o := .cells #[.int .i64 x205000_2, .int .i64 x205001_2, .string x205002_2, .slice none 0 0, .slice none 0 0] 30 (0, 0)) (by (with_reducible repeat (first | refine blk_drewN ?_ _ | refine blk_drew ?_ | refine blk_alloc ?_ _)); exact BK204.out) hb)
                      have n5_ := Aside0.mk (below_step (by repeat (first | (with_reducible first | exact HB.out | apply below_alloc | apply pw_below_drewN | apply below_drew1 | refine below_set ?_ GE203.out | refine below_set ?_ GE204.out) | exact HB.out)) hb)
                      clear HO_6
                      clear HO_204003
                      clear HO_204004
                      clear BK203
                      clear BK204
                      clear HB
                      have HO_6 := n0_
                      have HO_204003 := n1_
                      have HO_204004 := n2_
                      have BK203 := n3_
                      have BK204 := n4_
                      have HB := n5_
                      clear n0_ n1_ n2_ n3_ n4_ n5_
                      (try clear hb)
                      (try clear hb2)
                      (try clear hk)
                      (try clear hi)
                      refine hK.out _ _ ⟨(blk_cell BK203.out 0).trans rfl, (blk_cell BK203.out 1).trans rfl, (blk_cell BK203.out 2).trans rfl, (blk_cell BK203.out 3).trans rfl, (blk_cell BK203.out 4).trans rfl, HS5_⟩ (fun hHeld => ?_)
                      clear hK K
                      refine norm_ (a' := ?_) ?_ ?_
                      rotate_left
                      · show Act.put _ (some 34) _ = _
                        simp only [Act.put, List.setIfInBounds_toArray, List.set_cons_zero, List.set_cons_succ, i64_w, i32_w]
                        rfl
                      refine pure_ (i := 6) (N := some 9) (v := ?_) (a' := ?_) #[true, true, true, true, true, true, true] rfl rfl (by kernel_rfl) (fun _ _ _ h => h) (Or.inl ⟨by rfl, ?_⟩) ?_ ?_
                      rotate_left
                      · intro w'
                        go_simp
                        with_reducible rfl
                      rotate_left
                      · simp only [Act.put, List.setIfInBounds_toArray, List.set_cons_zero, List.set_cons_succ, i64_w, i32_w]
                        rfl
                      refine done_ (by kernel_rfl) ?_
                      have hnb34 := NB203_204.out
                      have hnc34 := NB204_203.out
                      have hcz35_0 : w33.cell? ⟨gb203, 0, none⟩ = some (.int .i64 x204000_2) := (blk_cell BK203.out 0).trans rfl
                      have hcz35_1 : w33.cell? ⟨gb203, 1, none⟩ = some (.int .i64 x204001_2) := (blk_cell BK203.out 1).trans rfl
                      have hcz35_2 : w33.cell? ⟨gb203, 2, none⟩ = some (.string x204002_2) := (blk_cell BK203.out 2).trans rfl
                      have hcz35_3 : w33.cell? ⟨gb203, 3, none⟩ = some (.slice Ao31 x204003_2.length co31) := (blk_cell BK203.out 3).trans rfl
                      have hcz35_4 : w33.cell? ⟨gb203, 4, none⟩ = some (.slice Ao32 x204004_2.length co32) := (blk_cell BK203.out 4).trans rfl
                      have hfz35_0 := blk_frozen BK203.out 0
                      have hfz35_1 := blk_frozen BK203.out 1
                      have hfz35_2 := blk_frozen BK203.out 2
                      have hfz35_3 := blk_frozen BK203.out 3
                      have hfz35_4 := blk_frozen BK203.out 4
                      have p212 : 0 ≤ (t211 : Int) := of_decide_eq_true (by first | (with_reducible assumption) | assumption)
                      have q212 : t211 < (x204004_2.length : Int) := of_decide_eq_true (by first | (with_reducible assumption) | assumption)
                      obtain ⟨ad212, A212_3, c212_3, A212_4, c212_4, e212, hx212_0, hx212_1, hx212_2, hx212_3, hx212_4, hl212_3, hi212_3, hl212_4, hi212_4⟩ := at_T30 (Kd.V_reads' HO_204004.out).2.2 t211 p212 q212
                      cases e212
                      obtain ⟨ce212, hce212, hMe212, hcc212⟩ := Kd.V_get HO_204004.out z30 t211 p212 (by first | exact q212 | exact of_decide_eq_true (by first | (with_reducible assumption) | assumption) | (have e_ := (Kd.V_reads' HO_204004.out).1; omega))
                      obtain ⟨ua212_3, uc212_3, ua212_4, uc212_4, rfl, ul212_3, ge212_3, ul212_4, ge212_4⟩ := k30_openF hMe212
                      have hv212_3 := hcc212 3 _ rfl
                      rw [add_field _ _ 3 (by omega)] at hv212_3
                      replace hv212_3 := Option.some.inj (hv212_3.symm.trans hx212_3)
                      injection hv212_3 with hva_ hvn_ hvc_
                      rw [hva_] at ge212_3
                      rw [hvc_] at ul212_3
                      have HL212_3 := Aside0.mk (show Kd.V Kd.string 9 _ w.heap.size _ _ ((rd_T30 x204004_2 t211).f3) from Kd.V_mk ul212_3 ge212_3)
                      clear hva_ hvn_ hvc_ ge212_3 ul212_3
                      have hv212_4 := hcc212 4 _ rfl
                      rw [add_field _ _ 4 (by omega)] at hv212_4
                      replace hv212_4 := Option.some.inj (hv212_4.symm.trans hx212_4)
                      injection hv212_4 with hva_ hvn_ hvc_
                      rw [hva_] at ge212_4
                      rw [hvc_] at ul212_4
                      have HL212_4 := Aside0.mk (show Kd.V k30 30 _ w.heap.size _ _ ((rd_T30 x204004_2 t211).f4) from Kd.V_mk ul212_4 ge212_4)
                      clear hva_ hvn_ hvc_ ge212_4 ul212_4
                      clear hcc212 hce212
                      have HR212_3 := Aside0.mk hi212_3
                      have HC212_3 := Aside0.mk hl212_3
                      clear hi212_3 hl212_3
                      have HR212_4 := Aside0.mk hi212_4
                      have HC212_4 := Aside0.mk hl212_4
                      clear hi212_4 hl212_4
                      replace p212 := eq_true p212
                      replace q212 := eq_true q212
                      try go_wp2
                      go_roundg k2
                      case measure => have := HJ3.out; have := HK2.out; omega
                      case rel => exact ⟨(wrap64 (x8_2 + 1)), ((rd_T30 x204004_2 t211).f0), ((rd_T30 x204004_2 t211).f1), ((rd_T30 x204004_2 t211).f2), ((rd_T30 x204004_2 t211).f3), ((rd_T30 x204004_2 t211).f4), (x205000_2), (x205001_2), (x205002_2), (.slice A212_3 ((rd_T30 x204004_2 t211).f3).length c212_3), (.slice A212_4 ((rd_T30 x204004_2 t211).f4).length c212_4), (by first | rfl | (simp; done) | (simp [*]; done)), H', ⟨by have := HJ3.out; have := HK2.out; omega⟩, ⟨by (with_reducible repeat (first | apply Kd.R_alloc | apply Kd.R_drewN | apply Kd.R_drew)); exact Kd.R_mono (Kd.R_far (p := ⟨gb203, 4, none⟩) (Kd.R_far (p := ⟨gb203, 3, none⟩) (Kd.R_far (p := ⟨gb203, 2, none⟩) (Kd.R_far (p := ⟨gb203, 1, none⟩) (Kd.R_far (p := ⟨gb203, 0, none⟩) (Kd.R_types HO_6.out BK203.out (by decide)) (fun _ hk => hk.2) (.int .i64 ((rd_T30 x204004_2 t211).f0))) (fun _ hk => hk.2) (.int .i64 ((rd_T30 x204004_2 t211).f1))) (fun _ hk => hk.2) (.string ((rd_T30 x204004_2 t211).f2))) (fun _ hk => hk.2) (.slice A212_3 ((rd_T30 x204004_2 t211).f3).length c212_3)) (fun _ hk => hk.2) (.slice A212_4 ((rd_T30 x204004_2 t211).f4).length c212_4)) (fun _ hk => hk.1)⟩, ⟨by (with_reducible repeat (first | apply Kd.V_alloc | apply Kd.V_drewN | apply Kd.V_drew)); exact Kd.V_mono (Kd.V_far (p := ⟨gb203, 4, none⟩) (Kd.V_far (p := ⟨gb203, 3, none⟩) (Kd.V_far (p := ⟨gb203, 2, none⟩) (Kd.V_far (p := ⟨gb203, 1, none⟩) (Kd.V_far (p := ⟨gb203, 0, none⟩) (Kd.V_mono HL212_3.out (fun k_ hk => (⟨hk, hk.2.2.1⟩ : _ ∧ k_ ≠ gb203))) (fun _ hk => hk.2) (.int .i64 ((rd_T30 x204004_2 t211).f0))) (fun _ hk => hk.2) (.int .i64 ((rd_T30 x204004_2 t211).f1))) (fun _ hk => hk.2) (.string ((rd_T30 x204004_2 t211).f2))) (fun _ hk => hk.2) (.slice A212_3 ((rd_T30 x204004_2 t211).f3).length c212_3)) (fun _ hk => hk.2) (.slice A212_4 ((rd_T30 x204004_2 t211).f4).length c212_4)) (fun _ hk => ⟨hk.1.1, ⟨hk.1.2.1, ⟨hk.1.2.2.1, hk.1.2.2.2⟩⟩⟩)⟩, ⟨by (with_reducible repeat (first | apply Kd.V_alloc | apply Kd.V_drewN | apply Kd.V_drew)); exact Kd.V_mono (Kd.V_far (p := ⟨gb203, 4, none⟩) (Kd.V_far (p := ⟨gb203, 3, none⟩) (Kd.V_far (p := ⟨gb203, 2, none⟩) (Kd.V_far (p := ⟨gb203, 1, none⟩) (Kd.V_far (p := ⟨gb203, 0, none⟩) (Kd.V_mono HL212_4.out (fun k_ hk => (⟨hk, hk.2.2.1⟩ : _ ∧ k_ ≠ gb203))) (fun _ hk => hk.2) (.int .i64 ((rd_T30 x204004_2 t211).f0))) (fun _ hk => hk.2) (.int .i64 ((rd_T30 x204004_2 t211).f1))) (fun _ hk => hk.2) (.string ((rd_T30 x204004_2 t211).f2))) (fun _ hk => hk.2) (.slice A212_3 ((rd_T30 x204004_2 t211).f3).length c212_3)) (fun _ hk => hk.2) (.slice A212_4 ((rd_T30 x204004_2 t211).f4).length c212_4)) (fun _ hk => ⟨hk.1.1, ⟨hk.1.2.1, ⟨hk.1.2.2.1, hk.1.2.2.2⟩⟩⟩)⟩, ⟨by (with_reducible repeat (first | refine blk_drewN ?_ _ | refine blk_drew ?_ | refine blk_alloc ?_ _)); refine blk_put (cs := #[.int .i64 ((rd_T30 x204004_2 t211).f0), .int .i64 ((rd_T30 x204004_2 t211).f1), .string ((rd_T30 x204004_2 t211).f2), .slice A212_3 ((rd_T30 x204004_2 t211).f3).length c212_3, .slice (some ad212) x204004_2.length co32]) ?_ 4 _ rfl; (with_reducible repeat (first | refine blk_drewN ?_ _ | refine blk_drew ?_ | refine blk_alloc ?_ _)); refine blk_put (cs := #[.int .i64 ((rd_T30 x204004_2 t211).f0), .int .i64 ((rd_T30 x204004_2 t211).f1), .string ((rd_T30 x204004_2 t211).f2), .slice Ao31 x204003_2.length co31, .slice (some ad212) x204004_2.length co32]) ?_ 3 _ rfl; (with_reducible repeat (first | refine blk_drewN ?_ _ | refine blk_drew ?_ | refine blk_alloc ?_ _)); refine blk_put (cs := #[.int .i64 ((rd_T30 x204004_2 t211).f0), .int .i64 ((rd_T30 x204004_2 t211).f1), .string x204002_2, .slice Ao31 x204003_2.length co31, .slice (some ad212) x204004_2.length co32]) ?_ 2 _ rfl; (with_reducible repeat (first | refine blk_drewN ?_ _ | refine blk_drew ?_ | refine blk_alloc ?_ _)); refine blk_put (cs := #[.int .i64 ((rd_T30 x204004_2 t211).f0), .int .i64 x204001_2, .string x204002_2, .slice Ao31 x204003_2.length co31, .slice (some ad212) x204004_2.length co32]) ?_ 1 _ rfl; (with_reducible repeat (first | refine blk_drewN ?_ _ | refine blk_drew ?_ | refine blk_alloc ?_ _)); refine blk_put (cs := #[.int .i64 x204000_2, .int .i64 x204001_2, .string x204002_2, .slice Ao31 x204003_2.length co31, .slice (some ad212) x204004_2.length co32]) ?_ 0 _ rfl; (with_reducible repeat (first | refine blk_drewN ?_ _ | refine blk_drew ?_ | refine blk_alloc ?_ _)); exact BK203.out⟩, ⟨by (with_reducible repeat (first | refine blk_drewN ?_ _ | refine blk_drew ?_ | refine blk_alloc ?_ _)); refine blk_far ?_ NB204_203.out _; (with_reducible repeat (first | refine blk_drewN ?_ _ | refine blk_drew ?_ | refine blk_alloc ?_ _)); refine blk_far ?_ NB204_203.out _; (with_reducible repeat (first | refine blk_drewN ?_ _ | refine blk_drew ?_ | refine blk_alloc ?_ _)); refine blk_far ?_ NB204_203.out _; (with_reducible repeat (first | refine blk_drewN ?_ _ | refine blk_drew ?_ | refine blk_alloc ?_ _)); refine blk_far ?_ NB204_203.out _; (with_reducible repeat (first | refine blk_drewN ?_ _ | refine blk_drew ?_ | refine blk_alloc ?_ _)); refine blk_far ?_ NB204_203.out _; (with_reducible repeat (first | refine blk_drewN ?_ _ | refine blk_drew ?_ | refine blk_alloc ?_ _)); exact BK204.out⟩, ⟨by repeat (first | (with_reducible first | exact HB.out | apply below_alloc | apply pw_below_drewN | apply below_drew1 | refine below_set ?_ GE203.out | refine below_set ?_ GE204.out) | exact HB.out)⟩⟩
                    · rw [if_neg c28] at H
                      exact absurd H (by simp)
                  · rw [if_neg c27] at H
                    exact absurd H (by simp)
              · rw [if_neg c17] at H
                exact absurd H (by simp)
            · rw [if_neg c16] at H
              have c16b0 : decide (x8_2 < (t205.length : Int)) = false := decide_eq_false c16
              clear c16
              simp only [Option.some.injEq, Prod.mk.injEq] at H
              obtain ⟨rfl, rfl, rfl, rfl, rfl, rfl⟩ := H
              obtain ⟨Ao36, co36, eo36⟩ := Kd.R_slice HO_6.out
              subst eo36
              have hnb37 := NB203_204.out
              have hnc37 := NB204_203.out
              have hcz38_0 : wr.cell? ⟨gb203, 0, none⟩ = some (.int .i64 x204000_2) := (blk_cell BK203.out 0).trans rfl
              have hcz38_1 : wr.cell? ⟨gb203, 1, none⟩ = some (.int .i64 x204001_2) := (blk_cell BK203.out 1).trans rfl
              have hcz38_2 : wr.cell? ⟨gb203, 2, none⟩ = some (.string x204002_2) := (blk_cell BK203.out 2).trans rfl
              have hcz38_3 : wr.cell? ⟨gb203, 3, none⟩ = some (u204003) := (blk_cell BK203.out 3).trans rfl
              have hcz38_4 : wr.cell? ⟨gb203, 4, none⟩ = some (u204004) := (blk_cell BK203.out 4).trans rfl
              have hfz38_0 := blk_frozen BK203.out 0
              have hfz38_1 := blk_frozen BK203.out 1
              have hfz38_2 := blk_frozen BK203.out 2
              have hfz38_3 := blk_frozen BK203.out 3
              have hfz38_4 := blk_frozen BK203.out 4
              have hcz39_0 : wr.cell? ⟨gb204, 0, none⟩ = some (.int .i64 x205000_2) := (blk_cell BK204.out 0).trans rfl
              have hcz39_1 : wr.cell? ⟨gb204, 1, none⟩ = some (.int .i64 x205001_2) := (blk_cell BK204.out 1).trans rfl
              have hcz39_2 : wr.cell? ⟨gb204, 2, none⟩ = some (.string x205002_2) := (blk_cell BK204.out 2).trans rfl
              have hcz39_3 : wr.cell? ⟨gb204, 3, none⟩ = some (.slice none 0 0) := (blk_cell BK204.out 3).trans rfl
              have hcz39_4 : wr.cell? ⟨gb204, 4, none⟩ = some (.slice none 0 0) := (blk_cell BK204.out 4).trans rfl
              have hfz39_0 := blk_frozen BK204.out 0
              have hfz39_1 := blk_frozen BK204.out 1
              have hfz39_2 := blk_frozen BK204.out 2
              have hfz39_3 := blk_frozen BK204.out 3
              have hfz39_4 := blk_frozen BK204.out 4
              obtain ⟨Ao40, co40, eo40⟩ := Kd.V_slice HO_204003.out
              subst eo40
              obtain ⟨Ao41, co41, eo41⟩ := Kd.V_slice HO_204004.out
              subst eo41
              go_wp2
              refine bodyPost_ret (results_ct rfl _ _ gb204 30 #[.int .i64 x204000_2, .int .i64 x204001_2, .string x204002_2, .slice Ao40 x204003_2.length co40, .slice Ao41 x204004_2.length co41] (0, 0) _ rfl (by (with_reducible repeat (first | refine blk_drewN ?_ _ | refine blk_drew ?_ | refine blk_alloc ?_ _)); refine blk_put (cs := #[.int .i64 x204000_2, .int .i64 x204001_2, .string x204002_2, .slice Ao40 x204003_2.length co40, .slice none 0 0]) ?_ 4 _ rfl; (with_reducible repeat (first | refine blk_drewN ?_ _ | refine blk_drew ?_ | refine blk_alloc ?_ _)); refine blk_put (cs := #[.int .i64 x204000_2, .int .i64 x204001_2, .string x204002_2, .slice none 0 0, .slice none 0 0]) ?_ 3 _ rfl; (with_reducible repeat (first | refine blk_drewN ?_ _ | refine blk_drew ?_ | refine blk_alloc ?_ _)); refine blk_put (cs := #[.int .i64 x204000_2, .int .i64 x204001_2, .string x205002_2, .slice none 0 0, .slice none 0 0]) ?_ 2 _ rfl; (with_reducible repeat (first | refine blk_drewN ?_ _ | refine blk_drew ?_ | refine blk_alloc ?_ _)); refine blk_put (cs := #[.int .i64 x204000_2, .int .i64 x205001_2, .string x205002_2, .slice none 0 0, .slice none 0 0]) ?_ 1 _ rfl; (with_reducible repeat (first | refine blk_drewN ?_ _ | refine blk_drew ?_ | refine blk_alloc ?_ _)); refine blk_put (cs := #[.int .i64 x205000_2, .int .i64 x205001_2, .string x205002_2, .slice none 0 0, .slice none 0 0]) ?_ 0 _ rfl; (with_reducible repeat (first | refine blk_drewN ?_ _ | refine blk_drew ?_ | refine blk_alloc ?_ _)); exact BK204.out) Tryd.underlying30 rfl (by kernel_rfl)) rfl ?_
              exact ⟨_, _, by first | rfl | (simp [errW_none, errW_some] <;> rfl) | (simp [*, errW_none, errW_some] <;> rfl), by (with_reducible repeat (first | apply Kd.V_alloc | apply Kd.V_drewN | apply Kd.V_drew)); exact Kd.V_mono (Kd.V_far (p := ⟨gb204, 4, none⟩) (Kd.V_far (p := ⟨gb204, 3, none⟩) (Kd.V_far (p := ⟨gb204, 2, none⟩) (Kd.V_far (p := ⟨gb204, 1, none⟩) (Kd.V_far (p := ⟨gb204, 0, none⟩) (Kd.V_mono HO_204003.out (fun k_ hk => (⟨hk, hk.2.2.2⟩ : _ ∧ k_ ≠ gb204))) (fun _ hk => hk.2) (.int .i64 x204000_2)) (fun _ hk => hk.2) (.int .i64 x204001_2)) (fun _ hk => hk.2) (.string x204002_2)) (fun _ hk => hk.2) (.slice Ao40 x204003_2.length co40)) (fun _ hk => hk.2) (.slice Ao41 x204004_2.length co41)) (fun _ hk => hk.1.1), by (with_reducible repeat (first | apply Kd.V_alloc | apply Kd.V_drewN | apply Kd.V_drew)); exact Kd.V_mono (Kd.V_far (p := ⟨gb204, 4, none⟩) (Kd.V_far (p := ⟨gb204, 3, none⟩) (Kd.V_far (p := ⟨gb204, 2, none⟩) (Kd.V_far (p := ⟨gb204, 1, none⟩) (Kd.V_far (p := ⟨gb204, 0, none⟩) (Kd.V_mono HO_204004.out (fun k_ hk => (⟨hk, hk.2.2.2⟩ : _ ∧ k_ ≠ gb204))) (fun _ hk => hk.2) (.int .i64 x204000_2)) (fun _ hk => hk.2) (.int .i64 x204001_2)) (fun _ hk => hk.2) (.string x204002_2)) (fun _ hk => hk.2) (.slice Ao40 x204003_2.length co40)) (fun _ hk => hk.2) (.slice Ao41 x204004_2.length co41)) (fun _ hk => hk.1.1), by repeat (first | (with_reducible first | exact HB.out | apply below_alloc | apply pw_below_drewN | apply below_drew1 | refine below_set ?_ GE203.out | refine below_set ?_ GE204.out) | exact HB.out)⟩
end Go.Proofs.YteblbippmllfkaaDoor.PP
