import Derived.Test.YteblbippmllfkaaDoorZpgtsPPx0
import Derived.Test.YteblbippmllfkaaDoorZpgtsPPx2
import Derived.Test.YteblbippmllfkaaDoorZpgtsPPx10
import Derived.Test.YteblbippmllfkaaDoorZpgtsPPx12
import Derived.Test.YteblbippmllfkaaDoorZpgtsPPx13
namespace Go.Proofs.YteblbippmllfkaaDoor.PP
open Go.RowKit Go.Proofs.YteblbippmllfkaaDoorW.PrintWords Go.Proofs.YteblbippmllfkaaDoorW.PrintLast Go.Proofs.YteblbippmllfkaaDoorW.PrintMore
attribute [local go_sem] max2_mx_ min2_mn_ max_two min_two max_three min_three max_four min_four   -- for this text's walks alone
set_option linter.unusedVariables false
set_option linter.unusedSimpArgs false
mutual
def path_Get.j0 : Nat → List ByteArray → Bool → Int → Int → ByteArray → List ByteArray → List (S30) → Option (Int × Int × ByteArray × List ByteArray × (List (S30)) × Bool)
  | 0, _, _, _, _, _, _, _ => none
  | k + 1, x6, x21, x162000, x162001, x162002, x162003, x162004 => if x21 = true then (some (0, 0, (⟨#[]⟩ : ByteArray), ([] : List ByteArray), ([] : List (S30)), false)) else (path_Get.l0 k x6 0 x162000 x162001 x162002 x162003 x162004)
def path_Get.l0 : Nat → List ByteArray → Int → Int → Int → ByteArray → List ByteArray → List (S30) → Option (Int × Int × ByteArray × List ByteArray × (List (S30)) × Bool)
  | 0, _, _, _, _, _, _, _ => none
  | k + 1, x6, x8, x162000, x162001, x162002, x162003, x162004 => if x8 < (x6.length : Int) then (if 0 ≤ x8 then ((path_place.f k x162000 x162001 x162002 x162003 x162004 (rdOf ByteArray.empty x6 x8)).bind fun t169 => (if t169 < 0 then (some (0, 0, (⟨#[]⟩ : ByteArray), ([] : List ByteArray), ([] : List (S30)), false)) else (if 0 ≤ t169 then (if t169 < (x162004.length : Int) then (path_Get.l0 k x6 (wrap64 (x8 + 1)) ((rd_T30 x162004 t169).f0) ((rd_T30 x162004 t169).f1) ((rd_T30 x162004 t169).f2) ((rd_T30 x162004 t169).f3) ((rd_T30 x162004 t169).f4)) else (none)) else (none)))) else (none)) else ((path_own.f k x162000 x162001 x162002 x162003 x162004).bind fun bt171 => (some (bt171.1, bt171.2.1, bt171.2.2.1, bt171.2.2.2.1, bt171.2.2.2.2, true)))
end
def path_Get.f (k : Nat) (a0_0 : Int) (a0_1 : Int) (a0_2 : ByteArray) (l0_3 : List ByteArray) (l0_4 : List (S30)) (a1 : ByteArray) : Option (Int × Int × ByteArray × List ByteArray × (List (S30)) × Bool) := (path_Steps.f k a1).bind fun bt163 => (if bt163.2 = 0 then ((json_Formed.f k a0_0 a0_1 a0_2 l0_3 l0_4).bind fun t167 => (path_Get.j0 k bt163.1 (!t167) a0_0 a0_1 a0_2 l0_3 l0_4)) else (path_Get.j0 k bt163.1 true a0_0 a0_1 a0_2 l0_3 l0_4))
set_option maxHeartbeats 8000000 in
set_option maxRecDepth 100000 in
theorem path_Get.calls (k : Nat) (a0_0 : Int) (a0_1 : Int) (a0_2 : ByteArray) (P0_3_ : Nat → Prop) (A0_3 : Option Addr) (c0_3 : Nat) (l0_3 : List ByteArray) (P0_4_ : Nat → Prop) (A0_4 : Option Addr) (c0_4 : Nat) (l0_4 : List (S30)) (a1 : ByteArray) (r1 : Int) (r2 : Int) (r3 : ByteArray) (r4 : List ByteArray) (r5 : List (S30)) (r6 : Bool) (w : World) (hs0_3 : Kd.V Kd.string 9 w w.heap.size (fun k_ => P0_3_ k_) (.slice A0_3 l0_3.length c0_3) l0_3) (hs0_4 : Kd.V k30 30 w w.heap.size (fun k_ => P0_4_ k_) (.slice A0_4 l0_4.length c0_4) l0_4) (hT : Tabs w) (h : path_Get.f k a0_0 a0_1 a0_2 l0_3 l0_4 a1 = some (r1, r2, r3, r4, r5, r6)) :
    Calls Tryd.prog 12 #[.agg #[.int .i64 a0_0, .int .i64 a0_1, .string a0_2, .slice A0_3 l0_3.length c0_3, .slice A0_4 l0_4.length c0_4], .string a1] w fun e w' => ∃ v3_ v4_ : Value, e = .returned (.tuple #[.agg #[.int .i64 r1, .int .i64 r2, .string r3, v3_, v4_], .bool r6]) ∧ Kd.R Kd.string 9 w' w.heap.size (fun k_ => (w.heap.size ≤ k_)) v3_ r4 ∧ Kd.R k30 30 w' w.heap.size (fun k_ => (w.heap.size ≤ k_) ∧ some k_ ≠ (v3_ : Value).ownBlock) v4_ r5 ∧ Below w.heap.size w w' := by
  have hu30 := Tryd.underlying30
  have HT := Aside0.mk hT
  clear hT
  have HO0_3 := Aside0.mk (show Kd.V Kd.string 9 w w.heap.size (fun k_ => ((P0_3_ k_ ∨ P0_4_ k_) ∨ w.heap.size ≤ k_)) (.slice A0_3 l0_3.length c0_3) l0_3 from Kd.V_mono hs0_3 (fun k_ hk => .inl (.inl hk)))
  have HO0_4 := Aside0.mk (show Kd.V k30 30 w w.heap.size (fun k_ => ((P0_3_ k_ ∨ P0_4_ k_) ∨ w.heap.size ≤ k_)) (.slice A0_4 l0_4.length c0_4) l0_4 from Kd.V_mono hs0_4 (fun k_ hk => .inl (.inr hk)))
  have HB := Aside0.mk (Below.refl w.heap.size w)
  have H : ((path_Steps.f k a1).bind fun bt163 => (if bt163.2 = 0 then ((json_Formed.f k a0_0 a0_1 a0_2 l0_3 l0_4).bind fun t167 => (path_Get.j0 k bt163.1 (!t167) a0_0 a0_1 a0_2 l0_3 l0_4)) else (path_Get.j0 k bt163.1 true a0_0 a0_1 a0_2 l0_3 l0_4))) = some (r1, r2, r3, r4, r5, r6) := h
  clear h
  replace H := Option.bind_eq_some_iff.mp H
  obtain ⟨⟨t163, t164⟩, A30, H⟩ := H
  replace H : (if t164 = 0 then ((json_Formed.f k a0_0 a0_1 a0_2 l0_3 l0_4).bind fun t167 => (path_Get.j0 k t163 (!t167) a0_0 a0_1 a0_2 l0_3 l0_4)) else (path_Get.j0 k t163 true a0_0 a0_1 a0_2 l0_3 l0_4)) = some (r1, r2, r3, r4, r5, r6) := H
  have A3 := Aside0.mk A30
  clear A30
  have HC4 := Aside0.mk H
  clear H
  go_enter Tryd.func12, Tryd.ntmps12
  go_upto_region 2 with (first | ((with_reducible refine gate_dst (N := 2) rfl ?_); refine box_event ?hg (N := 2) ?hd (cs := #[.int .i64 a0_0, .int .i64 a0_1, .string a0_2, .slice A0_3 l0_3.length c0_3, .slice A0_4 l0_4.length c0_4]) (t := 30) ?hr ?_; (case hd => rfl); (case hg => rfl); (case hr => first | (go_simp; done) | (go_simp; rfl)); intro gb161 hg w5 hbox hb; have n0_ := Aside0.mk (Kd.V_below (Kd.V_elderB (by (with_reducible repeat (first | apply Kd.V_alloc | apply Kd.V_drewN | apply Kd.V_drew)); exact HO0_3.out) gb161 (Nat.le_of_eq hg.symm)) hb); have n1_ := Aside0.mk (Kd.V_below (Kd.V_elderB (by (with_reducible repeat (first | apply Kd.V_alloc | apply Kd.V_drewN | apply Kd.V_drew)); exact HO0_4.out) gb161 (Nat.le_of_eq hg.symm)) hb); have n2_ := Aside0.mk (below_step (by repeat (first | (with_reducible first | exact HB.out | apply below_alloc | apply pw_below_drewN | apply below_drew1) | exact HB.out)) hb); have n3_ := Aside0.mk (hbox); have n4_ := Aside0.mk ((by rw [hg]; exact (below_size (by repeat (first | (with_reducible first | exact HB.out | apply below_alloc | apply pw_below_drewN | apply below_drew1) | exact HB.out))) : w.heap.size ≤ gb161)); have n5_ := Aside0.mk ((by rw [hg]; exact (below_size (by repeat (first | (with_reducible first | exact HB.out | apply below_alloc | apply pw_below_drewN | apply below_drew1) | exact HB.out))) : w.heap.size ≤ gb161)); clear HO0_3; clear HO0_4; clear HB; have HO0_3 := n0_; have HO0_4 := n1_; have HB := n2_; have BK161 := n3_; have GW161 := n4_; have GE161 := n5_; clear n0_ n1_ n2_ n3_ n4_ n5_; clear hb hbox hg) | ((with_reducible refine gate_dst (N := 4) rfl ?_); refine box_event ?hg (N := 4) ?hd (cs := #[.int .i64 0, .int .i64 0, .string (⟨#[]⟩ : ByteArray), .slice none 0 0, .slice none 0 0]) (t := 30) ?hr ?_; (case hd => rfl); (case hg => rfl); (case hr => first | (go_simp; done) | (go_simp; rfl)); intro gb162 hg w6 hbox hb; have n0_ := Aside0.mk (Kd.V_below (Kd.V_elderB (by (with_reducible repeat (first | apply Kd.V_alloc | apply Kd.V_drewN | apply Kd.V_drew)); exact HO0_3.out) gb162 (Nat.le_of_eq hg.symm)) hb); have n1_ := Aside0.mk (Kd.V_below (Kd.V_elderB (by (with_reducible repeat (first | apply Kd.V_alloc | apply Kd.V_drewN | apply Kd.V_drew)); exact HO0_4.out) gb162 (Nat.le_of_eq hg.symm)) hb); have n2_ := Aside0.mk (blk_below (g := gb161) (o := .cells #[.int .i64 a0_0, .int .i64 a0_1, .string a0_2, .slice A0_3 l0_3.length c0_3, .slice A0_4 l0_4.length c0_4] 30 (0, 0)) (by (with_reducible repeat (first | refine blk_drewN ?_ _ | refine blk_drew ?_ | refine blk_alloc ?_ _)); exact BK161.out) hb); have n3_ := Aside0.mk (below_step (by repeat (first | (with_reducible first | exact HB.out | apply below_alloc | apply pw_below_drewN | apply below_drew1 | refine below_set ?_ GE161.out) | exact HB.out)) hb); have n4_ := Aside0.mk (hbox); have n5_ := Aside0.mk ((by rw [hg]; exact (below_size (by repeat (first | (with_reducible first | exact HB.out | apply below_alloc | apply pw_below_drewN | apply below_drew1 | refine below_set ?_ GE161.out) | exact HB.out))) : w.heap.size ≤ gb162)); have n6_ := Aside0.mk ((by rw [hg]; exact (below_size (by repeat (first | (with_reducible first | exact HB.out | apply below_alloc | apply pw_below_drewN | apply below_drew1 | refine below_set ?_ GE161.out) | exact HB.out))) : w.heap.size ≤ gb162)); have n7_ := Aside0.mk ((by rw [hg]; exact Nat.ne_of_lt (blk_lt (g := gb161) (o := .cells #[.int .i64 a0_0, .int .i64 a0_1, .string a0_2, .slice A0_3 l0_3.length c0_3, .slice A0_4 l0_4.length c0_4] 30 (0, 0)) (by (with_reducible repeat (first | refine blk_drewN ?_ _ | refine blk_drew ?_ | refine blk_alloc ?_ _)); exact BK161.out)) : gb161 ≠ gb162)); have n8_ := Aside0.mk ((by rw [hg]; exact Nat.ne_of_gt (blk_lt (g := gb161) (o := .cells #[.int .i64 a0_0, .int .i64 a0_1, .string a0_2, .slice A0_3 l0_3.length c0_3, .slice A0_4 l0_4.length c0_4] 30 (0, 0)) (by (with_reducible repeat (first | refine blk_drewN ?_ _ | refine blk_drew ?_ | refine blk_alloc ?_ _)); exact BK161.out)) : gb162 ≠ gb161)); clear HO0_3; clear HO0_4; clear BK161; clear HB; have HO0_3 := n0_; have HO0_4 := n1_; have BK161 := n2_; have HB := n3_; have BK162 := n4_; have GW162 := n5_; have GE162 := n6_; have NB161_162 := n7_; have NB162_161 := n8_; clear n0_ n1_ n2_ n3_ n4_ n5_ n6_ n7_ n8_; clear hb hbox hg) | ((with_reducible refine gate_callee (f := 9) rfl ?_); refine goesL_ (some 12) rfl rfl Tryd.func9 (by kernel_rfl) rfl #[.string a1] rfl (by (try simp only [List.map_toArray, List.map_cons, List.map_nil]); first | done | rfl | (simp only [List.length_drop, List.length_take]; rfl)) ?_; (with_reducible refine (path_Steps.calls k a1 t163 t164 _ ?side1 A3.out).mono ?_); (case side1 => first | exact HT.out | (refine tabs_below HT.out ?_; repeat (first | exact HB.out | (with_reducible first | apply below_alloc | apply pw_below_drewN | apply below_drew1 | exact Below.refl _ _) | (refine below_set ?_ (Aside0.out (by assumption)))))); rintro e w7 ⟨v165, rfl, ho0, hb⟩; refine ⟨_, rfl, ?_⟩; have n0_ := Aside0.mk (Kd.V_elder' (by (with_reducible repeat (first | apply Kd.V_alloc | apply Kd.V_drewN | apply Kd.V_drew)); exact HO0_3.out) (Kd.R_base ho0) hb); have n1_ := Aside0.mk (Kd.V_elder' (by (with_reducible repeat (first | apply Kd.V_alloc | apply Kd.V_drewN | apply Kd.V_drew)); exact HO0_4.out) (Kd.R_base ho0) hb); have n2_ := Aside0.mk (Kd.R_lower (Kd.R_newM (M := fun k_ => (w.heap.size ≤ k_)) ho0 (below_size (by repeat (first | (with_reducible first | exact HB.out | apply below_alloc | apply pw_below_drewN | apply below_drew1 | refine below_set ?_ GE161.out | refine below_set ?_ GE162.out) | exact HB.out))) (fun k_ h_ => h_)) (below_size (by repeat (first | (with_reducible first | exact HB.out | apply below_alloc | apply pw_below_drewN | apply below_drew1 | refine below_set ?_ GE161.out | refine below_set ?_ GE162.out) | exact HB.out)))); have n3_ := Aside0.mk (blk_below (g := gb161) (o := .cells #[.int .i64 a0_0, .int .i64 a0_1, .string a0_2, .slice A0_3 l0_3.length c0_3, .slice A0_4 l0_4.length c0_4] 30 (0, 0)) (by (with_reducible repeat (first | refine blk_drewN ?_ _ | refine blk_drew ?_ | refine blk_alloc ?_ _)); exact BK161.out) hb); have n4_ := Aside0.mk (blk_below (g := gb162) (o := .cells #[.int .i64 0, .int .i64 0, .string (⟨#[]⟩ : ByteArray), .slice none 0 0, .slice none 0 0] 30 (0, 0)) (by (with_reducible repeat (first | refine blk_drewN ?_ _ | refine blk_drew ?_ | refine blk_alloc ?_ _)); exact BK162.out) hb); have n5_ := Aside0.mk (below_step (by repeat (first | (with_reducible first | exact HB.out | apply below_alloc | apply pw_below_drewN | apply below_drew1 | refine below_set ?_ GE161.out | refine below_set ?_ GE162.out) | exact HB.out)) hb); clear HO0_3; clear HO0_4; clear BK161; clear BK162; clear HB; have HO0_3 := n0_; have HO0_4 := n1_; have HO166 := n2_; have BK161 := n3_; have BK162 := n4_; have HB := n5_; clear n0_ n1_ n2_ n3_ n4_ n5_; (try clear hb); (try clear hb2); (try clear hk); (try clear hi); (try clear ho0)))
  (try simp only [Act.put, List.setIfInBounds_toArray, List.set_cons_zero, List.set_cons_succ])
  go_cut [21] (fun v21 wc => ∃ (kq : Nat) (x21_3 : Bool), v21 = .bool x21_3 ∧ Aside0 (path_Get.j0 kq t163 x21_3 a0_0 a0_1 a0_2 l0_3 l0_4 = some (r1, r2, r3, r4, r5, r6)) ∧ Aside0 (kq ≤ k) ∧ Aside0 (Kd.R Kd.string 9 wc w.heap.size (fun k_ => (w.heap.size ≤ k_)) v165 t163) ∧ Aside0 (Kd.V Kd.string 9 wc w.heap.size (fun k_ => ((P0_3_ k_ ∨ P0_4_ k_) ∨ w.heap.size ≤ k_) ∧ some k_ ≠ (v165 : Value).ownBlock ∧ k_ ≠ gb161 ∧ k_ ≠ gb162) (.slice A0_3 l0_3.length c0_3) l0_3) ∧ Aside0 (Kd.V k30 30 wc w.heap.size (fun k_ => ((P0_3_ k_ ∨ P0_4_ k_) ∨ w.heap.size ≤ k_) ∧ some k_ ≠ (v165 : Value).ownBlock ∧ k_ ≠ gb161 ∧ k_ ≠ gb162) (.slice A0_4 l0_4.length c0_4) l0_4) ∧ Aside0 (wc.heap[gb161]? = some (.cells #[.int .i64 a0_0, .int .i64 a0_1, .string a0_2, (.slice A0_3 l0_3.length c0_3), (.slice A0_4 l0_4.length c0_4)] 30 (0, 0))) ∧ Aside0 (wc.heap[gb162]? = some (.cells #[.int .i64 0, .int .i64 0, .string (⟨#[]⟩ : ByteArray), (.slice none 0 0), (.slice none 0 0)] 30 (0, 0))) ∧ Aside0 (Below w.heap.size w wc))
  case first =>
    have H := HC4.out
    clear HC4
    by_cases c8 : t164 = 0
    · rw [if_pos c8] at H
      have c8b0 : (t164 == 0) = true := beq_iff_eq.mpr c8
      have c8b1 : (t164 != 0) = false := bne_eq_false_iff_eq.mpr c8
      clear c8
      (first | rw [c8b0] | (simp only [i64_w, i32_w]; rw [c8b0]) | skip)
      replace H := Option.bind_eq_some_iff.mp H
      obtain ⟨t167, A90, H⟩ := H
      replace H : (path_Get.j0 k t163 (!t167) a0_0 a0_1 a0_2 l0_3 l0_4) = some (r1, r2, r3, r4, r5, r6) := H
      have A9 := Aside0.mk A90
      clear A90
      have H' := Aside0.mk H
      clear H
      have hnb10 := NB161_162.out
      have hnc10 := NB162_161.out
      have hcz11_0 : w7.cell? ⟨gb161, 0, none⟩ = some (.int .i64 a0_0) := (blk_cell BK161.out 0).trans rfl
      have hcz11_1 : w7.cell? ⟨gb161, 1, none⟩ = some (.int .i64 a0_1) := (blk_cell BK161.out 1).trans rfl
      have hcz11_2 : w7.cell? ⟨gb161, 2, none⟩ = some (.string a0_2) := (blk_cell BK161.out 2).trans rfl
      have hcz11_3 : w7.cell? ⟨gb161, 3, none⟩ = some (.slice A0_3 l0_3.length c0_3) := (blk_cell BK161.out 3).trans rfl
      have hcz11_4 : w7.cell? ⟨gb161, 4, none⟩ = some (.slice A0_4 l0_4.length c0_4) := (blk_cell BK161.out 4).trans rfl
      have hfz11_0 := blk_frozen BK161.out 0
      have hfz11_1 := blk_frozen BK161.out 1
      have hfz11_2 := blk_frozen BK161.out 2
      have hfz11_3 := blk_frozen BK161.out 3
      have hfz11_4 := blk_frozen BK161.out 4
      go_wp2_with (first | (go_at_call 17; (with_reducible refine (json_Formed.calls k a0_0 a0_1 a0_2 _ _ l0_3 _ _ l0_4 t167 _ ?side1 ?side2 ?side3 ?side4 ?side5 A9.out).mono ?_); (case side1 => repeat (first | exact (Kd.V_reads' HO0_3.out).2.2 | (with_reducible refine Kd.C_alloc ?_ _) | (with_reducible refine Kd.C_drewN ?_ _) | (with_reducible refine Kd.C_drew ?_))); (case side2 => exact (Kd.V_reads' HO0_3.out).2.1); (case side3 => repeat (first | exact (Kd.V_reads' HO0_4.out).2.2 | (with_reducible refine Kd.C_alloc ?_ _) | (with_reducible refine Kd.C_drewN ?_ _) | (with_reducible refine Kd.C_drew ?_))); (case side4 => exact (Kd.V_reads' HO0_4.out).2.1); (case side5 => first | exact HT.out | (refine tabs_below HT.out ?_; repeat (first | exact HB.out | (with_reducible first | apply below_alloc | apply pw_below_drewN | apply below_drew1 | exact Below.refl _ _) | (refine below_set ?_ (Aside0.out (by assumption)))))); rintro e w12 ⟨rfl, hb⟩; have n0_ := Aside0.mk (Kd.V_below (by (with_reducible repeat (first | apply Kd.V_alloc | apply Kd.V_drewN | apply Kd.V_drew)); exact HO0_3.out) hb); have n1_ := Aside0.mk (Kd.V_below (by (with_reducible repeat (first | apply Kd.V_alloc | apply Kd.V_drewN | apply Kd.V_drew)); exact HO0_4.out) hb); have n2_ := Aside0.mk (Kd.R_below (by (with_reducible repeat (first | apply Kd.R_alloc | apply Kd.R_drewN | apply Kd.R_drew)); exact HO166.out) hb); have n3_ := Aside0.mk (blk_below (g := gb161) (o := .cells #[.int .i64 a0_0, .int .i64 a0_1, .string a0_2, .slice A0_3 l0_3.length c0_3, .slice A0_4 l0_4.length c0_4] 30 (0, 0)) (by (with_reducible repeat (first | refine blk_drewN ?_ _ | refine blk_drew ?_ | refine blk_alloc ?_ _)); exact BK161.out) hb); have n4_ := Aside0.mk (blk_below (g := gb162) (o := .cells #[.int .i64 0, .int .i64 0, .string (⟨#[]⟩ : ByteArray), .slice none 0 0, .slice none 0 0] 30 (0, 0)) (by (with_reducible repeat (first | refine blk_drewN ?_ _ | refine blk_drew ?_ | refine blk_alloc ?_ _)); exact BK162.out) hb); have n5_ := Aside0.mk (below_step (by repeat (first | (with_reducible first | exact HB.out | apply below_alloc | apply pw_below_drewN | apply below_drew1 | refine below_set ?_ GE161.out | refine below_set ?_ GE162.out) | exact HB.out)) hb); clear HO0_3; clear HO0_4; clear HO166; clear BK161; clear BK162; clear HB; have HO0_3 := n0_; have HO0_4 := n1_; have HO166 := n2_; have BK161 := n3_; have BK162 := n4_; have HB := n5_; clear n0_ n1_ n2_ n3_ n4_ n5_; (try clear hb); (try clear hb2); (try clear hk); (try clear hi)))
      go_meet
      case rel => exact ⟨_, (!t167), (by first | rfl | (simp; done) | (simp [*]; done)), H', ⟨by first | omega | exact Nat.le_refl _⟩, ⟨by (with_reducible repeat (first | apply Kd.R_alloc | apply Kd.R_drewN | apply Kd.R_drew)); exact Kd.R_mono HO166.out (fun _ hk => hk.1)⟩, ⟨by (with_reducible repeat (first | apply Kd.V_alloc | apply Kd.V_drewN | apply Kd.V_drew)); exact Kd.V_mono HO0_3.out (fun _ hk => ⟨hk.1.1.1, ⟨hk.2, ⟨hk.1.1.2, hk.1.2⟩⟩⟩)⟩, ⟨by (with_reducible repeat (first | apply Kd.V_alloc | apply Kd.V_drewN | apply Kd.V_drew)); exact Kd.V_mono HO0_4.out (fun _ hk => ⟨hk.1.1.1, ⟨hk.2, ⟨hk.1.1.2, hk.1.2⟩⟩⟩)⟩, ⟨by (with_reducible repeat (first | refine blk_drewN ?_ _ | refine blk_drew ?_ | refine blk_alloc ?_ _)); exact BK161.out⟩, ⟨by (with_reducible repeat (first | refine blk_drewN ?_ _ | refine blk_drew ?_ | refine blk_alloc ?_ _)); exact BK162.out⟩, ⟨by repeat (first | (with_reducible first | exact HB.out | apply below_alloc | apply pw_below_drewN | apply below_drew1 | refine below_set ?_ GE161.out | refine below_set ?_ GE162.out) | exact HB.out)⟩⟩
    · rw [if_neg c8] at H
      have c8b0 : (t164 == 0) = false := beq_eq_false_iff_ne.mpr c8
      have c8b1 : (t164 != 0) = true := bne_iff_ne.mpr c8
      (first | rw [c8b0] | (simp only [i64_w, i32_w]; rw [c8b0]) | skip)
      have H' := Aside0.mk H
      clear H
      go_wp2
      go_meet
      case rel => exact ⟨_, (true), (by first | rfl | (simp; done) | (simp [*]; done)), H', ⟨by first | omega | exact Nat.le_refl _⟩, ⟨by (with_reducible repeat (first | apply Kd.R_alloc | apply Kd.R_drewN | apply Kd.R_drew)); exact Kd.R_mono HO166.out (fun _ hk => hk.1)⟩, ⟨by (with_reducible repeat (first | apply Kd.V_alloc | apply Kd.V_drewN | apply Kd.V_drew)); exact Kd.V_mono HO0_3.out (fun _ hk => ⟨hk.1.1.1, ⟨hk.2, ⟨hk.1.1.2, hk.1.2⟩⟩⟩)⟩, ⟨by (with_reducible repeat (first | apply Kd.V_alloc | apply Kd.V_drewN | apply Kd.V_drew)); exact Kd.V_mono HO0_4.out (fun _ hk => ⟨hk.1.1.1, ⟨hk.2, ⟨hk.1.1.2, hk.1.2⟩⟩⟩)⟩, ⟨by (with_reducible repeat (first | refine blk_drewN ?_ _ | refine blk_drew ?_ | refine blk_alloc ?_ _)); exact BK161.out⟩, ⟨by (with_reducible repeat (first | refine blk_drewN ?_ _ | refine blk_drew ?_ | refine blk_alloc ?_ _)); exact BK162.out⟩, ⟨by repeat (first | (with_reducible first | exact HB.out | apply below_alloc | apply pw_below_drewN | apply below_drew1 | refine below_set ?_ GE161.out | refine below_set ?_ GE162.out) | exact HB.out)⟩⟩
  case rest =>
    clear HC4
    try clear c1
    try clear p2
    try clear c8
    try clear c8b0
    try clear c8b1
    try clear c9
    try clear c10
    try clear c12
    try clear hcz11_0
    try clear hcz11_1
    try clear hcz11_2
    try clear hcz11_3
    try clear hcz11_4
    try clear hfz11_0
    try clear hfz11_1
    try clear hfz11_2
    try clear hfz11_3
    try clear hfz11_4
    obtain ⟨kq, x21_3, rfl, HA, HJ3, HO_6, HO_162003, HO_162004, BK161, BK162, HB⟩ := hcut
    cases kq with
    | zero => exact absurd HA.out (by simp [path_Get.j0])
    | succ kj3 =>
      have H := HA.out
      clear HA
      simp only [path_Get.j0] at H
      by_cases c13 : x21_3 = true
      · subst c13
        have H1 : (some (0, 0, (⟨#[]⟩ : ByteArray), ([] : List ByteArray), ([] : List (S30)), false)) = some (r1, r2, r3, r4, r5, r6) := by rw [if_pos rfl] at H; exact H
        clear H
        have H := H1
        clear H1
        simp only [Option.some.injEq, Prod.mk.injEq] at H
        obtain ⟨rfl, rfl, rfl, rfl, rfl, rfl⟩ := H
        have hnb14 := NB162_161.out
        have hnc14 := NB161_162.out
        have hcz15_0 : wc.cell? ⟨gb162, 0, none⟩ = some (.int .i64 0) := (blk_cell BK162.out 0).trans rfl
        have hcz15_1 : wc.cell? ⟨gb162, 1, none⟩ = some (.int .i64 0) := (blk_cell BK162.out 1).trans rfl
        have hcz15_2 : wc.cell? ⟨gb162, 2, none⟩ = some (.string (⟨#[]⟩ : ByteArray)) := (blk_cell BK162.out 2).trans rfl
        have hcz15_3 : wc.cell? ⟨gb162, 3, none⟩ = some (.slice none 0 0) := (blk_cell BK162.out 3).trans rfl
        have hcz15_4 : wc.cell? ⟨gb162, 4, none⟩ = some (.slice none 0 0) := (blk_cell BK162.out 4).trans rfl
        have hfz15_0 := blk_frozen BK162.out 0
        have hfz15_1 := blk_frozen BK162.out 1
        have hfz15_2 := blk_frozen BK162.out 2
        have hfz15_3 := blk_frozen BK162.out 3
        have hfz15_4 := blk_frozen BK162.out 4
        go_wp2
        refine bodyPost_ret (results_ct rfl _ _ gb162 30 #[.int .i64 0, .int .i64 0, .string (⟨#[]⟩ : ByteArray), .slice none 0 0, .slice none 0 0] (0, 0) _ rfl (by (with_reducible repeat (first | refine blk_drewN ?_ _ | refine blk_drew ?_ | refine blk_alloc ?_ _)); refine blk_put (cs := #[.int .i64 0, .int .i64 0, .string (⟨#[]⟩ : ByteArray), .slice none 0 0, .slice none 0 0]) ?_ 4 _ rfl; (with_reducible repeat (first | refine blk_drewN ?_ _ | refine blk_drew ?_ | refine blk_alloc ?_ _)); refine blk_put (cs := #[.int .i64 0, .int .i64 0, .string (⟨#[]⟩ : ByteArray), .slice none 0 0, .slice none 0 0]) ?_ 3 _ rfl; (with_reducible repeat (first | refine blk_drewN ?_ _ | refine blk_drew ?_ | refine blk_alloc ?_ _)); refine blk_put (cs := #[.int .i64 0, .int .i64 0, .string (⟨#[]⟩ : ByteArray), .slice none 0 0, .slice none 0 0]) ?_ 2 _ rfl; (with_reducible repeat (first | refine blk_drewN ?_ _ | refine blk_drew ?_ | refine blk_alloc ?_ _)); refine blk_put (cs := #[.int .i64 0, .int .i64 0, .string (⟨#[]⟩ : ByteArray), .slice none 0 0, .slice none 0 0]) ?_ 1 _ rfl; (with_reducible repeat (first | refine blk_drewN ?_ _ | refine blk_drew ?_ | refine blk_alloc ?_ _)); refine blk_put (cs := #[.int .i64 0, .int .i64 0, .string (⟨#[]⟩ : ByteArray), .slice none 0 0, .slice none 0 0]) ?_ 0 _ rfl; (with_reducible repeat (first | refine blk_drewN ?_ _ | refine blk_drew ?_ | refine blk_alloc ?_ _)); exact BK162.out) Tryd.underlying30 rfl (by kernel_rfl)) rfl ?_
        exact ⟨_, _, by first | rfl | (simp [errW_none, errW_some] <;> rfl) | (simp [*, errW_none, errW_some] <;> rfl), by first | exact Kd.R_nil _ _ _ _ _ | exact Kd.N_nil _ _ _ _ _ | exact Kd.V_nil _ _ _ _ _ | exact Kd.Q_nil _ _ _ _ _ | exact Kd.S_nil _ _ _ _ _, by first | exact Kd.R_nil _ _ _ _ _ | exact Kd.N_nil _ _ _ _ _ | exact Kd.V_nil _ _ _ _ _ | exact Kd.Q_nil _ _ _ _ _ | exact Kd.S_nil _ _ _ _ _, by repeat (first | (with_reducible first | exact HB.out | apply below_alloc | apply pw_below_drewN | apply below_drew1 | refine below_set ?_ GE161.out | refine below_set ?_ GE162.out) | exact HB.out)⟩
      · replace c13 := Bool.eq_false_iff.mpr c13
        subst c13
        have H1 : (path_Get.l0 kj3 t163 0 a0_0 a0_1 a0_2 l0_3 l0_4) = some (r1, r2, r3, r4, r5, r6) := by rw [if_neg (show ¬ (false = true) by decide)] at H; exact H
        clear H
        have H := H1
        clear H1
        have H' := Aside0.mk H
        clear H
        go_wp2
        go_loopg [8] kj3 (fun kq v8 w' => ∃ (x8_2 : Int) (x162000_2 : Int) (x162001_2 : Int) (x162002_2 : ByteArray) (x162003_2 : List ByteArray) (x162004_2 : List (S30)) (x163000_2 : Int) (x163001_2 : Int) (x163002_2 : ByteArray) (u162003 : Value) (u162004 : Value), v8 = .int .i64 x8_2 ∧ Aside0 (path_Get.l0 kq t163 x8_2 x162000_2 x162001_2 x162002_2 x162003_2 x162004_2 = some (r1, r2, r3, r4, r5, r6)) ∧ Aside0 (kq ≤ kj3) ∧ Aside0 (Kd.R Kd.string 9 w' w.heap.size (fun k_ => (w.heap.size ≤ k_)) v165 t163) ∧ Aside0 (Kd.V Kd.string 9 w' w.heap.size (fun k_ => ((P0_3_ k_ ∨ P0_4_ k_) ∨ w.heap.size ≤ k_) ∧ some k_ ≠ (v165 : Value).ownBlock ∧ k_ ≠ gb161 ∧ k_ ≠ gb162) u162003 x162003_2) ∧ Aside0 (Kd.V k30 30 w' w.heap.size (fun k_ => ((P0_3_ k_ ∨ P0_4_ k_) ∨ w.heap.size ≤ k_) ∧ some k_ ≠ (v165 : Value).ownBlock ∧ k_ ≠ gb161 ∧ k_ ≠ gb162) u162004 x162004_2) ∧ Aside0 (w'.heap[gb161]? = some (.cells #[.int .i64 x162000_2, .int .i64 x162001_2, .string x162002_2, u162003, u162004] 30 (0, 0))) ∧ Aside0 (w'.heap[gb162]? = some (.cells #[.int .i64 x163000_2, .int .i64 x163001_2, .string x163002_2, (.slice none 0 0), (.slice none 0 0)] 30 (0, 0))) ∧ Aside0 (Below w.heap.size w w'))
        case atStart => exact ⟨(0), (a0_0), (a0_1), (a0_2), (l0_3), (l0_4), (0), (0), ((⟨#[]⟩ : ByteArray)), (.slice A0_3 l0_3.length c0_3), (.slice A0_4 l0_4.length c0_4), (by first | rfl | (simp; done) | (simp [*]; done)), H', ⟨Nat.le_refl _⟩, ⟨by (with_reducible repeat (first | apply Kd.R_alloc | apply Kd.R_drewN | apply Kd.R_drew)); exact HO_6.out⟩, ⟨by (with_reducible repeat (first | apply Kd.V_alloc | apply Kd.V_drewN | apply Kd.V_drew)); exact HO_162003.out⟩, ⟨by (with_reducible repeat (first | apply Kd.V_alloc | apply Kd.V_drewN | apply Kd.V_drew)); exact HO_162004.out⟩, ⟨by (with_reducible repeat (first | refine blk_drewN ?_ _ | refine blk_drew ?_ | refine blk_alloc ?_ _)); exact BK161.out⟩, ⟨by (with_reducible repeat (first | refine blk_drewN ?_ _ | refine blk_drew ?_ | refine blk_alloc ?_ _)); exact BK162.out⟩, ⟨by repeat (first | (with_reducible first | exact HB.out | apply below_alloc | apply pw_below_drewN | apply below_drew1 | refine below_set ?_ GE161.out | refine below_set ?_ GE162.out) | exact HB.out)⟩⟩
        case round =>
          clear H'
          try clear c1
          try clear p2
          try clear c8
          try clear c8b0
          try clear c8b1
          try clear c9
          try clear c10
          try clear c12
          try clear c13
          try clear c14
          try clear hcz11_0
          try clear hcz11_1
          try clear hcz11_2
          try clear hcz11_3
          try clear hcz11_4
          try clear hcz15_0
          try clear hcz15_1
          try clear hcz15_2
          try clear hcz15_3
          try clear hcz15_4
          try clear hfz11_0
          try clear hfz11_1
          try clear hfz11_2
          try clear hfz11_3
          try clear hfz11_4
          try clear hfz15_0
          try clear hfz15_1
          try clear hfz15_2
          try clear hfz15_3
          try clear hfz15_4
          try clear p2
          try clear BK161
          try clear BK162
          obtain ⟨x8_2, x162000_2, x162001_2, x162002_2, x162003_2, x162004_2, x163000_2, x163001_2, x163002_2, u162003, u162004, rfl, HA, HK2, HO_6, HO_162003, HO_162004, BK161, BK162, HB⟩ := hrel
          cases gk with
          | zero => exact absurd HA.out (by simp [path_Get.l0])
          | succ k2 =>
            have H := HA.out
            clear HA
            simp only [path_Get.l0] at H
            by_cases c16 : x8_2 < (t163.length : Int)
            · rw [if_pos c16] at H
              have c16b0 : decide (x8_2 < (t163.length : Int)) = true := decide_eq_true c16
              clear c16
              by_cases c17 : 0 ≤ x8_2
              · rw [if_pos c17] at H
                have c17b0 : decide (0 ≤ x8_2) = true := decide_eq_true c17
                clear c17
                replace H := Option.bind_eq_some_iff.mp H
                obtain ⟨t169, A180, H⟩ := H
                replace H : (if t169 < 0 then (some (0, 0, (⟨#[]⟩ : ByteArray), ([] : List ByteArray), ([] : List (S30)), false)) else (if 0 ≤ t169 then (if t169 < (x162004_2.length : Int) then (path_Get.l0 k2 t163 (wrap64 (x8_2 + 1)) ((rd_T30 x162004_2 t169).f0) ((rd_T30 x162004_2 t169).f1) ((rd_T30 x162004_2 t169).f2) ((rd_T30 x162004_2 t169).f3) ((rd_T30 x162004_2 t169).f4)) else (none)) else (none))) = some (r1, r2, r3, r4, r5, r6) := H
                have A18 := Aside0.mk A180
                clear A180
                by_cases c19 : t169 < 0
                · rw [if_pos c19] at H
                  have c19b0 : decide (t169 < 0) = true := decide_eq_true c19
                  clear c19
                  simp only [Option.some.injEq, Prod.mk.injEq] at H
                  obtain ⟨rfl, rfl, rfl, rfl, rfl, rfl⟩ := H
                  obtain ⟨Ao20, co20, eo20⟩ := Kd.R_slice HO_6.out
                  subst eo20
                  try go_wp2
                  have n0_ := Aside0.mk (Kd.R_drew HO_6.out)
                  have n1_ := Aside0.mk (Kd.V_drew HO_162003.out)
                  have n2_ := Aside0.mk (Kd.V_drew HO_162004.out)
                  have n3_ := Aside0.mk (blk_drew BK161.out)
                  have n4_ := Aside0.mk (blk_drew BK162.out)
                  have n5_ := Aside0.mk (below_drew1 HB.out)
                  clear HO_6
                  clear HO_162003
                  clear HO_162004
                  clear BK161
                  clear BK162
                  clear HB
                  have HO_6 := n0_
                  have HO_162003 := n1_
                  have HO_162004 := n2_
                  have BK161 := n3_
                  have BK162 := n4_
                  have HB := n5_
                  clear n0_ n1_ n2_ n3_ n4_ n5_
                  have p168 : 0 ≤ (x8_2 : Int) := of_decide_eq_true (by first | (with_reducible assumption) | assumption)
                  have q168 : x8_2 < (t163.length : Int) := of_decide_eq_true (by first | (with_reducible assumption) | assumption)
                  obtain ⟨ad168, e168, hx168_0⟩ := Kd.at_string (Kd.R_reads' HO_6.out).2.2 x8_2 p168 q168
                  cases e168
                  replace p168 := eq_true p168
                  replace q168 := eq_true q168
                  obtain ⟨Ao22, co22, eo22⟩ := Kd.V_slice HO_162003.out
                  (first | subst eo22 | (injection eo22 with f1_ f2_ f3_; have f4_ := f1_.symm; have f5_ := f3_.symm; clear f1_ f2_ f3_; subst f4_; subst f5_))
                  obtain ⟨Ao23, co23, eo23⟩ := Kd.V_slice HO_162004.out
                  (first | subst eo23 | (injection eo23 with f1_ f2_ f3_; have f4_ := f1_.symm; have f5_ := f3_.symm; clear f1_ f2_ f3_; subst f4_; subst f5_))
                  refine start_ (n := 7) (S := fun w' => w'.cell? ⟨gb161, 0, none⟩ = some (.int .i64 x162000_2) ∧ w'.cell? ⟨gb161, 1, none⟩ = some (.int .i64 x162001_2) ∧ w'.cell? ⟨gb161, 2, none⟩ = some (.string x162002_2) ∧ w'.cell? ⟨gb161, 3, none⟩ = some (.slice Ao22 x162003_2.length co22) ∧ w'.cell? ⟨gb161, 4, none⟩ = some (.slice Ao23 x162004_2.length co23) ∧ w'.cell? (ad168.add (x8_2).toNat) = some (.string (rdOf ByteArray.empty t163 x8_2))) (ds := []) #[false, false, false, false, false, false, false] (by kernel_rfl) rfl rfl ⟨(blk_cell BK161.out 0).trans rfl, (blk_cell BK161.out 1).trans rfl, (blk_cell BK161.out 2).trans rfl, (blk_cell BK161.out 3).trans rfl, (blk_cell BK161.out 4).trans rfl, hx168_0⟩ (fun hHeld => ?_)
                  generalize wr.drew = w21 at HO_6 HO_162003 HO_162004 BK161 BK162 HB hx168_0 hHeld ⊢
                  refine pure_ (i := 1) (N := some 30) (v := ?_) (a' := ?_) #[false, true, false, false, false, false, false] rfl rfl (by kernel_rfl) (fun _ _ _ h => h) (Or.inl ⟨by rfl, ?_⟩) ?_ ?_
                  rotate_left
                  · intro w'
                    go_simp
                    with_reducible rfl
                  rotate_left
                  · simp only [Act.put, List.setIfInBounds_toArray, List.set_cons_zero, List.set_cons_succ, i64_w, i32_w]
                    rfl
                  refine pure_ (i := 2) (N := some 31) (v := ?_) (a' := ?_) #[false, true, true, false, false, false, false] rfl rfl (by kernel_rfl) (fun _ _ _ h => h) (Or.inl ⟨by rfl, ?_⟩) ?_ ?_
                  rotate_left
                  · intro w'
                    go_simp
                    with_reducible rfl
                  rotate_left
                  · simp only [Act.put, List.setIfInBounds_toArray, List.set_cons_zero, List.set_cons_succ, i64_w, i32_w]
                    rfl
                  refine pure_ (i := 3) (N := some 32) (v := ?_) (a' := ?_) #[false, true, true, true, false, false, false] rfl rfl (by kernel_rfl) (fun _ _ _ h => h) (Or.inl ⟨by rfl, ?_⟩) ?_ ?_
                  rotate_left
                  · intro w'
                    go_simp
                    with_reducible rfl
                  rotate_left
                  · simp only [Act.put, List.setIfInBounds_toArray, List.set_cons_zero, List.set_cons_succ, i64_w, i32_w]
                    rfl
                  refine take_ (i := 0) (N := some 29) (v := ?_) (a' := ?_) #[true, true, true, true, false, false, false] rfl rfl (by kernel_rfl) (fun _ _ _ h => h) (Or.inl ⟨by rfl, ?_⟩) hHeld ?_ ?_
                  rotate_left
                  · rintro w' ⟨s0, s1, s2, s3, s4, s5⟩
                    go_simp
                    with_reducible rfl
                  rotate_left
                  · simp only [Act.put, List.setIfInBounds_toArray, List.set_cons_zero, List.set_cons_succ, i64_w, i32_w]
                    rfl
                  refine take_ (i := 4) (N := some 33) (v := ?_) (a' := ?_) #[true, true, true, true, true, false, false] rfl rfl (by kernel_rfl) (fun _ _ _ h => h) (Or.inl ⟨by rfl, ?_⟩) hHeld ?_ ?_
                  rotate_left
                  · rintro w' ⟨s0, s1, s2, s3, s4, s5⟩
                    go_simp
                    with_reducible rfl
                  rotate_left
                  · simp only [Act.put, List.setIfInBounds_toArray, List.set_cons_zero, List.set_cons_succ, i64_w, i32_w]
                    rfl
                  refine one_ (i := 5) (N := some 34) #[true, true, true, true, true, true, false] rfl rfl (by kernel_rfl) (by decide) (fun K hK => ?_)
                  refine goes_ Tryd.func21 (by kernel_rfl) rfl #[.agg #[.int .i64 x162000_2, .int .i64 x162001_2, .string x162002_2, .slice Ao22 x162003_2.length co22, .slice Ao23 x162004_2.length co23], .string (rdOf ByteArray.empty t163 x8_2)] (by rfl) rfl rfl (by (try simp only [List.map_toArray, List.map_cons, List.map_nil]); first | done | rfl | (simp only [List.length_drop, List.length_take]; rfl)) ?_
                  with_reducible refine (path_place.calls k2 x162000_2 x162001_2 x162002_2 _ _ x162003_2 _ _ x162004_2 (rdOf ByteArray.empty t163 x8_2) t169 _ ?side1 ?side2 ?side3 ?side4 A18.out).mono ?_
                  (case side1 => repeat (first | exact (Kd.V_reads' HO_162003.out).2.2 | (with_reducible refine Kd.C_alloc ?_ _) | (with_reducible refine Kd.C_drewN ?_ _) | (with_reducible refine Kd.C_drew ?_)))
                  (case side2 => exact (Kd.V_reads' HO_162003.out).2.1)
                  (case side3 => repeat (first | exact (Kd.V_reads' HO_162004.out).2.2 | (with_reducible refine Kd.C_alloc ?_ _) | (with_reducible refine Kd.C_drewN ?_ _) | (with_reducible refine Kd.C_drew ?_)))
                  (case side4 => exact (Kd.V_reads' HO_162004.out).2.1)
                  rintro e w24 ⟨rfl, hb⟩
                  have HS5_ := (hb.cell (World.block_lt_of_cell? _ _ (hHeld.2.2.2.2.2))).trans (hHeld.2.2.2.2.2)
                  refine ⟨_, rfl, ?_⟩
                  have n0_ := Aside0.mk (Kd.R_below (by (with_reducible repeat (first | apply Kd.R_alloc | apply Kd.R_drewN | apply Kd.R_drew)); exact HO_6.out) hb)
                  have n1_ := Aside0.mk (Kd.V_below (by (with_reducible repeat (first | apply Kd.V_alloc | apply Kd.V_drewN | apply Kd.V_drew)); exact HO_162003.out) hb)
                  have n2_ := Aside0.mk (Kd.V_below (by (with_reducible repeat (first | apply Kd.V_alloc | apply Kd.V_drewN | apply Kd.V_drew)); exact HO_162004.out) hb)
                  have n3_ := Aside0.mk (blk_below (g := gb161) (o := .cells #[.int .i64 x162000_2, .int .i64 x162001_2, .string x162002_2, .slice Ao22 x162003_2.length co22, .slice Ao23 x162004_2.length co23] 30 (0, 0)) (by (with_reducible repeat (first | refine blk_drewN ?_ _ | refine blk_drew ?_ | refine blk_alloc ?_ _)); exact BK161.out) hb)
                  have n4_ := Aside0.mk (blk_below (g := gb162) (o := .cells #[.int .i64 x163000_2, .int .i64 x163001_2, .string x163002_2, .slice none 0 0, .slice none 0 0] 30 (0, 0)) (by (with_reducible repeat (first | refine blk_drewN ?_ _ | refine blk_drew ?_ | refine blk_alloc ?_ _)); exact BK162.out) hb)
                  have n5_ := Aside0.mk (below_step (by repeat (first | (with_reducible first | exact HB.out | apply below_alloc | apply pw_below_drewN | apply below_drew1 | refine below_set ?_ GE161.out | refine below_set ?_ GE162.out) | exact HB.out)) hb)
                  clear HO_6
                  clear HO_162003
                  clear HO_162004
                  clear BK161
                  clear BK162
                  clear HB
                  have HO_6 := n0_
                  have HO_162003 := n1_
                  have HO_162004 := n2_
                  have BK161 := n3_
                  have BK162 := n4_
                  have HB := n5_
                  clear n0_ n1_ n2_ n3_ n4_ n5_
                  (try clear hb)
                  (try clear hb2)
                  (try clear hk)
                  (try clear hi)
                  refine hK.out _ _ ⟨(blk_cell BK161.out 0).trans rfl, (blk_cell BK161.out 1).trans rfl, (blk_cell BK161.out 2).trans rfl, (blk_cell BK161.out 3).trans rfl, (blk_cell BK161.out 4).trans rfl, HS5_⟩ (fun hHeld => ?_)
                  clear hK K
                  refine norm_ (a' := ?_) ?_ ?_
                  rotate_left
                  · show Act.put _ (some 34) _ = _
                    simp only [Act.put, List.setIfInBounds_toArray, List.set_cons_zero, List.set_cons_succ, i64_w, i32_w]
                    rfl
                  refine pure_ (i := 6) (N := some 9) (v := ?_) (a' := ?_) #[true, true, true, true, true, true, true] rfl rfl (by kernel_rfl) (fun _ _ _ h => h) (Or.inl ⟨by rfl, ?_⟩) ?_ ?_
                  rotate_left
                  · intro w'
                    go_simp
                    with_reducible rfl
                  rotate_left
                  · simp only [Act.put, List.setIfInBounds_toArray, List.set_cons_zero, List.set_cons_succ, i64_w, i32_w]
                    rfl
                  refine done_ (by kernel_rfl) ?_
                  have hnb25 := NB162_161.out
                  have hnc25 := NB161_162.out
                  have hcz26_0 : w24.cell? ⟨gb162, 0, none⟩ = some (.int .i64 x163000_2) := (blk_cell BK162.out 0).trans rfl
                  have hcz26_1 : w24.cell? ⟨gb162, 1, none⟩ = some (.int .i64 x163001_2) := (blk_cell BK162.out 1).trans rfl
                  have hcz26_2 : w24.cell? ⟨gb162, 2, none⟩ = some (.string x163002_2) := (blk_cell BK162.out 2).trans rfl
                  have hcz26_3 : w24.cell? ⟨gb162, 3, none⟩ = some (.slice none 0 0) := (blk_cell BK162.out 3).trans rfl
                  have hcz26_4 : w24.cell? ⟨gb162, 4, none⟩ = some (.slice none 0 0) := (blk_cell BK162.out 4).trans rfl
                  have hfz26_0 := blk_frozen BK162.out 0
                  have hfz26_1 := blk_frozen BK162.out 1
                  have hfz26_2 := blk_frozen BK162.out 2
                  have hfz26_3 := blk_frozen BK162.out 3
                  have hfz26_4 := blk_frozen BK162.out 4
                  try go_wp2
                  refine bodyPost_ret (results_ct rfl _ _ gb162 30 #[.int .i64 0, .int .i64 0, .string (⟨#[]⟩ : ByteArray), .slice none 0 0, .slice none 0 0] (0, 0) _ rfl (by (with_reducible repeat (first | refine blk_drewN ?_ _ | refine blk_drew ?_ | refine blk_alloc ?_ _)); refine blk_put (cs := #[.int .i64 0, .int .i64 0, .string (⟨#[]⟩ : ByteArray), .slice none 0 0, .slice none 0 0]) ?_ 4 _ rfl; (with_reducible repeat (first | refine blk_drewN ?_ _ | refine blk_drew ?_ | refine blk_alloc ?_ _)); refine blk_put (cs := #[.int .i64 0, .int .i64 0, .string (⟨#[]⟩ : ByteArray), .slice none 0 0, .slice none 0 0]) ?_ 3 _ rfl; (with_reducible repeat (first | refine blk_drewN ?_ _ | refine blk_drew ?_ | refine blk_alloc ?_ _)); refine blk_put (cs := #[.int .i64 0, .int .i64 0, .string x163002_2, .slice none 0 0, .slice none 0 0]) ?_ 2 _ rfl; (with_reducible repeat (first | refine blk_drewN ?_ _ | refine blk_drew ?_ | refine blk_alloc ?_ _)); refine blk_put (cs := #[.int .i64 0, .int .i64 x163001_2, .string x163002_2, .slice none 0 0, .slice none 0 0]) ?_ 1 _ rfl; (with_reducible repeat (first | refine blk_drewN ?_ _ | refine blk_drew ?_ | refine blk_alloc ?_ _)); refine blk_put (cs := #[.int .i64 x163000_2, .int .i64 x163001_2, .string x163002_2, .slice none 0 0, .slice none 0 0]) ?_ 0 _ rfl; (with_reducible repeat (first | refine blk_drewN ?_ _ | refine blk_drew ?_ | refine blk_alloc ?_ _)); exact BK162.out) Tryd.underlying30 rfl (by kernel_rfl)) rfl ?_
                  exact ⟨_, _, by first | rfl | (simp [errW_none, errW_some] <;> rfl) | (simp [*, errW_none, errW_some] <;> rfl), by first | exact Kd.R_nil _ _ _ _ _ | exact Kd.N_nil _ _ _ _ _ | exact Kd.V_nil _ _ _ _ _ | exact Kd.Q_nil _ _ _ _ _ | exact Kd.S_nil _ _ _ _ _, by first | exact Kd.R_nil _ _ _ _ _ | exact Kd.N_nil _ _ _ _ _ | exact Kd.V_nil _ _ _ _ _ | exact Kd.Q_nil _ _ _ _ _ | exact Kd.S_nil _ _ _ _ _, by repeat (first | (with_reducible first | exact HB.out | apply below_alloc | apply pw_below_drewN | apply below_drew1 | refine below_set ?_ GE161.out | refine below_set ?_ GE162.out) | exact HB.out)⟩
                · rw [if_neg c19] at H
                  have c19b0 : decide (t169 < 0) = false := decide_eq_false c19
                  clear c19
                  by_cases c27 : 0 ≤ t169
                  · rw [if_pos c27] at H
                    have c27b0 : decide (0 ≤ t169) = true := decide_eq_true c27
                    clear c27
                    by_cases c28 : t169 < (x162004_2.length : Int)
                    · rw [if_pos c28] at H
                      have c28b0 : decide (t169 < (x162004_2.length : Int)) = true := decide_eq_true c28
                      clear c28
                      have H' := Aside0.mk H
                      clear H
                      obtain ⟨Ao29, co29, eo29⟩ := Kd.R_slice HO_6.out
                      subst eo29
                      try go_wp2
                      have n0_ := Aside0.mk (Kd.R_drew HO_6.out)
                      have n1_ := Aside0.mk (Kd.V_drew HO_162003.out)
                      have n2_ := Aside0.mk (Kd.V_drew HO_162004.out)
                      have n3_ := Aside0.mk (blk_drew BK161.out)
                      have n4_ := Aside0.mk (blk_drew BK162.out)
                      have n5_ := Aside0.mk (below_drew1 HB.out)
                      clear HO_6
                      clear HO_162003
                      clear HO_162004
                      clear BK161
                      clear BK162
                      clear HB
                      have HO_6 := n0_
                      have HO_162003 := n1_
                      have HO_162004 := n2_
                      have BK161 := n3_
                      have BK162 := n4_
                      have HB := n5_
                      clear n0_ n1_ n2_ n3_ n4_ n5_
                      have p168 : 0 ≤ (x8_2 : Int) := of_decide_eq_true (by first | (with_reducible assumption) | assumption)
                      have q168 : x8_2 < (t163.length : Int) := of_decide_eq_true (by first | (with_reducible assumption) | assumption)
                      obtain ⟨ad168, e168, hx168_0⟩ := Kd.at_string (Kd.R_reads' HO_6.out).2.2 x8_2 p168 q168
                      cases e168
                      replace p168 := eq_true p168
                      replace q168 := eq_true q168
                      obtain ⟨Ao31, co31, eo31⟩ := Kd.V_slice HO_162003.out
                      (first | subst eo31 | (injection eo31 with f1_ f2_ f3_; have f4_ := f1_.symm; have f5_ := f3_.symm; clear f1_ f2_ f3_; subst f4_; subst f5_))
                      obtain ⟨Ao32, co32, eo32⟩ := Kd.V_slice HO_162004.out
                      (first | subst eo32 | (injection eo32 with f1_ f2_ f3_; have f4_ := f1_.symm; have f5_ := f3_.symm; clear f1_ f2_ f3_; subst f4_; subst f5_))
                      refine start_ (n := 7) (S := fun w' => w'.cell? ⟨gb161, 0, none⟩ = some (.int .i64 x162000_2) ∧ w'.cell? ⟨gb161, 1, none⟩ = some (.int .i64 x162001_2) ∧ w'.cell? ⟨gb161, 2, none⟩ = some (.string x162002_2) ∧ w'.cell? ⟨gb161, 3, none⟩ = some (.slice Ao31 x162003_2.length co31) ∧ w'.cell? ⟨gb161, 4, none⟩ = some (.slice Ao32 x162004_2.length co32) ∧ w'.cell? (ad168.add (x8_2).toNat) = some (.string (rdOf ByteArray.empty t163 x8_2))) (ds := []) #[false, false, false, false, false, false, false] (by kernel_rfl) rfl rfl ⟨(blk_cell BK161.out 0).trans rfl, (blk_cell BK161.out 1).trans rfl, (blk_cell BK161.out 2).trans rfl, (blk_cell BK161.out 3).trans rfl, (blk_cell BK161.out 4).trans rfl, hx168_0⟩ (fun hHeld => ?_)
                      generalize wr.drew = w30 at HO_6 HO_162003 HO_162004 BK161 BK162 HB hx168_0 hHeld ⊢
                      refine pure_ (i := 1) (N := some 30) (v := ?_) (a' := ?_) #[false, true, false, false, false, false, false] rfl rfl (by kernel_rfl) (fun _ _ _ h => h) (Or.inl ⟨by rfl, ?_⟩) ?_ ?_
                      rotate_left
                      · intro w'
                        go_simp
                        with_reducible rfl
                      rotate_left
                      · simp only [Act.put, List.setIfInBounds_toArray, List.set_cons_zero, List.set_cons_succ, i64_w, i32_w]
                        rfl
                      refine pure_ (i := 2) (N := some 31) (v := ?_) (a' := ?_) #[false, true, true, false, false, false, false] rfl rfl (by kernel_rfl) (fun _ _ _ h => h) (Or.inl ⟨by rfl, ?_⟩) ?_ ?_
                      rotate_left
                      · intro w'
                        go_simp
                        with_reducible rfl
                      rotate_left
                      · simp only [Act.put, List.setIfInBounds_toArray, List.set_cons_zero, List.set_cons_succ, i64_w, i32_w]
                        rfl
                      refine pure_ (i := 3) (N := some 32) (v := ?_) (a' := ?_) #[false, true, true, true, false, false, false] rfl rfl (by kernel_rfl) (fun _ _ _ h => h) (Or.inl ⟨by rfl, ?_⟩) ?_ ?_
                      rotate_left
                      · intro w'
                        go_simp
                        with_reducible rfl
                      rotate_left
                      · simp only [Act.put, List.setIfInBounds_toArray, List.set_cons_zero, List.set_cons_succ, i64_w, i32_w]
                        rfl
                      refine take_ (i := 0) (N := some 29) (v := ?_) (a' := ?_) #[true, true, true, true, false, false, false] rfl rfl (by kernel_rfl) (fun _ _ _ h => h) (Or.inl ⟨by rfl, ?_⟩) hHeld ?_ ?_
                      rotate_left
                      · rintro w' ⟨s0, s1, s2, s3, s4, s5⟩
                        go_simp
                        with_reducible rfl
                      rotate_left
                      · simp only [Act.put, List.setIfInBounds_toArray, List.set_cons_zero, List.set_cons_succ, i64_w, i32_w]
                        rfl
                      refine take_ (i := 4) (N := some 33) (v := ?_) (a' := ?_) #[true, true, true, true, true, false, false] rfl rfl (by kernel_rfl) (fun _ _ _ h => h) (Or.inl ⟨by rfl, ?_⟩) hHeld ?_ ?_
                      rotate_left
                      · rintro w' ⟨s0, s1, s2, s3, s4, s5⟩
                        go_simp
                        with_reducible rfl
                      rotate_left
                      · simp only [Act.put, List.setIfInBounds_toArray, List.set_cons_zero, List.set_cons_succ, i64_w, i32_w]
                        rfl
                      refine one_ (i := 5) (N := some 34) #[true, true, true, true, true, true, false] rfl rfl (by kernel_rfl) (by decide) (fun K hK => ?_)
                      refine goes_ Tryd.func21 (by kernel_rfl) rfl #[.agg #[.int .i64 x162000_2, .int .i64 x162001_2, .string x162002_2, .slice Ao31 x162003_2.length co31, .slice Ao32 x162004_2.length co32], .string (rdOf ByteArray.empty t163 x8_2)] (by rfl) rfl rfl (by (try simp only [List.map_toArray, List.map_cons, List.map_nil]); first | done | rfl | (simp only [List.length_drop, List.length_take]; rfl)) ?_
                      with_reducible refine (path_place.calls k2 x162000_2 x162001_2 x162002_2 _ _ x162003_2 _ _ x162004_2 (rdOf ByteArray.empty t163 x8_2) t169 _ ?side1 ?side2 ?side3 ?side4 A18.out).mono ?_
                      (case side1 => repeat (first | exact (Kd.V_reads' HO_162003.out).2.2 | (with_reducible refine Kd.C_alloc ?_ _) | (with_reducible refine Kd.C_drewN ?_ _) | (with_reducible refine Kd.C_drew ?_)))
                      (case side2 => exact (Kd.V_reads' HO_162003.out).2.1)
                      (case side3 => repeat (first | exact (Kd.V_reads' HO_162004.out).2.2 | (with_reducible refine Kd.C_alloc ?_ _) | (with_reducible refine Kd.C_drewN ?_ _) | (with_reducible refine Kd.C_drew ?_)))
                      (case side4 => exact (Kd.V_reads' HO_162004.out).2.1)
                      rintro e w33 ⟨rfl, hb⟩
                      have HS5_ := (hb.cell (World.block_lt_of_cell? _ _ (hHeld.2.2.2.2.2))).trans (hHeld.2.2.2.2.2)
                      refine ⟨_, rfl, ?_⟩
                      have n0_ := Aside0.mk (Kd.R_below (by (with_reducible repeat (first | apply Kd.R_alloc | apply Kd.R_drewN | apply Kd.R_drew)); exact HO_6.out) hb)
                      have n1_ := Aside0.mk (Kd.V_below (by (with_reducible repeat (first | apply Kd.V_alloc | apply Kd.V_drewN | apply Kd.V_drew)); exact HO_162003.out) hb)
                      have n2_ := Aside0.mk (Kd.V_below (by (with_reducible repeat (first | apply Kd.V_alloc | apply Kd.V_drewN | apply Kd.V_drew)); exact HO_162004.out) hb)
                      have n3_ := Aside0.mk (blk_below (g := gb161) (o := .cells #[.int .i64 x162000_2, .int .i64 x162001_2, .string x162002_2, .slice Ao31 x162003_2.length co31, .slice Ao32 x162004_2.length co32] 30 (0, 0)) (by (with_reducible repeat (first | refine blk_drewN ?_ _ | refine blk_drew ?_ | refine blk_alloc ?_ _)); exact BK161.out) hb)
                      have n4_ := Aside0.mk (blk_below (g := gb162) (o := .cells #[.int .i64 x163000_2, .int .i64 x163001_2, .string x163002_2, .slice none 0 0, .slice none 0 0] 30 (0, 0)) (by (with_reducible repeat (first | refine blk_drewN ?_ _ | refine blk_drew ?_ | refine blk_alloc ?_ _)); exact BK162.out) hb)
                      have n5_ := Aside0.mk (below_step (by repeat (first | (with_reducible first | exact HB.out | apply below_alloc | apply pw_below_drewN | apply below_drew1 | refine below_set ?_ GE161.out | refine below_set ?_ GE162.out) | exact HB.out)) hb)
                      clear HO_6
                      clear HO_162003
                      clear HO_162004
                      clear BK161
                      clear BK162
                      clear HB
                      have HO_6 := n0_
                      have HO_162003 := n1_
                      have HO_162004 := n2_
                      have BK161 := n3_
                      have BK162 := n4_
                      have HB := n5_
                      clear n0_ n1_ n2_ n3_ n4_ n5_
                      (try clear hb)
                      (try clear hb2)
                      (try clear hk)
                      (try clear hi)
                      refine hK.out _ _ ⟨(blk_cell BK161.out 0).trans rfl, (blk_cell BK161.out 1).trans rfl, (blk_cell BK161.out 2).trans rfl, (blk_cell BK161.out 3).trans rfl, (blk_cell BK161.out 4).trans rfl, HS5_⟩ (fun hHeld => ?_)
                      clear hK K
                      refine norm_ (a' := ?_) ?_ ?_
                      rotate_left
                      · show Act.put _ (some 34) _ = _
                        simp only [Act.put, List.setIfInBounds_toArray, List.set_cons_zero, List.set_cons_succ, i64_w, i32_w]
                        rfl
                      refine pure_ (i := 6) (N := some 9) (v := ?_) (a' := ?_) #[true, true, true, true, true, true, true] rfl rfl (by kernel_rfl) (fun _ _ _ h => h) (Or.inl ⟨by rfl, ?_⟩) ?_ ?_
                      rotate_left
                      · intro w'
                        go_simp
                        with_reducible rfl
                      rotate_left
                      · simp only [Act.put, List.setIfInBounds_toArray, List.set_cons_zero, List.set_cons_succ, i64_w, i32_w]
                        rfl
                      refine done_ (by kernel_rfl) ?_
                      have hnb34 := NB161_162.out
                      have hnc34 := NB162_161.out
                      have hcz35_0 : w33.cell? ⟨gb161, 0, none⟩ = some (.int .i64 x162000_2) := (blk_cell BK161.out 0).trans rfl
                      have hcz35_1 : w33.cell? ⟨gb161, 1, none⟩ = some (.int .i64 x162001_2) := (blk_cell BK161.out 1).trans rfl
                      have hcz35_2 : w33.cell? ⟨gb161, 2, none⟩ = some (.string x162002_2) := (blk_cell BK161.out 2).trans rfl
                      have hcz35_3 : w33.cell? ⟨gb161, 3, none⟩ = some (.slice Ao31 x162003_2.length co31) := (blk_cell BK161.out 3).trans rfl
                      have hcz35_4 : w33.cell? ⟨gb161, 4, none⟩ = some (.slice Ao32 x162004_2.length co32) := (blk_cell BK161.out 4).trans rfl
                      have hfz35_0 := blk_frozen BK161.out 0
                      have hfz35_1 := blk_frozen BK161.out 1
                      have hfz35_2 := blk_frozen BK161.out 2
                      have hfz35_3 := blk_frozen BK161.out 3
                      have hfz35_4 := blk_frozen BK161.out 4
                      have p170 : 0 ≤ (t169 : Int) := of_decide_eq_true (by first | (with_reducible assumption) | assumption)
                      have q170 : t169 < (x162004_2.length : Int) := of_decide_eq_true (by first | (with_reducible assumption) | assumption)
                      obtain ⟨ad170, A170_3, c170_3, A170_4, c170_4, e170, hx170_0, hx170_1, hx170_2, hx170_3, hx170_4, hl170_3, hi170_3, hl170_4, hi170_4⟩ := at_T30 (Kd.V_reads' HO_162004.out).2.2 t169 p170 q170
                      cases e170
                      obtain ⟨ce170, hce170, hMe170, hcc170⟩ := Kd.V_get HO_162004.out z30 t169 p170 (by first | exact q170 | exact of_decide_eq_true (by first | (with_reducible assumption) | assumption) | (have e_ := (Kd.V_reads' HO_162004.out).1; omega))
                      obtain ⟨ua170_3, uc170_3, ua170_4, uc170_4, rfl, ul170_3, ge170_3, ul170_4, ge170_4⟩ := k30_openF hMe170
                      have hv170_3 := hcc170 3 _ rfl
                      rw [add_field _ _ 3 (by omega)] at hv170_3
                      replace hv170_3 := Option.some.inj (hv170_3.symm.trans hx170_3)
                      injection hv170_3 with hva_ hvn_ hvc_
                      rw [hva_] at ge170_3
                      rw [hvc_] at ul170_3
                      have HL170_3 := Aside0.mk (show Kd.V Kd.string 9 _ w.heap.size _ _ ((rd_T30 x162004_2 t169).f3) from Kd.V_mk ul170_3 ge170_3)
                      clear hva_ hvn_ hvc_ ge170_3 ul170_3
                      have hv170_4 := hcc170 4 _ rfl
                      rw [add_field _ _ 4 (by omega)] at hv170_4
                      replace hv170_4 := Option.some.inj (hv170_4.symm.trans hx170_4)
                      injection hv170_4 with hva_ hvn_ hvc_
                      rw [hva_] at ge170_4
                      rw [hvc_] at ul170_4
                      have HL170_4 := Aside0.mk (show Kd.V k30 30 _ w.heap.size _ _ ((rd_T30 x162004_2 t169).f4) from Kd.V_mk ul170_4 ge170_4)
                      clear hva_ hvn_ hvc_ ge170_4 ul170_4
                      clear hcc170 hce170
                      have HR170_3 := Aside0.mk hi170_3
                      have HC170_3 := Aside0.mk hl170_3
                      clear hi170_3 hl170_3
                      have HR170_4 := Aside0.mk hi170_4
                      have HC170_4 := Aside0.mk hl170_4
                      clear hi170_4 hl170_4
                      replace p170 := eq_true p170
                      replace q170 := eq_true q170
                      try go_wp2
                      go_roundg k2
                      case measure => have := HJ3.out; have := HK2.out; omega
                      case rel => exact ⟨(wrap64 (x8_2 + 1)), ((rd_T30 x162004_2 t169).f0), ((rd_T30 x162004_2 t169).f1), ((rd_T30 x162004_2 t169).f2), ((rd_T30 x162004_2 t169).f3), ((rd_T30 x162004_2 t169).f4), (x163000_2), (x163001_2), (x163002_2), (.slice A170_3 ((rd_T30 x162004_2 t169).f3).length c170_3), (.slice A170_4 ((rd_T30 x162004_2 t169).f4).length c170_4), (by first | rfl | (simp; done) | (simp [*]; done)), H', ⟨by have := HJ3.out; have := HK2.out; omega⟩, ⟨by (with_reducible repeat (first | apply Kd.R_alloc | apply Kd.R_drewN | apply Kd.R_drew)); exact Kd.R_mono (Kd.R_far (p := ⟨gb161, 4, none⟩) (Kd.R_far (p := ⟨gb161, 3, none⟩) (Kd.R_far (p := ⟨gb161, 2, none⟩) (Kd.R_far (p := ⟨gb161, 1, none⟩) (Kd.R_far (p := ⟨gb161, 0, none⟩) (Kd.R_types HO_6.out BK161.out (by decide)) (fun _ hk => hk.2) (.int .i64 ((rd_T30 x162004_2 t169).f0))) (fun _ hk => hk.2) (.int .i64 ((rd_T30 x162004_2 t169).f1))) (fun _ hk => hk.2) (.string ((rd_T30 x162004_2 t169).f2))) (fun _ hk => hk.2) (.slice A170_3 ((rd_T30 x162004_2 t169).f3).length c170_3)) (fun _ hk => hk.2) (.slice A170_4 ((rd_T30 x162004_2 t169).f4).length c170_4)) (fun _ hk => hk.1)⟩, ⟨by (with_reducible repeat (first | apply Kd.V_alloc | apply Kd.V_drewN | apply Kd.V_drew)); exact Kd.V_mono (Kd.V_far (p := ⟨gb161, 4, none⟩) (Kd.V_far (p := ⟨gb161, 3, none⟩) (Kd.V_far (p := ⟨gb161, 2, none⟩) (Kd.V_far (p := ⟨gb161, 1, none⟩) (Kd.V_far (p := ⟨gb161, 0, none⟩) (Kd.V_mono HL170_3.out (fun k_ hk => (⟨hk, hk.2.2.1⟩ : _ ∧ k_ ≠ gb161))) (fun _ hk => hk.2) (.int .i64 ((rd_T30 x162004_2 t169).f0))) (fun _ hk => hk.2) (.int .i64 ((rd_T30 x162004_2 t169).f1))) (fun _ hk => hk.2) (.string ((rd_T30 x162004_2 t169).f2))) (fun _ hk => hk.2) (.slice A170_3 ((rd_T30 x162004_2 t169).f3).length c170_3)) (fun _ hk => hk.2) (.slice A170_4 ((rd_T30 x162004_2 t169).f4).length c170_4)) (fun _ hk => ⟨hk.1.1, ⟨hk.1.2.1, ⟨hk.1.2.2.1, hk.1.2.2.2⟩⟩⟩)⟩, ⟨by (with_reducible repeat (first | apply Kd.V_alloc | apply Kd.V_drewN | apply Kd.V_drew)); exact Kd.V_mono (Kd.V_far (p := ⟨gb161, 4, none⟩) (Kd.V_far (p := ⟨gb161, 3, none⟩) (Kd.V_far (p := ⟨gb161, 2, none⟩) (Kd.V_far (p := ⟨gb161, 1, none⟩) (Kd.V_far (p := ⟨gb161, 0, none⟩) (Kd.V_mono HL170_4.out (fun k_ hk => (⟨hk, hk.2.2.1⟩ : _ ∧ k_ ≠ gb161))) (fun _ hk => hk.2) (.int .i64 ((rd_T30 x162004_2 t169).f0))) (fun _ hk => hk.2) (.int .i64 ((rd_T30 x162004_2 t169).f1))) (fun _ hk => hk.2) (.string ((rd_T30 x162004_2 t169).f2))) (fun _ hk => hk.2) (.slice A170_3 ((rd_T30 x162004_2 t169).f3).length c170_3)) (fun _ hk => hk.2) (.slice A170_4 ((rd_T30 x162004_2 t169).f4).length c170_4)) (fun _ hk => ⟨hk.1.1, ⟨hk.1.2.1, ⟨hk.1.2.2.1, hk.1.2.2.2⟩⟩⟩)⟩, ⟨by (with_reducible repeat (first | refine blk_drewN ?_ _ | refine blk_drew ?_ | refine blk_alloc ?_ _)); refine blk_put (cs := #[.int .i64 ((rd_T30 x162004_2 t169).f0), .int .i64 ((rd_T30 x162004_2 t169).f1), .string ((rd_T30 x162004_2 t169).f2), .slice A170_3 ((rd_T30 x162004_2 t169).f3).length c170_3, .slice (some ad170) x162004_2.length co32]) ?_ 4 _ rfl; (with_reducible repeat (first | refine blk_drewN ?_ _ | refine blk_drew ?_ | refine blk_alloc ?_ _)); refine blk_put (cs := #[.int .i64 ((rd_T30 x162004_2 t169).f0), .int .i64 ((rd_T30 x162004_2 t169).f1), .string ((rd_T30 x162004_2 t169).f2), .slice Ao31 x162003_2.length co31, .slice (some ad170) x162004_2.length co32]) ?_ 3 _ rfl; (with_reducible repeat (first | refine blk_drewN ?_ _ | refine blk_drew ?_ | refine blk_alloc ?_ _)); refine blk_put (cs := #[.int .i64 ((rd_T30 x162004_2 t169).f0), .int .i64 ((rd_T30 x162004_2 t169).f1), .string x162002_2, .slice Ao31 x162003_2.length co31, .slice (some ad170) x162004_2.length co32]) ?_ 2 _ rfl; (with_reducible repeat (first | refine blk_drewN ?_ _ | refine blk_drew ?_ | refine blk_alloc ?_ _)); refine blk_put (cs := #[.int .i64 ((rd_T30 x162004_2 t169).f0), .int .i64 x162001_2, .string x162002_2, .slice Ao31 x162003_2.length co31, .slice (some ad170) x162004_2.length co32]) ?_ 1 _ rfl; (with_reducible repeat (first | refine blk_drewN ?_ _ | refine blk_drew ?_ | refine blk_alloc ?_ _)); refine blk_put (cs := #[.int .i64 x162000_2, .int .i64 x162001_2, .string x162002_2, .slice Ao31 x162003_2.length co31, .slice (some ad170) x162004_2.length co32]) ?_ 0 _ rfl; (with_reducible repeat (first | refine blk_drewN ?_ _ | refine blk_drew ?_ | refine blk_alloc ?_ _)); exact BK161.out⟩, ⟨by (with_reducible repeat (first | refine blk_drewN ?_ _ | refine blk_drew ?_ | refine blk_alloc ?_ _)); refine blk_far ?_ NB162_161.out _; (with_reducible repeat (first | refine blk_drewN ?_ _ | refine blk_drew ?_ | refine blk_alloc ?_ _)); refine blk_far ?_ NB162_161.out _; (with_reducible repeat (first | refine blk_drewN ?_ _ | refine blk_drew ?_ | refine blk_alloc ?_ _)); refine blk_far ?_ NB162_161.out _; (with_reducible repeat (first | refine blk_drewN ?_ _ | refine blk_drew ?_ | refine blk_alloc ?_ _)); refine blk_far ?_ NB162_161.out _; (with_reducible repeat (first | refine blk_drewN ?_ _ | refine blk_drew ?_ | refine blk_alloc ?_ _)); refine blk_far ?_ NB162_161.out _; (with_reducible repeat (first | refine blk_drewN ?_ _ | refine blk_drew ?_ | refine blk_alloc ?_ _)); exact BK162.out⟩, ⟨by repeat (first | (with_reducible first | exact HB.out | apply below_alloc | apply pw_below_drewN | apply below_drew1 | refine below_set ?_ GE161.out | refine below_set ?_ GE162.out) | exact HB.out)⟩⟩
                    · rw [if_neg c28] at H
                      exact absurd H (by simp)
                  · rw [if_neg c27] at H
                    exact absurd H (by simp)
              · rw [if_neg c17] at H
                exact absurd H (by simp)
            · rw [if_neg c16] at H
              have c16b0 : decide (x8_2 < (t163.length : Int)) = false := decide_eq_false c16
              clear c16
              replace H := Option.bind_eq_some_iff.mp H
              obtain ⟨⟨t171, t172, t173, t174, t177⟩, A360, H⟩ := H
              replace H : (some (t171, t172, t173, t174, t177, true)) = some (r1, r2, r3, r4, r5, r6) := H
              have A36 := Aside0.mk A360
              clear A360
              simp only [Option.some.injEq, Prod.mk.injEq] at H
              obtain ⟨rfl, rfl, rfl, rfl, rfl, rfl⟩ := H
              obtain ⟨Ao37, co37, eo37⟩ := Kd.R_slice HO_6.out
              subst eo37
              have hnb38 := NB161_162.out
              have hnc38 := NB162_161.out
              have hcz39_0 : wr.cell? ⟨gb161, 0, none⟩ = some (.int .i64 x162000_2) := (blk_cell BK161.out 0).trans rfl
              have hcz39_1 : wr.cell? ⟨gb161, 1, none⟩ = some (.int .i64 x162001_2) := (blk_cell BK161.out 1).trans rfl
              have hcz39_2 : wr.cell? ⟨gb161, 2, none⟩ = some (.string x162002_2) := (blk_cell BK161.out 2).trans rfl
              have hcz39_3 : wr.cell? ⟨gb161, 3, none⟩ = some (u162003) := (blk_cell BK161.out 3).trans rfl
              have hcz39_4 : wr.cell? ⟨gb161, 4, none⟩ = some (u162004) := (blk_cell BK161.out 4).trans rfl
              have hfz39_0 := blk_frozen BK161.out 0
              have hfz39_1 := blk_frozen BK161.out 1
              have hfz39_2 := blk_frozen BK161.out 2
              have hfz39_3 := blk_frozen BK161.out 3
              have hfz39_4 := blk_frozen BK161.out 4
              obtain ⟨Ao40, co40, eo40⟩ := Kd.V_slice HO_162003.out
              subst eo40
              obtain ⟨Ao41, co41, eo41⟩ := Kd.V_slice HO_162004.out
              subst eo41
              go_wp2_with (first | ((with_reducible refine gate_callee (f := 22) rfl ?_); refine goesL_ (some 44) rfl rfl Tryd.func22 (by kernel_rfl) rfl #[.agg #[.int .i64 x162000_2, .int .i64 x162001_2, .string x162002_2, .slice Ao40 x162003_2.length co40, .slice Ao41 x162004_2.length co41]] rfl (by (try simp only [List.map_toArray, List.map_cons, List.map_nil]); first | done | rfl | (simp only [List.length_drop, List.length_take]; rfl)) ?_; (with_reducible refine (path_own.calls k2 x162000_2 x162001_2 x162002_2 _ _ x162003_2 _ _ x162004_2 t171 t172 t173 t174 t177 _ ?side1 ?side2 ?side3 ?side4 A36.out).mono ?_); (case side1 => repeat (first | exact (Kd.V_reads' HO_162003.out).2.2 | (with_reducible refine Kd.C_alloc ?_ _) | (with_reducible refine Kd.C_drewN ?_ _) | (with_reducible refine Kd.C_drew ?_))); (case side2 => exact (Kd.V_reads' HO_162003.out).2.1); (case side3 => repeat (first | exact (Kd.V_reads' HO_162004.out).2.2 | (with_reducible refine Kd.C_alloc ?_ _) | (with_reducible refine Kd.C_drewN ?_ _) | (with_reducible refine Kd.C_drew ?_))); (case side4 => exact (Kd.V_reads' HO_162004.out).2.1); rintro e w42 ⟨v175, v178, rfl, ho0, ho1, hb⟩; refine ⟨_, rfl, ?_⟩; have n0_ := Aside0.mk (Kd.R_elder' (by (with_reducible repeat (first | apply Kd.R_alloc | apply Kd.R_drewN | apply Kd.R_drew)); exact HO_6.out) (Kd.R_base ho0) hb); have n1_ := Aside0.mk (Kd.V_mono (Kd.V_told (Kd.V_told (Kd.V_old (by (with_reducible repeat (first | apply Kd.V_alloc | apply Kd.V_drewN | apply Kd.V_drew)); exact HO_162003.out) hb) (Kd.R_base ho0)) (Kd.R_base ho1)) (fun _ h_ => h_.1)); have n2_ := Aside0.mk (Kd.V_mono (Kd.V_told (Kd.V_told (Kd.V_old (by (with_reducible repeat (first | apply Kd.V_alloc | apply Kd.V_drewN | apply Kd.V_drew)); exact HO_162004.out) hb) (Kd.R_base ho0)) (Kd.R_base ho1)) (fun _ h_ => h_.1)); have n3_ := Aside0.mk (Kd.R_lower (Kd.R_new' (Kd.R_newM (M := fun k_ => (w.heap.size ≤ k_)) ho0 (below_size (by repeat (first | (with_reducible first | exact HB.out | apply below_alloc | apply pw_below_drewN | apply below_drew1 | refine below_set ?_ GE161.out | refine below_set ?_ GE162.out) | exact HB.out))) (fun k_ h_ => h_)) (Kd.R_lt (by (with_reducible repeat (first | apply Kd.R_alloc | apply Kd.R_drewN | apply Kd.R_drew)); exact HO_6.out))) (below_size (by repeat (first | (with_reducible first | exact HB.out | apply below_alloc | apply pw_below_drewN | apply below_drew1 | refine below_set ?_ GE161.out | refine below_set ?_ GE162.out) | exact HB.out)))); have n4_ := Aside0.mk (Kd.R_lower (Kd.R_newB (Kd.R_newB (Kd.R_new' (Kd.R_newM (M := fun k_ => (w.heap.size ≤ k_)) ho1 (below_size (by repeat (first | (with_reducible first | exact HB.out | apply below_alloc | apply pw_below_drewN | apply below_drew1 | refine below_set ?_ GE161.out | refine below_set ?_ GE162.out) | exact HB.out))) (fun k_ h_ => h_)) (Kd.R_lt (by (with_reducible repeat (first | apply Kd.R_alloc | apply Kd.R_drewN | apply Kd.R_drew)); exact HO_6.out))) (g := gb161) (o := .cells #[.int .i64 x162000_2, .int .i64 x162001_2, .string x162002_2, .slice Ao40 x162003_2.length co40, .slice Ao41 x162004_2.length co41] 30 (0, 0)) (by (with_reducible repeat (first | refine blk_drewN ?_ _ | refine blk_drew ?_ | refine blk_alloc ?_ _)); exact BK161.out)) (g := gb162) (o := .cells #[.int .i64 x163000_2, .int .i64 x163001_2, .string x163002_2, .slice none 0 0, .slice none 0 0] 30 (0, 0)) (by (with_reducible repeat (first | refine blk_drewN ?_ _ | refine blk_drew ?_ | refine blk_alloc ?_ _)); exact BK162.out)) (below_size (by repeat (first | (with_reducible first | exact HB.out | apply below_alloc | apply pw_below_drewN | apply below_drew1 | refine below_set ?_ GE161.out | refine below_set ?_ GE162.out) | exact HB.out)))); have n5_ := Aside0.mk (blk_below (g := gb161) (o := .cells #[.int .i64 x162000_2, .int .i64 x162001_2, .string x162002_2, .slice Ao40 x162003_2.length co40, .slice Ao41 x162004_2.length co41] 30 (0, 0)) (by (with_reducible repeat (first | refine blk_drewN ?_ _ | refine blk_drew ?_ | refine blk_alloc ?_ _)); exact BK161.out) hb); have n6_ := Aside0.mk (blk_below (g := gb162) (o := .cells #[.int .i64 x163000_2, .int .i64 x163001_2, .string x163002_2, .slice none 0 0, .slice none 0 0] 30 (0, 0)) (by (with_reducible repeat (first | refine blk_drewN ?_ _ | refine blk_drew ?_ | refine blk_alloc ?_ _)); exact BK162.out) hb); have n7_ := Aside0.mk (below_step (by repeat (first | (with_reducible first | exact HB.out | apply below_alloc | apply pw_below_drewN | apply below_drew1 | refine below_set ?_ GE161.out | refine below_set ?_ GE162.out) | exact HB.out)) hb); clear HO_6; clear HO_162003; clear HO_162004; clear BK161; clear BK162; clear HB; have HO_6 := n0_; have HO_162003 := n1_; have HO_162004 := n2_; have HO176 := n3_; have HO179 := n4_; have BK161 := n5_; have BK162 := n6_; have HB := n7_; clear n0_ n1_ n2_ n3_ n4_ n5_ n6_ n7_; (try clear hb); (try clear hb2); (try clear hk); (try clear hi); (try clear ho0); (try clear ho1); have hcz43_0 : w42.cell? ⟨gb162, 0, none⟩ = some (.int .i64 x163000_2) := (blk_cell BK162.out 0).trans rfl; have hcz43_1 : w42.cell? ⟨gb162, 1, none⟩ = some (.int .i64 x163001_2) := (blk_cell BK162.out 1).trans rfl; have hcz43_2 : w42.cell? ⟨gb162, 2, none⟩ = some (.string x163002_2) := (blk_cell BK162.out 2).trans rfl; have hcz43_3 : w42.cell? ⟨gb162, 3, none⟩ = some (.slice none 0 0) := (blk_cell BK162.out 3).trans rfl; have hcz43_4 : w42.cell? ⟨gb162, 4, none⟩ = some (.slice none 0 0) := (blk_cell BK162.out 4).trans rfl; have hfz43_0 := blk_frozen BK162.out 0; have hfz43_1 := blk_frozen BK162.out 1; have hfz43_2 := blk_frozen BK162.out 2; have hfz43_3 := blk_frozen BK162.out 3; have hfz43_4 := blk_frozen BK162.out 4; obtain ⟨Ao44, co44, eo44⟩ := Kd.R_slice HO176.out; subst eo44; obtain ⟨Ao45, co45, eo45⟩ := Kd.R_slice HO179.out; subst eo45))
              refine bodyPost_ret (results_ct rfl _ _ gb162 30 #[.int .i64 t171, .int .i64 t172, .string t173, .slice Ao44 t174.length co44, .slice Ao45 t177.length co45] (0, 0) _ rfl (by (with_reducible repeat (first | refine blk_drewN ?_ _ | refine blk_drew ?_ | refine blk_alloc ?_ _)); refine blk_put (cs := #[.int .i64 t171, .int .i64 t172, .string t173, .slice Ao44 t174.length co44, .slice none 0 0]) ?_ 4 _ rfl; (with_reducible repeat (first | refine blk_drewN ?_ _ | refine blk_drew ?_ | refine blk_alloc ?_ _)); refine blk_put (cs := #[.int .i64 t171, .int .i64 t172, .string t173, .slice none 0 0, .slice none 0 0]) ?_ 3 _ rfl; (with_reducible repeat (first | refine blk_drewN ?_ _ | refine blk_drew ?_ | refine blk_alloc ?_ _)); refine blk_put (cs := #[.int .i64 t171, .int .i64 t172, .string x163002_2, .slice none 0 0, .slice none 0 0]) ?_ 2 _ rfl; (with_reducible repeat (first | refine blk_drewN ?_ _ | refine blk_drew ?_ | refine blk_alloc ?_ _)); refine blk_put (cs := #[.int .i64 t171, .int .i64 x163001_2, .string x163002_2, .slice none 0 0, .slice none 0 0]) ?_ 1 _ rfl; (with_reducible repeat (first | refine blk_drewN ?_ _ | refine blk_drew ?_ | refine blk_alloc ?_ _)); refine blk_put (cs := #[.int .i64 x163000_2, .int .i64 x163001_2, .string x163002_2, .slice none 0 0, .slice none 0 0]) ?_ 0 _ rfl; (with_reducible repeat (first | refine blk_drewN ?_ _ | refine blk_drew ?_ | refine blk_alloc ?_ _)); exact BK162.out) Tryd.underlying30 rfl (by kernel_rfl)) rfl ?_
              exact ⟨_, _, by first | rfl | (simp [errW_none, errW_some] <;> rfl) | (simp [*, errW_none, errW_some] <;> rfl), by (with_reducible repeat (first | apply Kd.R_alloc | apply Kd.R_drewN | apply Kd.R_drew)); exact Kd.R_mono (Kd.R_far (p := ⟨gb162, 4, none⟩) (Kd.R_far (p := ⟨gb162, 3, none⟩) (Kd.R_far (p := ⟨gb162, 2, none⟩) (Kd.R_far (p := ⟨gb162, 1, none⟩) (Kd.R_far (p := ⟨gb162, 0, none⟩) (Kd.R_types HO176.out BK162.out (by decide)) (fun _ hk => hk.2) (.int .i64 t171)) (fun _ hk => hk.2) (.int .i64 t172)) (fun _ hk => hk.2) (.string t173)) (fun _ hk => hk.2) (.slice Ao44 t174.length co44)) (fun _ hk => hk.2) (.slice Ao45 t177.length co45)) (fun _ hk => hk.1.1.1), by (with_reducible repeat (first | apply Kd.R_alloc | apply Kd.R_drewN | apply Kd.R_drew)); exact Kd.R_mono (Kd.R_far (p := ⟨gb162, 4, none⟩) (Kd.R_far (p := ⟨gb162, 3, none⟩) (Kd.R_far (p := ⟨gb162, 2, none⟩) (Kd.R_far (p := ⟨gb162, 1, none⟩) (Kd.R_far (p := ⟨gb162, 0, none⟩) (Kd.R_mono HO179.out (fun k_ hk => (⟨hk, hk.2⟩ : _ ∧ k_ ≠ gb162))) (fun _ hk => hk.2) (.int .i64 t171)) (fun _ hk => hk.2) (.int .i64 t172)) (fun _ hk => hk.2) (.string t173)) (fun _ hk => hk.2) (.slice Ao44 t174.length co44)) (fun _ hk => hk.2) (.slice Ao45 t177.length co45)) (fun _ hk => ⟨hk.1.1.1.1.1, hk.1.1.1.1.2⟩), by repeat (first | (with_reducible first | exact HB.out | apply below_alloc | apply pw_below_drewN | apply below_drew1 | refine below_set ?_ GE161.out | refine below_set ?_ GE162.out) | exact HB.out)⟩
end Go.Proofs.YteblbippmllfkaaDoor.PP
