import Derived.Test.YtegcbfgoomopdaaDoorZonrsPOx0
import Derived.Test.YtegcbfgoomopdaaDoorZonrsPOx7
import Derived.Test.YtegcbfgoomopdaaDoorZonrsPOx26
namespace Go.Proofs.YtegcbfgoomopdaaDoor.PO
open Go.RowKit Go.Proofs.YtegcbfgoomopdaaDoorW.PrintWords Go.Proofs.YtegcbfgoomopdaaDoorW.PrintLast Go.Proofs.YtegcbfgoomopdaaDoorW.PrintMore
attribute [local go_sem] max2_mx_ min2_mn_ max_two min_two max_three min_three max_four min_four   -- for this text's walks alone
set_option linter.unusedVariables false
set_option linter.unusedSimpArgs false
def munimentlaw03_OrderNumbers.j0 : Nat → Bool → Int → Int → ByteArray → Int → Int → ByteArray → Option (Bool)
  | 0, _, _, _, _, _, _, _ => none
  | k + 1, x60, x289000, x289001, x289002, x293000, x293001, x293002 => if x60 = true then (some false) else ((order_Compare.f k 0 0 (⟨#[]⟩ : ByteArray) ([] : List ByteArray) ([] : List (S30)) x289000 x289001 x289002 ([] : List ByteArray) ([] : List (S30))).bind fun t297 => (if t297 = (-1) then ((order_Compare.f k 1 0 (⟨#[]⟩ : ByteArray) ([] : List ByteArray) ([] : List (S30)) x289000 x289001 x289002 ([] : List ByteArray) ([] : List (S30))).bind fun t298 => (if t298 = (-1) then ((order_Compare.f k 2 0 (⟨#[]⟩ : ByteArray) ([] : List ByteArray) ([] : List (S30)) x293000 x293001 x293002 ([] : List ByteArray) ([] : List (S30))).bind fun t299 => (some (t299 == (-1)))) else (some false))) else (some false)))
def munimentlaw03_OrderNumbers.f (k : Nat) (a0_0 : Int) (a0_1 : Int) (a1_0 : Int) (a1_1 : Int) (a1_2 : Int) (a1_3 : Int) (a1_4 : Int) (a1_5 : Int) : Option (Bool) := (munimentlaw03_awake.f k).bind fun t285 => (if t285 = true then ((munimentlaw03_letters.f a1_0 a1_1 a1_2).bind fun t290 => ((munimentlaw03_letters.f a1_3 a1_4 a1_5).bind fun t291 => ((order_Compare.f k 3 a0_0 (⟨#[]⟩ : ByteArray) ([] : List ByteArray) ([] : List (S30)) 3 a0_1 (⟨#[]⟩ : ByteArray) ([] : List ByteArray) ([] : List (S30))).bind fun t294 => (if ((decide (t294 < 0)) != (decide (a0_0 < a0_1))) = true then (munimentlaw03_OrderNumbers.j0 k true 3 a0_0 (⟨#[]⟩ : ByteArray) 4 0 t290) else ((order_Compare.f k 4 0 t290 ([] : List ByteArray) ([] : List (S30)) 4 0 t291 ([] : List ByteArray) ([] : List (S30))).bind fun t295 => (if ((decide (t295 < 0)) != (Op.bytesLess t290.toList t291.toList)) = true then (munimentlaw03_OrderNumbers.j0 k true 3 a0_0 (⟨#[]⟩ : ByteArray) 4 0 t290) else ((order_Compare.f k 3 a0_0 (⟨#[]⟩ : ByteArray) ([] : List ByteArray) ([] : List (S30)) 4 0 t290 ([] : List ByteArray) ([] : List (S30))).bind fun t296 => (munimentlaw03_OrderNumbers.j0 k (t296 != (-1)) 3 a0_0 (⟨#[]⟩ : ByteArray) 4 0 t290)))))))) else (some false))
def munimentlaw03_OrderNumbers.T3 : Bool × List (List Nat × List Nat) := (true, [([], []), ([0], [0]), ([], []), ([2], [2]), ([], []), ([4], [4]), ([], []), ([6], [6]), ([], []), ([], []), ([1, 0, 1, 8, 9], [1]), ([3, 10, 0, 1, 2, 3, 8, 9, 10], [3]), ([8, 5, 11, 0, 1, 2, 3, 4, 5, 8, 9, 10, 11], [5, 8]), ([9, 7, 12, 0, 1, 2, 3, 4, 5, 6, 7, 8, 9, 10, 11, 12], [7, 9])])
def munimentlaw03_OrderNumbers.B3 : List Nat := [0, 1, 0, 4, 0, 16, 0, 64, 0, 0, 771, 1807, 3903, 8191]
theorem munimentlaw03_OrderNumbers.tab3 : rtab .any (opsOf Tryd.f7 3) = munimentlaw03_OrderNumbers.T3 := by kernel_rfl
theorem munimentlaw03_OrderNumbers.bits3 : waitsOk munimentlaw03_OrderNumbers.T3.2 munimentlaw03_OrderNumbers.B3 = true := by kernel_rfl
set_option maxHeartbeats 80000000 in
set_option maxRecDepth 100000 in
theorem munimentlaw03_OrderNumbers.calls (k : Nat) (a0_0 : Int) (a0_1 : Int) (a1_0 : Int) (a1_1 : Int) (a1_2 : Int) (a1_3 : Int) (a1_4 : Int) (a1_5 : Int) (r : Bool) (w : World) (hT : Tabs w) (h : munimentlaw03_OrderNumbers.f k a0_0 a0_1 a1_0 a1_1 a1_2 a1_3 a1_4 a1_5 = some r) :
    Calls Tryd.prog 7 #[.agg #[.int .i64 a0_0, .int .i64 a0_1], .agg #[.int .u8 a1_0, .int .u8 a1_1, .int .u8 a1_2, .int .u8 a1_3, .int .u8 a1_4, .int .u8 a1_5]] w fun e w' => e = .returned (.bool r) ∧ Below w.heap.size w w' := by
  have hu35 := Tryd.underlying35
  have hu37 := Tryd.underlying37
  have hu36 := Tryd.underlying36
  have hu30 := Tryd.underlying30
  have HT := Aside0.mk hT
  clear hT
  have HB := Aside0.mk (Below.refl w.heap.size w)
  have H : ((munimentlaw03_awake.f k).bind fun t285 => (if t285 = true then ((munimentlaw03_letters.f a1_0 a1_1 a1_2).bind fun t290 => ((munimentlaw03_letters.f a1_3 a1_4 a1_5).bind fun t291 => ((order_Compare.f k 3 a0_0 (⟨#[]⟩ : ByteArray) ([] : List ByteArray) ([] : List (S30)) 3 a0_1 (⟨#[]⟩ : ByteArray) ([] : List ByteArray) ([] : List (S30))).bind fun t294 => (if ((decide (t294 < 0)) != (decide (a0_0 < a0_1))) = true then (munimentlaw03_OrderNumbers.j0 k true 3 a0_0 (⟨#[]⟩ : ByteArray) 4 0 t290) else ((order_Compare.f k 4 0 t290 ([] : List ByteArray) ([] : List (S30)) 4 0 t291 ([] : List ByteArray) ([] : List (S30))).bind fun t295 => (if ((decide (t295 < 0)) != (Op.bytesLess t290.toList t291.toList)) = true then (munimentlaw03_OrderNumbers.j0 k true 3 a0_0 (⟨#[]⟩ : ByteArray) 4 0 t290) else ((order_Compare.f k 3 a0_0 (⟨#[]⟩ : ByteArray) ([] : List ByteArray) ([] : List (S30)) 4 0 t290 ([] : List ByteArray) ([] : List (S30))).bind fun t296 => (munimentlaw03_OrderNumbers.j0 k (t296 != (-1)) 3 a0_0 (⟨#[]⟩ : ByteArray) 4 0 t290)))))))) else (some false))) = some r := h
  clear h
  replace H := Option.bind_eq_some_iff.mp H
  obtain ⟨t285, A30, H⟩ := H
  replace H : (if t285 = true then ((munimentlaw03_letters.f a1_0 a1_1 a1_2).bind fun t290 => ((munimentlaw03_letters.f a1_3 a1_4 a1_5).bind fun t291 => ((order_Compare.f k 3 a0_0 (⟨#[]⟩ : ByteArray) ([] : List ByteArray) ([] : List (S30)) 3 a0_1 (⟨#[]⟩ : ByteArray) ([] : List ByteArray) ([] : List (S30))).bind fun t294 => (if ((decide (t294 < 0)) != (decide (a0_0 < a0_1))) = true then (munimentlaw03_OrderNumbers.j0 k true 3 a0_0 (⟨#[]⟩ : ByteArray) 4 0 t290) else ((order_Compare.f k 4 0 t290 ([] : List ByteArray) ([] : List (S30)) 4 0 t291 ([] : List ByteArray) ([] : List (S30))).bind fun t295 => (if ((decide (t295 < 0)) != (Op.bytesLess t290.toList t291.toList)) = true then (munimentlaw03_OrderNumbers.j0 k true 3 a0_0 (⟨#[]⟩ : ByteArray) 4 0 t290) else ((order_Compare.f k 3 a0_0 (⟨#[]⟩ : ByteArray) ([] : List ByteArray) ([] : List (S30)) 4 0 t290 ([] : List ByteArray) ([] : List (S30))).bind fun t296 => (munimentlaw03_OrderNumbers.j0 k (t296 != (-1)) 3 a0_0 (⟨#[]⟩ : ByteArray) 4 0 t290)))))))) else (some false)) = some r := H
  have A3 := Aside0.mk A30
  clear A30
  by_cases c4 : t285 = true
  · subst c4
    have H1 : ((munimentlaw03_letters.f a1_0 a1_1 a1_2).bind fun t290 => ((munimentlaw03_letters.f a1_3 a1_4 a1_5).bind fun t291 => ((order_Compare.f k 3 a0_0 (⟨#[]⟩ : ByteArray) ([] : List ByteArray) ([] : List (S30)) 3 a0_1 (⟨#[]⟩ : ByteArray) ([] : List ByteArray) ([] : List (S30))).bind fun t294 => (if ((decide (t294 < 0)) != (decide (a0_0 < a0_1))) = true then (munimentlaw03_OrderNumbers.j0 k true 3 a0_0 (⟨#[]⟩ : ByteArray) 4 0 t290) else ((order_Compare.f k 4 0 t290 ([] : List ByteArray) ([] : List (S30)) 4 0 t291 ([] : List ByteArray) ([] : List (S30))).bind fun t295 => (if ((decide (t295 < 0)) != (Op.bytesLess t290.toList t291.toList)) = true then (munimentlaw03_OrderNumbers.j0 k true 3 a0_0 (⟨#[]⟩ : ByteArray) 4 0 t290) else ((order_Compare.f k 3 a0_0 (⟨#[]⟩ : ByteArray) ([] : List ByteArray) ([] : List (S30)) 4 0 t290 ([] : List ByteArray) ([] : List (S30))).bind fun t296 => (munimentlaw03_OrderNumbers.j0 k (t296 != (-1)) 3 a0_0 (⟨#[]⟩ : ByteArray) 4 0 t290)))))))) = some r := by rw [if_pos rfl] at H; exact H
    clear H
    have H := H1
    clear H1
    replace H := Option.bind_eq_some_iff.mp H
    obtain ⟨t290, A50, H⟩ := H
    replace H : ((munimentlaw03_letters.f a1_3 a1_4 a1_5).bind fun t291 => ((order_Compare.f k 3 a0_0 (⟨#[]⟩ : ByteArray) ([] : List ByteArray) ([] : List (S30)) 3 a0_1 (⟨#[]⟩ : ByteArray) ([] : List ByteArray) ([] : List (S30))).bind fun t294 => (if ((decide (t294 < 0)) != (decide (a0_0 < a0_1))) = true then (munimentlaw03_OrderNumbers.j0 k true 3 a0_0 (⟨#[]⟩ : ByteArray) 4 0 t290) else ((order_Compare.f k 4 0 t290 ([] : List ByteArray) ([] : List (S30)) 4 0 t291 ([] : List ByteArray) ([] : List (S30))).bind fun t295 => (if ((decide (t295 < 0)) != (Op.bytesLess t290.toList t291.toList)) = true then (munimentlaw03_OrderNumbers.j0 k true 3 a0_0 (⟨#[]⟩ : ByteArray) 4 0 t290) else ((order_Compare.f k 3 a0_0 (⟨#[]⟩ : ByteArray) ([] : List ByteArray) ([] : List (S30)) 4 0 t290 ([] : List ByteArray) ([] : List (S30))).bind fun t296 => (munimentlaw03_OrderNumbers.j0 k (t296 != (-1)) 3 a0_0 (⟨#[]⟩ : ByteArray) 4 0 t290))))))) = some r := H
    have A5 := Aside0.mk A50
    clear A50
    replace H := Option.bind_eq_some_iff.mp H
    obtain ⟨t291, A60, H⟩ := H
    replace H : ((order_Compare.f k 3 a0_0 (⟨#[]⟩ : ByteArray) ([] : List ByteArray) ([] : List (S30)) 3 a0_1 (⟨#[]⟩ : ByteArray) ([] : List ByteArray) ([] : List (S30))).bind fun t294 => (if ((decide (t294 < 0)) != (decide (a0_0 < a0_1))) = true then (munimentlaw03_OrderNumbers.j0 k true 3 a0_0 (⟨#[]⟩ : ByteArray) 4 0 t290) else ((order_Compare.f k 4 0 t290 ([] : List ByteArray) ([] : List (S30)) 4 0 t291 ([] : List ByteArray) ([] : List (S30))).bind fun t295 => (if ((decide (t295 < 0)) != (Op.bytesLess t290.toList t291.toList)) = true then (munimentlaw03_OrderNumbers.j0 k true 3 a0_0 (⟨#[]⟩ : ByteArray) 4 0 t290) else ((order_Compare.f k 3 a0_0 (⟨#[]⟩ : ByteArray) ([] : List ByteArray) ([] : List (S30)) 4 0 t290 ([] : List ByteArray) ([] : List (S30))).bind fun t296 => (munimentlaw03_OrderNumbers.j0 k (t296 != (-1)) 3 a0_0 (⟨#[]⟩ : ByteArray) 4 0 t290)))))) = some r := H
    have A6 := Aside0.mk A60
    clear A60
    have HC7 := Aside0.mk H
    clear H
    go_enter Tryd.func7, Tryd.ntmps7
    try go_wp2_with (first | ((with_reducible refine gate_dst (N := 2) rfl ?_); refine box_event ?hg (N := 2) ?hd (cs := #[.int .i64 a0_0, .int .i64 a0_1]) (t := 35) ?hr ?_; (case hd => rfl); (case hg => rfl); (case hr => first | (go_simp; done) | (go_simp; rfl)); intro gb283 hg w8 hbox hb; have n0_ := Aside0.mk (below_step (by repeat (first | (with_reducible first | exact HB.out | apply below_alloc | apply pw_below_drewN | apply below_drew1) | exact HB.out)) hb); have n1_ := Aside0.mk (hbox); have n2_ := Aside0.mk ((by rw [hg]; exact (below_size (by repeat (first | (with_reducible first | exact HB.out | apply below_alloc | apply pw_below_drewN | apply below_drew1) | exact HB.out))) : w.heap.size ≤ gb283)); have n3_ := Aside0.mk ((by rw [hg]; exact (below_size (by repeat (first | (with_reducible first | exact HB.out | apply below_alloc | apply pw_below_drewN | apply below_drew1) | exact HB.out))) : w.heap.size ≤ gb283)); clear HB; have HB := n0_; have BK283 := n1_; have GW283 := n2_; have GE283 := n3_; clear n0_ n1_ n2_ n3_; clear hb hbox hg) | ((with_reducible refine gate_dst (N := 3) rfl ?_); refine box_event ?hg (N := 3) ?hd (cs := #[.int .u8 a1_0, .int .u8 a1_1, .int .u8 a1_2, .int .u8 a1_3, .int .u8 a1_4, .int .u8 a1_5]) (t := 37) ?hr ?_; (case hd => rfl); (case hg => rfl); (case hr => first | (go_simp; done) | (go_simp; rfl)); intro gb284 hg w9 hbox hb; have n0_ := Aside0.mk (blk_below (g := gb283) (o := .cells #[.int .i64 a0_0, .int .i64 a0_1] 35 (0, 0)) (by (with_reducible repeat (first | refine blk_drewN ?_ _ | refine blk_drew ?_ | refine blk_alloc ?_ _)); exact BK283.out) hb); have n1_ := Aside0.mk (below_step (by repeat (first | (with_reducible first | exact HB.out | apply below_alloc | apply pw_below_drewN | apply below_drew1 | refine below_set ?_ GE283.out) | exact HB.out)) hb); have n2_ := Aside0.mk (hbox); have n3_ := Aside0.mk ((by rw [hg]; exact (below_size (by repeat (first | (with_reducible first | exact HB.out | apply below_alloc | apply pw_below_drewN | apply below_drew1 | refine below_set ?_ GE283.out) | exact HB.out))) : w.heap.size ≤ gb284)); have n4_ := Aside0.mk ((by rw [hg]; exact (below_size (by repeat (first | (with_reducible first | exact HB.out | apply below_alloc | apply pw_below_drewN | apply below_drew1 | refine below_set ?_ GE283.out) | exact HB.out))) : w.heap.size ≤ gb284)); have n5_ := Aside0.mk ((by rw [hg]; exact Nat.ne_of_lt (blk_lt (g := gb283) (o := .cells #[.int .i64 a0_0, .int .i64 a0_1] 35 (0, 0)) (by (with_reducible repeat (first | refine blk_drewN ?_ _ | refine blk_drew ?_ | refine blk_alloc ?_ _)); exact BK283.out)) : gb283 ≠ gb284)); have n6_ := Aside0.mk ((by rw [hg]; exact Nat.ne_of_gt (blk_lt (g := gb283) (o := .cells #[.int .i64 a0_0, .int .i64 a0_1] 35 (0, 0)) (by (with_reducible repeat (first | refine blk_drewN ?_ _ | refine blk_drew ?_ | refine blk_alloc ?_ _)); exact BK283.out)) : gb284 ≠ gb283)); clear BK283; clear HB; have BK283 := n0_; have HB := n1_; have BK284 := n2_; have GW284 := n3_; have GE284 := n4_; have NB283_284 := n5_; have NB284_283 := n6_; clear n0_ n1_ n2_ n3_ n4_ n5_ n6_; clear hb hbox hg) | ((with_reducible refine gate_callee (f := 9) rfl ?_); refine goesL_ (some 15) rfl rfl Tryd.func9 (by kernel_rfl) rfl #[] rfl (by (try simp only [List.map_toArray, List.map_cons, List.map_nil]); first | done | rfl | (simp only [List.length_drop, List.length_take]; rfl)) ?_; (with_reducible refine (munimentlaw03_awake.calls k  true _ ?side1 A3.out).mono ?_); (case side1 => first | exact HT.out | (refine tabs_below HT.out ?_; repeat (first | exact HB.out | (with_reducible first | apply below_alloc | apply pw_below_drewN | apply below_drew1 | exact Below.refl _ _) | (refine below_set ?_ (Aside0.out (by assumption)))))); rintro e w10 ⟨rfl, hb⟩; refine ⟨_, rfl, ?_⟩; have n0_ := Aside0.mk (blk_below (g := gb283) (o := .cells #[.int .i64 a0_0, .int .i64 a0_1] 35 (0, 0)) (by (with_reducible repeat (first | refine blk_drewN ?_ _ | refine blk_drew ?_ | refine blk_alloc ?_ _)); exact BK283.out) hb); have n1_ := Aside0.mk (blk_below (g := gb284) (o := .cells #[.int .u8 a1_0, .int .u8 a1_1, .int .u8 a1_2, .int .u8 a1_3, .int .u8 a1_4, .int .u8 a1_5] 37 (0, 0)) (by (with_reducible repeat (first | refine blk_drewN ?_ _ | refine blk_drew ?_ | refine blk_alloc ?_ _)); exact BK284.out) hb); have n2_ := Aside0.mk (below_step (by repeat (first | (with_reducible first | exact HB.out | apply below_alloc | apply pw_below_drewN | apply below_drew1 | refine below_set ?_ GE283.out | refine below_set ?_ GE284.out) | exact HB.out)) hb); clear BK283; clear BK284; clear HB; have BK283 := n0_; have BK284 := n1_; have HB := n2_; clear n0_ n1_ n2_; (try clear hb); (try clear hb2); (try clear hk); (try clear hi); (try clear A3)))
    have n0_ := Aside0.mk (blk_drew BK283.out)
    have n1_ := Aside0.mk (blk_drew BK284.out)
    have n2_ := Aside0.mk (below_drew1 HB.out)
    clear BK283
    clear BK284
    clear HB
    have BK283 := n0_
    have BK284 := n1_
    have HB := n2_
    clear n0_ n1_ n2_
    refine start_ (n := 14) (S := fun w' => w'.cell? ⟨gb283, 0, none⟩ = some (.int .i64 a0_0) ∧ w'.cell? ⟨gb283, 1, none⟩ = some (.int .i64 a0_1) ∧ w'.cell? ⟨gb284, 0, none⟩ = some (.int .u8 a1_0) ∧ w'.cell? ⟨gb284, 1, none⟩ = some (.int .u8 a1_1) ∧ w'.cell? ⟨gb284, 2, none⟩ = some (.int .u8 a1_2) ∧ w'.cell? ⟨gb284, 3, none⟩ = some (.int .u8 a1_3) ∧ w'.cell? ⟨gb284, 4, none⟩ = some (.int .u8 a1_4) ∧ w'.cell? ⟨gb284, 5, none⟩ = some (.int .u8 a1_5)) (ds := []) #[false, false, false, false, false, false, false, false, false, false, false, false, false, false] (by kernel_rfl) rfl rfl ⟨(blk_cell BK283.out 0).trans rfl, (blk_cell BK283.out 1).trans rfl, (blk_cell BK284.out 0).trans rfl, (blk_cell BK284.out 1).trans rfl, (blk_cell BK284.out 2).trans rfl, (blk_cell BK284.out 3).trans rfl, (blk_cell BK284.out 4).trans rfl, (blk_cell BK284.out 5).trans rfl⟩ (fun hHeld => ?_); refine with_tabW munimentlaw03_OrderNumbers.tab3 munimentlaw03_OrderNumbers.bits3 (fun HT_ HW_ => ?_)
    generalize w10.drew = w11 at BK283 BK284 HB hHeld ⊢
    refine pure_ (i := 0) (N := some 17) (v := ?_) (a' := ?_) #[true, false, false, false, false, false, false, false, false, false, false, false, false, false] rfl rfl (any_of HT_.out (by kernel_rfl)) (fun _ _ _ h => h) (Or.inl ⟨by rfl, ?_⟩) ?_ ?_
    rotate_left
    · intro w'
      go_simp
      with_reducible rfl
    rotate_left
    · simp only [Act.put, List.setIfInBounds_toArray, List.set_cons_zero, List.set_cons_succ, i64_w, i32_w]
      rfl
    refine pure_ (i := 2) (N := some 19) (v := ?_) (a' := ?_) #[true, false, true, false, false, false, false, false, false, false, false, false, false, false] rfl rfl (any_of HT_.out (by kernel_rfl)) (fun _ _ _ h => h) (Or.inl ⟨by rfl, ?_⟩) ?_ ?_
    rotate_left
    · intro w'
      go_simp
      with_reducible rfl
    rotate_left
    · simp only [Act.put, List.setIfInBounds_toArray, List.set_cons_zero, List.set_cons_succ, i64_w, i32_w]
      rfl
    refine pure_ (i := 4) (N := some 21) (v := ?_) (a' := ?_) #[true, false, true, false, true, false, false, false, false, false, false, false, false, false] rfl rfl (any_of HT_.out (by kernel_rfl)) (fun _ _ _ h => h) (Or.inl ⟨by rfl, ?_⟩) ?_ ?_
    rotate_left
    · intro w'
      go_simp
      with_reducible rfl
    rotate_left
    · simp only [Act.put, List.setIfInBounds_toArray, List.set_cons_zero, List.set_cons_succ, i64_w, i32_w]
      rfl
    refine pure_ (i := 6) (N := some 23) (v := ?_) (a' := ?_) #[true, false, true, false, true, false, true, false, false, false, false, false, false, false] rfl rfl (any_of HT_.out (by kernel_rfl)) (fun _ _ _ h => h) (Or.inl ⟨by rfl, ?_⟩) ?_ ?_
    rotate_left
    · intro w'
      go_simp
      with_reducible rfl
    rotate_left
    · simp only [Act.put, List.setIfInBounds_toArray, List.set_cons_zero, List.set_cons_succ, i64_w, i32_w]
      rfl
    refine take_ (i := 1) (N := some 18) (v := ?_) (a' := ?_) #[true, true, true, false, true, false, true, false, false, false, false, false, false, false] rfl rfl (take_ofW HT_.out HW_.out (by kernel_rfl)) (fun _ _ _ h => h) (Or.inl ⟨by rfl, ?_⟩) hHeld ?_ ?_
    rotate_left
    · rintro w' ⟨s0, s1, s2, s3, s4, s5, s6, s7⟩
      go_simp
      with_reducible rfl
    rotate_left
    · simp only [Act.put, List.setIfInBounds_toArray, List.set_cons_zero, List.set_cons_succ, i64_w, i32_w]
      rfl
    refine take_ (i := 3) (N := some 20) (v := ?_) (a' := ?_) #[true, true, true, true, true, false, true, false, false, false, false, false, false, false] rfl rfl (take_ofW HT_.out HW_.out (by kernel_rfl)) (fun _ _ _ h => h) (Or.inl ⟨by rfl, ?_⟩) hHeld ?_ ?_
    rotate_left
    · rintro w' ⟨s0, s1, s2, s3, s4, s5, s6, s7⟩
      go_simp
      with_reducible rfl
    rotate_left
    · simp only [Act.put, List.setIfInBounds_toArray, List.set_cons_zero, List.set_cons_succ, i64_w, i32_w]
      rfl
    refine take_ (i := 5) (N := some 22) (v := ?_) (a' := ?_) #[true, true, true, true, true, true, true, false, false, false, false, false, false, false] rfl rfl (take_ofW HT_.out HW_.out (by kernel_rfl)) (fun _ _ _ h => h) (Or.inl ⟨by rfl, ?_⟩) hHeld ?_ ?_
    rotate_left
    · rintro w' ⟨s0, s1, s2, s3, s4, s5, s6, s7⟩
      go_simp
      with_reducible rfl
    rotate_left
    · simp only [Act.put, List.setIfInBounds_toArray, List.set_cons_zero, List.set_cons_succ, i64_w, i32_w]
      rfl
    refine take_ (i := 7) (N := some 24) (v := ?_) (a' := ?_) #[true, true, true, true, true, true, true, true, false, false, false, false, false, false] rfl rfl (take_ofW HT_.out HW_.out (by kernel_rfl)) (fun _ _ _ h => h) (Or.inl ⟨by rfl, ?_⟩) hHeld ?_ ?_
    rotate_left
    · rintro w' ⟨s0, s1, s2, s3, s4, s5, s6, s7⟩
      go_simp
      with_reducible rfl
    rotate_left
    · simp only [Act.put, List.setIfInBounds_toArray, List.set_cons_zero, List.set_cons_succ, i64_w, i32_w]
      rfl
    refine join_ (σ := Nat × Nat) 4 #[true, true, true, true, true, true, true, true, true, true, false, false, false, false] (fun s_ => [(7, .pointer (some ⟨s_.1, 0, none⟩)), (8, .pointer (some ⟨s_.2, 0, none⟩))]) (fun s_ w' => (w'.cell? ⟨gb283, 0, none⟩ = some (.int .i64 a0_0) ∧ w'.cell? ⟨gb283, 1, none⟩ = some (.int .i64 a0_1) ∧ w'.cell? ⟨gb284, 0, none⟩ = some (.int .u8 a1_0) ∧ w'.cell? ⟨gb284, 1, none⟩ = some (.int .u8 a1_1) ∧ w'.cell? ⟨gb284, 2, none⟩ = some (.int .u8 a1_2) ∧ w'.cell? ⟨gb284, 3, none⟩ = some (.int .u8 a1_3) ∧ w'.cell? ⟨gb284, 4, none⟩ = some (.int .u8 a1_4) ∧ w'.cell? ⟨gb284, 5, none⟩ = some (.int .u8 a1_5)) ∧ (w'.heap[gb283]? = some (.cells #[.int .i64 a0_0, .int .i64 a0_1] 35 (0, 0))) ∧ (w'.heap[gb284]? = some (.cells #[.int .u8 a1_0, .int .u8 a1_1, .int .u8 a1_2, .int .u8 a1_3, .int .u8 a1_4, .int .u8 a1_5] 37 (0, 0))) ∧ (w'.heap[s_.1]? = some (.cells #[.int .u8 0, .int .u8 0, .int .u8 0] 36 (0, 0))) ∧ (w'.heap[s_.2]? = some (.cells #[.int .u8 0, .int .u8 0, .int .u8 0] 36 (0, 0))) ∧ (w.heap.size ≤ s_.1) ∧ (w.heap.size ≤ s_.1) ∧ (gb283 ≠ s_.1) ∧ (s_.1 ≠ gb283) ∧ (gb284 ≠ s_.1) ∧ (s_.1 ≠ gb284) ∧ (s_.2 ≠ s_.1) ∧ (s_.1 ≠ s_.2) ∧ (w.heap.size ≤ s_.2) ∧ (w.heap.size ≤ s_.2) ∧ (gb283 ≠ s_.2) ∧ (s_.2 ≠ gb283) ∧ (gb284 ≠ s_.2) ∧ (s_.2 ≠ gb284) ∧ (Below w.heap.size w w')) ?_ ?_
    rotate_left
    · intro hCont
      refine two_ (i := 8) (j := 9) (Ni := some 7) (Nj := some 8) #[true, true, true, true, true, true, true, true, true, false, false, false, false, false] #[true, true, true, true, true, true, true, true, false, true, false, false, false, false] rfl rfl rfl rfl (two_of HT_.out (by kernel_rfl)) (by decide) (by decide) (fun K hK => ?_) (fun K hK => ?_)
      · skip
        refine box_step ?hg (N := 7) ?hd (cs := #[.int .u8 0, .int .u8 0, .int .u8 0]) (t := 36) ?hr ?_; (case hd => rfl); (case hg => rfl); (case hr => first | (go_simp; done) | (go_simp; rfl))
        intro gb286 hg w12 hbox hb
        have n0_ := Aside0.mk (blk_below (g := gb283) (o := .cells #[.int .i64 a0_0, .int .i64 a0_1] 35 (0, 0)) (by (with_reducible repeat (first | refine blk_drewN ?_ _ | refine blk_drew ?_ | refine blk_alloc ?_ _)); exact BK283.out) hb)
        have n1_ := Aside0.mk (blk_below (g := gb284) (o := .cells #[.int .u8 a1_0, .int .u8 a1_1, .int .u8 a1_2, .int .u8 a1_3, .int .u8 a1_4, .int .u8 a1_5] 37 (0, 0)) (by (with_reducible repeat (first | refine blk_drewN ?_ _ | refine blk_drew ?_ | refine blk_alloc ?_ _)); exact BK284.out) hb)
        have n2_ := Aside0.mk (below_step (by repeat (first | (with_reducible first | exact HB.out | apply below_alloc | apply pw_below_drewN | apply below_drew1 | refine below_set ?_ GE283.out | refine below_set ?_ GE284.out) | exact HB.out)) hb)
        have n3_ := Aside0.mk (hbox)
        have n4_ := Aside0.mk ((by rw [hg]; exact (below_size (by repeat (first | (with_reducible first | exact HB.out | apply below_alloc | apply pw_below_drewN | apply below_drew1 | refine below_set ?_ GE283.out | refine below_set ?_ GE284.out) | exact HB.out))) : w.heap.size ≤ gb286))
        have n5_ := Aside0.mk ((by rw [hg]; exact (below_size (by repeat (first | (with_reducible first | exact HB.out | apply below_alloc | apply pw_below_drewN | apply below_drew1 | refine below_set ?_ GE283.out | refine below_set ?_ GE284.out) | exact HB.out))) : w.heap.size ≤ gb286))
        have n6_ := Aside0.mk ((by rw [hg]; exact Nat.ne_of_lt (blk_lt (g := gb283) (o := .cells #[.int .i64 a0_0, .int .i64 a0_1] 35 (0, 0)) (by (with_reducible repeat (first | refine blk_drewN ?_ _ | refine blk_drew ?_ | refine blk_alloc ?_ _)); exact BK283.out)) : gb283 ≠ gb286))
        have n7_ := Aside0.mk ((by rw [hg]; exact Nat.ne_of_gt (blk_lt (g := gb283) (o := .cells #[.int .i64 a0_0, .int .i64 a0_1] 35 (0, 0)) (by (with_reducible repeat (first | refine blk_drewN ?_ _ | refine blk_drew ?_ | refine blk_alloc ?_ _)); exact BK283.out)) : gb286 ≠ gb283))
        have n8_ := Aside0.mk ((by rw [hg]; exact Nat.ne_of_lt (blk_lt (g := gb284) (o := .cells #[.int .u8 a1_0, .int .u8 a1_1, .int .u8 a1_2, .int .u8 a1_3, .int .u8 a1_4, .int .u8 a1_5] 37 (0, 0)) (by (with_reducible repeat (first | refine blk_drewN ?_ _ | refine blk_drew ?_ | refine blk_alloc ?_ _)); exact BK284.out)) : gb284 ≠ gb286))
        have n9_ := Aside0.mk ((by rw [hg]; exact Nat.ne_of_gt (blk_lt (g := gb284) (o := .cells #[.int .u8 a1_0, .int .u8 a1_1, .int .u8 a1_2, .int .u8 a1_3, .int .u8 a1_4, .int .u8 a1_5] 37 (0, 0)) (by (with_reducible repeat (first | refine blk_drewN ?_ _ | refine blk_drew ?_ | refine blk_alloc ?_ _)); exact BK284.out)) : gb286 ≠ gb284))
        clear BK283
        clear BK284
        clear HB
        have BK283 := n0_
        have BK284 := n1_
        have HB := n2_
        have BK286 := n3_
        have GW286 := n4_
        have GE286 := n5_
        have NB283_286 := n6_
        have NB286_283 := n7_
        have NB284_286 := n8_
        have NB286_284 := n9_
        clear n0_ n1_ n2_ n3_ n4_ n5_ n6_ n7_ n8_ n9_
        clear hb hbox hg
        refine hK.out _ _ ⟨(blk_cell BK283.out 0).trans rfl, (blk_cell BK283.out 1).trans rfl, (blk_cell BK284.out 0).trans rfl, (blk_cell BK284.out 1).trans rfl, (blk_cell BK284.out 2).trans rfl, (blk_cell BK284.out 3).trans rfl, (blk_cell BK284.out 4).trans rfl, (blk_cell BK284.out 5).trans rfl⟩ (fun hHeld => ?_)
        clear hK K
        refine norm_ (a' := ?_) ?_ ?_
        rotate_left
        · show Act.put _ (some 7) _ = _
          simp only [Act.put, List.setIfInBounds_toArray, List.set_cons_zero, List.set_cons_succ, i64_w, i32_w]
          rfl
        refine one_ (i := 9) (N := some 8) #[true, true, true, true, true, true, true, true, true, true, false, false, false, false] rfl rfl (one_of HT_.out (by kernel_rfl)) (by decide) (fun K hK => ?_)
        refine box_step ?hg (N := 8) ?hd (cs := #[.int .u8 0, .int .u8 0, .int .u8 0]) (t := 36) ?hr ?_; (case hd => rfl); (case hg => rfl); (case hr => first | (go_simp; done) | (go_simp; rfl))
        intro gb287 hg w13 hbox hb
        have n0_ := Aside0.mk (blk_below (g := gb283) (o := .cells #[.int .i64 a0_0, .int .i64 a0_1] 35 (0, 0)) (by (with_reducible repeat (first | refine blk_drewN ?_ _ | refine blk_drew ?_ | refine blk_alloc ?_ _)); exact BK283.out) hb)
        have n1_ := Aside0.mk (blk_below (g := gb284) (o := .cells #[.int .u8 a1_0, .int .u8 a1_1, .int .u8 a1_2, .int .u8 a1_3, .int .u8 a1_4, .int .u8 a1_5] 37 (0, 0)) (by (with_reducible repeat (first | refine blk_drewN ?_ _ | refine blk_drew ?_ | refine blk_alloc ?_ _)); exact BK284.out) hb)
        have n2_ := Aside0.mk (blk_below (g := gb286) (o := .cells #[.int .u8 0, .int .u8 0, .int .u8 0] 36 (0, 0)) (by (with_reducible repeat (first | refine blk_drewN ?_ _ | refine blk_drew ?_ | refine blk_alloc ?_ _)); exact BK286.out) hb)
        have n3_ := Aside0.mk (below_step (by repeat (first | (with_reducible first | exact HB.out | apply below_alloc | apply pw_below_drewN | apply below_drew1 | refine below_set ?_ GE283.out | refine below_set ?_ GE284.out | refine below_set ?_ GE286.out) | exact HB.out)) hb)
        have n4_ := Aside0.mk (hbox)
        have n5_ := Aside0.mk ((by rw [hg]; exact (below_size (by repeat (first | (with_reducible first | exact HB.out | apply below_alloc | apply pw_below_drewN | apply below_drew1 | refine below_set ?_ GE283.out | refine below_set ?_ GE284.out | refine below_set ?_ GE286.out) | exact HB.out))) : w.heap.size ≤ gb287))
        have n6_ := Aside0.mk ((by rw [hg]; exact (below_size (by repeat (first | (with_reducible first | exact HB.out | apply below_alloc | apply pw_below_drewN | apply below_drew1 | refine below_set ?_ GE283.out | refine below_set ?_ GE284.out | refine below_set ?_ GE286.out) | exact HB.out))) : w.heap.size ≤ gb287))
        have n7_ := Aside0.mk ((by rw [hg]; exact Nat.ne_of_lt (blk_lt (g := gb283) (o := .cells #[.int .i64 a0_0, .int .i64 a0_1] 35 (0, 0)) (by (with_reducible repeat (first | refine blk_drewN ?_ _ | refine blk_drew ?_ | refine blk_alloc ?_ _)); exact BK283.out)) : gb283 ≠ gb287))
        have n8_ := Aside0.mk ((by rw [hg]; exact Nat.ne_of_gt (blk_lt (g := gb283) (o := .cells #[.int .i64 a0_0, .int .i64 a0_1] 35 (0, 0)) (by (with_reducible repeat (first | refine blk_drewN ?_ _ | refine blk_drew ?_ | refine blk_alloc ?_ _)); exact BK283.out)) : gb287 ≠ gb283))
        have n9_ := Aside0.mk ((by rw [hg]; exact Nat.ne_of_lt (blk_lt (g := gb284) (o := .cells #[.int .u8 a1_0, .int .u8 a1_1, .int .u8 a1_2, .int .u8 a1_3, .int .u8 a1_4, .int .u8 a1_5] 37 (0, 0)) (by (with_reducible repeat (first | refine blk_drewN ?_ _ | refine blk_drew ?_ | refine blk_alloc ?_ _)); exact BK284.out)) : gb284 ≠ gb287))
        have n10_ := Aside0.mk ((by rw [hg]; exact Nat.ne_of_gt (blk_lt (g := gb284) (o := .cells #[.int .u8 a1_0, .int .u8 a1_1, .int .u8 a1_2, .int .u8 a1_3, .int .u8 a1_4, .int .u8 a1_5] 37 (0, 0)) (by (with_reducible repeat (first | refine blk_drewN ?_ _ | refine blk_drew ?_ | refine blk_alloc ?_ _)); exact BK284.out)) : gb287 ≠ gb284))
        have n11_ := Aside0.mk ((by rw [hg]; exact Nat.ne_of_lt (blk_lt (g := gb286) (o := .cells #[.int .u8 0, .int .u8 0, .int .u8 0] 36 (0, 0)) (by (with_reducible repeat (first | refine blk_drewN ?_ _ | refine blk_drew ?_ | refine blk_alloc ?_ _)); exact BK286.out)) : gb286 ≠ gb287))
        have n12_ := Aside0.mk ((by rw [hg]; exact Nat.ne_of_gt (blk_lt (g := gb286) (o := .cells #[.int .u8 0, .int .u8 0, .int .u8 0] 36 (0, 0)) (by (with_reducible repeat (first | refine blk_drewN ?_ _ | refine blk_drew ?_ | refine blk_alloc ?_ _)); exact BK286.out)) : gb287 ≠ gb286))
        clear BK283
        clear BK284
        clear BK286
        clear HB
        have BK283 := n0_
        have BK284 := n1_
        have BK286 := n2_
        have HB := n3_
        have BK287 := n4_
        have GW287 := n5_
        have GE287 := n6_
        have NB283_287 := n7_
        have NB287_283 := n8_
        have NB284_287 := n9_
        have NB287_284 := n10_
        have NB286_287 := n11_
        have NB287_286 := n12_
        clear n0_ n1_ n2_ n3_ n4_ n5_ n6_ n7_ n8_ n9_ n10_ n11_ n12_
        clear hb hbox hg
        refine hK.out _ _ ⟨(blk_cell BK283.out 0).trans rfl, (blk_cell BK283.out 1).trans rfl, (blk_cell BK284.out 0).trans rfl, (blk_cell BK284.out 1).trans rfl, (blk_cell BK284.out 2).trans rfl, (blk_cell BK284.out 3).trans rfl, (blk_cell BK284.out 4).trans rfl, (blk_cell BK284.out 5).trans rfl⟩ (fun hHeld => ?_)
        clear hK K
        refine norm_ (a' := ?_) ?_ ?_
        rotate_left
        · show Act.put _ (some 8) _ = _
          simp only [Act.put, List.setIfInBounds_toArray, List.set_cons_zero, List.set_cons_succ, i64_w, i32_w]
          rfl
        exact norm_ (by simp only [putAll, Act.put, List.setIfInBounds_toArray, List.set_cons_zero, List.set_cons_succ]) (hCont (gb286, gb287) _ ⟨hHeld, (by (with_reducible repeat (first | refine blk_drewN ?_ _ | refine blk_drew ?_ | refine blk_alloc ?_ _)); exact BK283.out), (by (with_reducible repeat (first | refine blk_drewN ?_ _ | refine blk_drew ?_ | refine blk_alloc ?_ _)); exact BK284.out), (by (with_reducible repeat (first | refine blk_drewN ?_ _ | refine blk_drew ?_ | refine blk_alloc ?_ _)); exact BK286.out), (by (with_reducible repeat (first | refine blk_drewN ?_ _ | refine blk_drew ?_ | refine blk_alloc ?_ _)); exact BK287.out), GW286.out, GE286.out, NB283_286.out, NB286_283.out, NB284_286.out, NB286_284.out, NB287_286.out, NB286_287.out, GW287.out, GE287.out, NB283_287.out, NB287_283.out, NB284_287.out, NB287_284.out, (by repeat (first | (with_reducible first | exact HB.out | apply below_alloc | apply pw_below_drewN | apply below_drew1 | refine below_set ?_ GE283.out | refine below_set ?_ GE284.out | refine below_set ?_ GE286.out | refine below_set ?_ GE287.out) | exact HB.out))⟩)
      · skip
        refine box_step ?hg (N := 8) ?hd (cs := #[.int .u8 0, .int .u8 0, .int .u8 0]) (t := 36) ?hr ?_; (case hd => rfl); (case hg => rfl); (case hr => first | (go_simp; done) | (go_simp; rfl))
        intro gb287 hg w12 hbox hb
        have n0_ := Aside0.mk (blk_below (g := gb283) (o := .cells #[.int .i64 a0_0, .int .i64 a0_1] 35 (0, 0)) (by (with_reducible repeat (first | refine blk_drewN ?_ _ | refine blk_drew ?_ | refine blk_alloc ?_ _)); exact BK283.out) hb)
        have n1_ := Aside0.mk (blk_below (g := gb284) (o := .cells #[.int .u8 a1_0, .int .u8 a1_1, .int .u8 a1_2, .int .u8 a1_3, .int .u8 a1_4, .int .u8 a1_5] 37 (0, 0)) (by (with_reducible repeat (first | refine blk_drewN ?_ _ | refine blk_drew ?_ | refine blk_alloc ?_ _)); exact BK284.out) hb)
        have n2_ := Aside0.mk (below_step (by repeat (first | (with_reducible first | exact HB.out | apply below_alloc | apply pw_below_drewN | apply below_drew1 | refine below_set ?_ GE283.out | refine below_set ?_ GE284.out) | exact HB.out)) hb)
        have n3_ := Aside0.mk (hbox)
        have n4_ := Aside0.mk ((by rw [hg]; exact (below_size (by repeat (first | (with_reducible first | exact HB.out | apply below_alloc | apply pw_below_drewN | apply below_drew1 | refine below_set ?_ GE283.out | refine below_set ?_ GE284.out) | exact HB.out))) : w.heap.size ≤ gb287))
        have n5_ := Aside0.mk ((by rw [hg]; exact (below_size (by repeat (first | (with_reducible first | exact HB.out | apply below_alloc | apply pw_below_drewN | apply below_drew1 | refine below_set ?_ GE283.out | refine below_set ?_ GE284.out) | exact HB.out))) : w.heap.size ≤ gb287))
        have n6_ := Aside0.mk ((by rw [hg]; exact Nat.ne_of_lt (blk_lt (g := gb283) (o := .cells #[.int .i64 a0_0, .int .i64 a0_1] 35 (0, 0)) (by (with_reducible repeat (first | refine blk_drewN ?_ _ | refine blk_drew ?_ | refine blk_alloc ?_ _)); exact BK283.out)) : gb283 ≠ gb287))
        have n7_ := Aside0.mk ((by rw [hg]; exact Nat.ne_of_gt (blk_lt (g := gb283) (o := .cells #[.int .i64 a0_0, .int .i64 a0_1] 35 (0, 0)) (by (with_reducible repeat (first | refine blk_drewN ?_ _ | refine blk_drew ?_ | refine blk_alloc ?_ _)); exact BK283.out)) : gb287 ≠ gb283))
        have n8_ := Aside0.mk ((by rw [hg]; exact Nat.ne_of_lt (blk_lt (g := gb284) (o := .cells #[.int .u8 a1_0, .int .u8 a1_1, .int .u8 a1_2, .int .u8 a1_3, .int .u8 a1_4, .int .u8 a1_5] 37 (0, 0)) (by (with_reducible repeat (first | refine blk_drewN ?_ _ | refine blk_drew ?_ | refine blk_alloc ?_ _)); exact BK284.out)) : gb284 ≠ gb287))
        have n9_ := Aside0.mk ((by rw [hg]; exact Nat.ne_of_gt (blk_lt (g := gb284) (o := .cells #[.int .u8 a1_0, .int .u8 a1_1, .int .u8 a1_2, .int .u8 a1_3, .int .u8 a1_4, .int .u8 a1_5] 37 (0, 0)) (by (with_reducible repeat (first | refine blk_drewN ?_ _ | refine blk_drew ?_ | refine blk_alloc ?_ _)); exact BK284.out)) : gb287 ≠ gb284))
        clear BK283
        clear BK284
        clear HB
        have BK283 := n0_
        have BK284 := n1_
        have HB := n2_
        have BK287 := n3_
        have GW287 := n4_
        have GE287 := n5_
        have NB283_287 := n6_
        have NB287_283 := n7_
        have NB284_287 := n8_
        have NB287_284 := n9_
        clear n0_ n1_ n2_ n3_ n4_ n5_ n6_ n7_ n8_ n9_
        clear hb hbox hg
        refine hK.out _ _ ⟨(blk_cell BK283.out 0).trans rfl, (blk_cell BK283.out 1).trans rfl, (blk_cell BK284.out 0).trans rfl, (blk_cell BK284.out 1).trans rfl, (blk_cell BK284.out 2).trans rfl, (blk_cell BK284.out 3).trans rfl, (blk_cell BK284.out 4).trans rfl, (blk_cell BK284.out 5).trans rfl⟩ (fun hHeld => ?_)
        clear hK K
        refine norm_ (a' := ?_) ?_ ?_
        rotate_left
        · show Act.put _ (some 8) _ = _
          simp only [Act.put, List.setIfInBounds_toArray, List.set_cons_zero, List.set_cons_succ, i64_w, i32_w]
          rfl
        refine one_ (i := 8) (N := some 7) #[true, true, true, true, true, true, true, true, true, true, false, false, false, false] rfl rfl (one_of HT_.out (by kernel_rfl)) (by decide) (fun K hK => ?_)
        refine box_step ?hg (N := 7) ?hd (cs := #[.int .u8 0, .int .u8 0, .int .u8 0]) (t := 36) ?hr ?_; (case hd => rfl); (case hg => rfl); (case hr => first | (go_simp; done) | (go_simp; rfl))
        intro gb286 hg w13 hbox hb
        have n0_ := Aside0.mk (blk_below (g := gb283) (o := .cells #[.int .i64 a0_0, .int .i64 a0_1] 35 (0, 0)) (by (with_reducible repeat (first | refine blk_drewN ?_ _ | refine blk_drew ?_ | refine blk_alloc ?_ _)); exact BK283.out) hb)
        have n1_ := Aside0.mk (blk_below (g := gb284) (o := .cells #[.int .u8 a1_0, .int .u8 a1_1, .int .u8 a1_2, .int .u8 a1_3, .int .u8 a1_4, .int .u8 a1_5] 37 (0, 0)) (by (with_reducible repeat (first | refine blk_drewN ?_ _ | refine blk_drew ?_ | refine blk_alloc ?_ _)); exact BK284.out) hb)
        have n2_ := Aside0.mk (blk_below (g := gb287) (o := .cells #[.int .u8 0, .int .u8 0, .int .u8 0] 36 (0, 0)) (by (with_reducible repeat (first | refine blk_drewN ?_ _ | refine blk_drew ?_ | refine blk_alloc ?_ _)); exact BK287.out) hb)
        have n3_ := Aside0.mk (below_step (by repeat (first | (with_reducible first | exact HB.out | apply below_alloc | apply pw_below_drewN | apply below_drew1 | refine below_set ?_ GE283.out | refine below_set ?_ GE284.out | refine below_set ?_ GE287.out) | exact HB.out)) hb)
        have n4_ := Aside0.mk (hbox)
        have n5_ := Aside0.mk ((by rw [hg]; exact (below_size (by repeat (first | (with_reducible first | exact HB.out | apply below_alloc | apply pw_below_drewN | apply below_drew1 | refine below_set ?_ GE283.out | refine below_set ?_ GE284.out | refine below_set ?_ GE287.out) | exact HB.out))) : w.heap.size ≤ gb286))
        have n6_ := Aside0.mk ((by rw [hg]; exact (below_size (by repeat (first | (with_reducible first | exact HB.out | apply below_alloc | apply pw_below_drewN | apply below_drew1 | refine below_set ?_ GE283.out | refine below_set ?_ GE284.out | refine below_set ?_ GE287.out) | exact HB.out))) : w.heap.size ≤ gb286))
        have n7_ := Aside0.mk ((by rw [hg]; exact Nat.ne_of_lt (blk_lt (g := gb283) (o := .cells #[.int .i64 a0_0, .int .i64 a0_1] 35 (0, 0)) (by (with_reducible repeat (first | refine blk_drewN ?_ _ | refine blk_drew ?_ | refine blk_alloc ?_ _)); exact BK283.out)) : gb283 ≠ gb286))
        have n8_ := Aside0.mk ((by rw [hg]; exact Nat.ne_of_gt (blk_lt (g := gb283) (o := .cells #[.int .i64 a0_0, .int .i64 a0_1] 35 (0, 0)) (by (with_reducible repeat (first | refine blk_drewN ?_ _ | refine blk_drew ?_ | refine blk_alloc ?_ _)); exact BK283.out)) : gb286 ≠ gb283))
        have n9_ := Aside0.mk ((by rw [hg]; exact Nat.ne_of_lt (blk_lt (g := gb284) (o := .cells #[.int .u8 a1_0, .int .u8 a1_1, .int .u8 a1_2, .int .u8 a1_3, .int .u8 a1_4, .int .u8 a1_5] 37 (0, 0)) (by (with_reducible repeat (first | refine blk_drewN ?_ _ | refine blk_drew ?_ | refine blk_alloc ?_ _)); exact BK284.out)) : gb284 ≠ gb286))
        have n10_ := Aside0.mk ((by rw [hg]; exact Nat.ne_of_gt (blk_lt (g := gb284) (o := .cells #[.int .u8 a1_0, .int .u8 a1_1, .int .u8 a1_2, .int .u8 a1_3, .int .u8 a1_4, .int .u8 a1_5] 37 (0, 0)) (by (with_reducible repeat (first | refine blk_drewN ?_ _ | refine blk_drew ?_ | refine blk_alloc ?_ _)); exact BK284.out)) : gb286 ≠ gb284))
        have n11_ := Aside0.mk ((by rw [hg]; exact Nat.ne_of_lt (blk_lt (g := gb287) (o := .cells #[.int .u8 0, .int .u8 0, .int .u8 0] 36 (0, 0)) (by (with_reducible repeat (first | refine blk_drewN ?_ _ | refine blk_drew ?_ | refine blk_alloc ?_ _)); exact BK287.out)) : gb287 ≠ gb286))
        have n12_ := Aside0.mk ((by rw [hg]; exact Nat.ne_of_gt (blk_lt (g := gb287) (o := .cells #[.int .u8 0, .int .u8 0, .int .u8 0] 36 (0, 0)) (by (with_reducible repeat (first | refine blk_drewN ?_ _ | refine blk_drew ?_ | refine blk_alloc ?_ _)); exact BK287.out)) : gb286 ≠ gb287))
        clear BK283
        clear BK284
        clear BK287
        clear HB
        have BK283 := n0_
        have BK284 := n1_
        have BK287 := n2_
        have HB := n3_
        have BK286 := n4_
        have GW286 := n5_
        have GE286 := n6_
        have NB283_286 := n7_
        have NB286_283 := n8_
        have NB284_286 := n9_
        have NB286_284 := n10_
        have NB287_286 := n11_
        have NB286_287 := n12_
        clear n0_ n1_ n2_ n3_ n4_ n5_ n6_ n7_ n8_ n9_ n10_ n11_ n12_
        clear hb hbox hg
        refine hK.out _ _ ⟨(blk_cell BK283.out 0).trans rfl, (blk_cell BK283.out 1).trans rfl, (blk_cell BK284.out 0).trans rfl, (blk_cell BK284.out 1).trans rfl, (blk_cell BK284.out 2).trans rfl, (blk_cell BK284.out 3).trans rfl, (blk_cell BK284.out 4).trans rfl, (blk_cell BK284.out 5).trans rfl⟩ (fun hHeld => ?_)
        clear hK K
        refine norm_ (a' := ?_) ?_ ?_
        rotate_left
        · show Act.put _ (some 7) _ = _
          simp only [Act.put, List.setIfInBounds_toArray, List.set_cons_zero, List.set_cons_succ, i64_w, i32_w]
          rfl
        exact norm_ (by simp only [putAll, Act.put, List.setIfInBounds_toArray, List.set_cons_zero, List.set_cons_succ]) (hCont (gb286, gb287) _ ⟨hHeld, (by (with_reducible repeat (first | refine blk_drewN ?_ _ | refine blk_drew ?_ | refine blk_alloc ?_ _)); exact BK283.out), (by (with_reducible repeat (first | refine blk_drewN ?_ _ | refine blk_drew ?_ | refine blk_alloc ?_ _)); exact BK284.out), (by (with_reducible repeat (first | refine blk_drewN ?_ _ | refine blk_drew ?_ | refine blk_alloc ?_ _)); exact BK286.out), (by (with_reducible repeat (first | refine blk_drewN ?_ _ | refine blk_drew ?_ | refine blk_alloc ?_ _)); exact BK287.out), GW286.out, GE286.out, NB283_286.out, NB286_283.out, NB284_286.out, NB286_284.out, NB287_286.out, NB286_287.out, GW287.out, GE287.out, NB283_287.out, NB287_283.out, NB284_287.out, NB287_284.out, (by repeat (first | (with_reducible first | exact HB.out | apply below_alloc | apply pw_below_drewN | apply below_drew1 | refine below_set ?_ GE283.out | refine below_set ?_ GE284.out | refine below_set ?_ GE287.out | refine below_set ?_ GE286.out) | exact HB.out))⟩)
    rintro ⟨gb286, gb287⟩ w14 ⟨hS_, h0_, h1_, h2_, h3_, h4_, h5_, h6_, h7_, h8_, h9_, h10_, h11_, h12_, h13_, h14_, h15_, h16_, h17_, h18_⟩
    have n0_ : Aside0 (w14.heap[gb283]? = some (.cells #[.int .i64 a0_0, .int .i64 a0_1] 35 (0, 0))) := ⟨h0_⟩
    have n1_ : Aside0 (w14.heap[gb284]? = some (.cells #[.int .u8 a1_0, .int .u8 a1_1, .int .u8 a1_2, .int .u8 a1_3, .int .u8 a1_4, .int .u8 a1_5] 37 (0, 0))) := ⟨h1_⟩
    have n2_ : Aside0 (w14.heap[gb286]? = some (.cells #[.int .u8 0, .int .u8 0, .int .u8 0] 36 (0, 0))) := ⟨h2_⟩
    have n3_ : Aside0 (w14.heap[gb287]? = some (.cells #[.int .u8 0, .int .u8 0, .int .u8 0] 36 (0, 0))) := ⟨h3_⟩
    have n4_ : Aside0 (w.heap.size ≤ gb286) := ⟨h4_⟩
    have n5_ : Aside0 (w.heap.size ≤ gb286) := ⟨h5_⟩
    have n6_ : Aside0 (gb283 ≠ gb286) := ⟨h6_⟩
    have n7_ : Aside0 (gb286 ≠ gb283) := ⟨h7_⟩
    have n8_ : Aside0 (gb284 ≠ gb286) := ⟨h8_⟩
    have n9_ : Aside0 (gb286 ≠ gb284) := ⟨h9_⟩
    have n10_ : Aside0 (gb287 ≠ gb286) := ⟨h10_⟩
    have n11_ : Aside0 (gb286 ≠ gb287) := ⟨h11_⟩
    have n12_ : Aside0 (w.heap.size ≤ gb287) := ⟨h12_⟩
    have n13_ : Aside0 (w.heap.size ≤ gb287) := ⟨h13_⟩
    have n14_ : Aside0 (gb283 ≠ gb287) := ⟨h14_⟩
    have n15_ : Aside0 (gb287 ≠ gb283) := ⟨h15_⟩
    have n16_ : Aside0 (gb284 ≠ gb287) := ⟨h16_⟩
    have n17_ : Aside0 (gb287 ≠ gb284) := ⟨h17_⟩
    have n18_ : Aside0 (Below w.heap.size w w14) := ⟨h18_⟩
    clear BK283
    clear BK284
    clear HB
    clear h0_ h1_ h2_ h3_ h4_ h5_ h6_ h7_ h8_ h9_ h10_ h11_ h12_ h13_ h14_ h15_ h16_ h17_ h18_
    have BK283 := n0_
    have BK284 := n1_
    have BK286 := n2_
    have BK287 := n3_
    have GW286 := n4_
    have GE286 := n5_
    have NB283_286 := n6_
    have NB286_283 := n7_
    have NB284_286 := n8_
    have NB286_284 := n9_
    have NB287_286 := n10_
    have NB286_287 := n11_
    have GW287 := n12_
    have GE287 := n13_
    have NB283_287 := n14_
    have NB287_283 := n15_
    have NB284_287 := n16_
    have NB287_284 := n17_
    have HB := n18_
    clear n0_ n1_ n2_ n3_ n4_ n5_ n6_ n7_ n8_ n9_ n10_ n11_ n12_ n13_ n14_ n15_ n16_ n17_ n18_
    have hHeld : w14.cell? ⟨gb283, 0, none⟩ = some (.int .i64 a0_0) ∧ w14.cell? ⟨gb283, 1, none⟩ = some (.int .i64 a0_1) ∧ w14.cell? ⟨gb284, 0, none⟩ = some (.int .u8 a1_0) ∧ w14.cell? ⟨gb284, 1, none⟩ = some (.int .u8 a1_1) ∧ w14.cell? ⟨gb284, 2, none⟩ = some (.int .u8 a1_2) ∧ w14.cell? ⟨gb284, 3, none⟩ = some (.int .u8 a1_3) ∧ w14.cell? ⟨gb284, 4, none⟩ = some (.int .u8 a1_4) ∧ w14.cell? ⟨gb284, 5, none⟩ = some (.int .u8 a1_5) := hS_
    refine norm_ (a' := ?_) ?_ ?_
    rotate_left
    · simp only [putAll, Act.put, List.setIfInBounds_toArray, List.set_cons_zero, List.set_cons_succ]
      rfl
    refine pure_ (i := 10) (N := some 5) (v := ?_) (a' := ?_) #[true, true, true, true, true, true, true, true, true, true, true, false, false, false] rfl rfl (any_of HT_.out (by kernel_rfl)) (fun _ _ _ h => h) (Or.inl ⟨by rfl, ?_⟩) ?_ ?_
    rotate_left
    · intro w'
      go_simp
      with_reducible rfl
    rotate_left
    · simp only [Act.put, List.setIfInBounds_toArray, List.set_cons_zero, List.set_cons_succ, i64_w, i32_w]
      rfl
    refine pure_ (i := 11) (N := some 6) (v := ?_) (a' := ?_) #[true, true, true, true, true, true, true, true, true, true, true, true, false, false] rfl rfl (any_of HT_.out (by kernel_rfl)) (fun _ _ _ h => h) (Or.inl ⟨by rfl, ?_⟩) ?_ ?_
    rotate_left
    · intro w'
      go_simp
      with_reducible rfl
    rotate_left
    · simp only [Act.put, List.setIfInBounds_toArray, List.set_cons_zero, List.set_cons_succ, i64_w, i32_w]
      rfl
    refine one_ (i := 12) (N := none) #[true, true, true, true, true, true, true, true, true, true, true, true, true, false] rfl rfl (one_of HT_.out (by kernel_rfl)) (by decide) (fun K hK => ?_)
    have hs15 : w14.cell? ⟨gb286, 0, none⟩ = some (.int .u8 0) := (blk_cell BK286.out 0).trans rfl
    have hfs15 := blk_frozen BK286.out 0
    have hns15_0 := NB283_286.out
    have hns15_1 := NB284_286.out
    have hns15_3 := NB287_286.out
    have hms15_0 := NB286_283.out
    have hms15_1 := NB286_284.out
    have hms15_3 := NB286_287.out
    have hs16 : w14.cell? ⟨gb286, 1, none⟩ = some (.int .u8 0) := (blk_cell BK286.out 1).trans rfl
    have hfs16 := blk_frozen BK286.out 1
    have hns16_0 := NB283_286.out
    have hns16_1 := NB284_286.out
    have hns16_3 := NB287_286.out
    have hms16_0 := NB286_283.out
    have hms16_1 := NB286_284.out
    have hms16_3 := NB286_287.out
    have hs17 : w14.cell? ⟨gb286, 2, none⟩ = some (.int .u8 0) := (blk_cell BK286.out 2).trans rfl
    have hfs17 := blk_frozen BK286.out 2
    have hns17_0 := NB283_286.out
    have hns17_1 := NB284_286.out
    have hns17_3 := NB287_286.out
    have hms17_0 := NB286_283.out
    have hms17_1 := NB286_284.out
    have hms17_3 := NB286_287.out
    refine skip_ (w1 := ?_) (by rfl) rfl ?_ ?_
    rotate_left
    · go_simp
      rfl
    refine hK.out _ _ ⟨((cell_far (p := ⟨gb286, _, none⟩) NB283_286.out _).trans (((cell_far (p := ⟨gb286, _, none⟩) NB283_286.out _).trans (((cell_far (p := ⟨gb286, _, none⟩) NB283_286.out _).trans (hHeld.1)))))), ((cell_far (p := ⟨gb286, _, none⟩) NB283_286.out _).trans (((cell_far (p := ⟨gb286, _, none⟩) NB283_286.out _).trans (((cell_far (p := ⟨gb286, _, none⟩) NB283_286.out _).trans (hHeld.2.1)))))), ((cell_far (p := ⟨gb286, _, none⟩) NB284_286.out _).trans (((cell_far (p := ⟨gb286, _, none⟩) NB284_286.out _).trans (((cell_far (p := ⟨gb286, _, none⟩) NB284_286.out _).trans (hHeld.2.2.1)))))), ((cell_far (p := ⟨gb286, _, none⟩) NB284_286.out _).trans (((cell_far (p := ⟨gb286, _, none⟩) NB284_286.out _).trans (((cell_far (p := ⟨gb286, _, none⟩) NB284_286.out _).trans (hHeld.2.2.2.1)))))), ((cell_far (p := ⟨gb286, _, none⟩) NB284_286.out _).trans (((cell_far (p := ⟨gb286, _, none⟩) NB284_286.out _).trans (((cell_far (p := ⟨gb286, _, none⟩) NB284_286.out _).trans (hHeld.2.2.2.2.1)))))), ((cell_far (p := ⟨gb286, _, none⟩) NB284_286.out _).trans (((cell_far (p := ⟨gb286, _, none⟩) NB284_286.out _).trans (((cell_far (p := ⟨gb286, _, none⟩) NB284_286.out _).trans (hHeld.2.2.2.2.2.1)))))), ((cell_far (p := ⟨gb286, _, none⟩) NB284_286.out _).trans (((cell_far (p := ⟨gb286, _, none⟩) NB284_286.out _).trans (((cell_far (p := ⟨gb286, _, none⟩) NB284_286.out _).trans (hHeld.2.2.2.2.2.2.1)))))), ((cell_far (p := ⟨gb286, _, none⟩) NB284_286.out _).trans (((cell_far (p := ⟨gb286, _, none⟩) NB284_286.out _).trans (((cell_far (p := ⟨gb286, _, none⟩) NB284_286.out _).trans (hHeld.2.2.2.2.2.2.2))))))⟩ (fun hHeld => ?_)
    clear hK K
    refine one_ (i := 13) (N := none) #[true, true, true, true, true, true, true, true, true, true, true, true, true, true] rfl rfl (one_of HT_.out (by kernel_rfl)) (by decide) (fun K hK => ?_)
    have hs18 : w14.cell? ⟨gb287, 0, none⟩ = some (.int .u8 0) := (blk_cell BK287.out 0).trans rfl
    have hfs18 := blk_frozen BK287.out 0
    have hns18_0 := NB283_287.out
    have hns18_1 := NB284_287.out
    have hns18_2 := NB286_287.out
    have hms18_0 := NB287_283.out
    have hms18_1 := NB287_284.out
    have hms18_2 := NB287_286.out
    have hs19 : w14.cell? ⟨gb287, 1, none⟩ = some (.int .u8 0) := (blk_cell BK287.out 1).trans rfl
    have hfs19 := blk_frozen BK287.out 1
    have hns19_0 := NB283_287.out
    have hns19_1 := NB284_287.out
    have hns19_2 := NB286_287.out
    have hms19_0 := NB287_283.out
    have hms19_1 := NB287_284.out
    have hms19_2 := NB287_286.out
    have hs20 : w14.cell? ⟨gb287, 2, none⟩ = some (.int .u8 0) := (blk_cell BK287.out 2).trans rfl
    have hfs20 := blk_frozen BK287.out 2
    have hns20_0 := NB283_287.out
    have hns20_1 := NB284_287.out
    have hns20_2 := NB286_287.out
    have hms20_0 := NB287_283.out
    have hms20_1 := NB287_284.out
    have hms20_2 := NB287_286.out
    refine skip_ (w1 := ?_) (by rfl) rfl ?_ ?_
    rotate_left
    · go_simp
      rfl
    refine hK.out _ _ ⟨((cell_far (p := ⟨gb287, _, none⟩) NB283_287.out _).trans (((cell_far (p := ⟨gb287, _, none⟩) NB283_287.out _).trans (((cell_far (p := ⟨gb287, _, none⟩) NB283_287.out _).trans (hHeld.1)))))), ((cell_far (p := ⟨gb287, _, none⟩) NB283_287.out _).trans (((cell_far (p := ⟨gb287, _, none⟩) NB283_287.out _).trans (((cell_far (p := ⟨gb287, _, none⟩) NB283_287.out _).trans (hHeld.2.1)))))), ((cell_far (p := ⟨gb287, _, none⟩) NB284_287.out _).trans (((cell_far (p := ⟨gb287, _, none⟩) NB284_287.out _).trans (((cell_far (p := ⟨gb287, _, none⟩) NB284_287.out _).trans (hHeld.2.2.1)))))), ((cell_far (p := ⟨gb287, _, none⟩) NB284_287.out _).trans (((cell_far (p := ⟨gb287, _, none⟩) NB284_287.out _).trans (((cell_far (p := ⟨gb287, _, none⟩) NB284_287.out _).trans (hHeld.2.2.2.1)))))), ((cell_far (p := ⟨gb287, _, none⟩) NB284_287.out _).trans (((cell_far (p := ⟨gb287, _, none⟩) NB284_287.out _).trans (((cell_far (p := ⟨gb287, _, none⟩) NB284_287.out _).trans (hHeld.2.2.2.2.1)))))), ((cell_far (p := ⟨gb287, _, none⟩) NB284_287.out _).trans (((cell_far (p := ⟨gb287, _, none⟩) NB284_287.out _).trans (((cell_far (p := ⟨gb287, _, none⟩) NB284_287.out _).trans (hHeld.2.2.2.2.2.1)))))), ((cell_far (p := ⟨gb287, _, none⟩) NB284_287.out _).trans (((cell_far (p := ⟨gb287, _, none⟩) NB284_287.out _).trans (((cell_far (p := ⟨gb287, _, none⟩) NB284_287.out _).trans (hHeld.2.2.2.2.2.2.1)))))), ((cell_far (p := ⟨gb287, _, none⟩) NB284_287.out _).trans (((cell_far (p := ⟨gb287, _, none⟩) NB284_287.out _).trans (((cell_far (p := ⟨gb287, _, none⟩) NB284_287.out _).trans (hHeld.2.2.2.2.2.2.2))))))⟩ (fun hHeld => ?_)
    clear hK K
    refine done_ (done_of HT_.out (by kernel_rfl)) ?_
    try go_wp2_with (first | ((with_reducible refine gate_dst (N := 9) rfl ?_); refine box_event ?hg (N := 9) ?hd (cs := #[.int .i64 0, .int .i64 0, .string (⟨#[]⟩ : ByteArray), .slice none 0 0, .slice none 0 0]) (t := 30) ?hr ?_; (case hd => rfl); (case hg => rfl); (case hr => first | (go_simp; done) | (go_simp; rfl)); intro gb288 hg w21 hbox hb; have n0_ := Aside0.mk (blk_below (g := gb283) (o := .cells #[.int .i64 a0_0, .int .i64 a0_1] 35 (0, 0)) (by (with_reducible repeat (first | refine blk_drewN ?_ _ | refine blk_drew ?_ | refine blk_alloc ?_ _)); refine blk_far ?_ NB283_287.out _; (with_reducible repeat (first | refine blk_drewN ?_ _ | refine blk_drew ?_ | refine blk_alloc ?_ _)); refine blk_far ?_ NB283_287.out _; (with_reducible repeat (first | refine blk_drewN ?_ _ | refine blk_drew ?_ | refine blk_alloc ?_ _)); refine blk_far ?_ NB283_287.out _; (with_reducible repeat (first | refine blk_drewN ?_ _ | refine blk_drew ?_ | refine blk_alloc ?_ _)); refine blk_far ?_ NB283_286.out _; (with_reducible repeat (first | refine blk_drewN ?_ _ | refine blk_drew ?_ | refine blk_alloc ?_ _)); refine blk_far ?_ NB283_286.out _; (with_reducible repeat (first | refine blk_drewN ?_ _ | refine blk_drew ?_ | refine blk_alloc ?_ _)); refine blk_far ?_ NB283_286.out _; (with_reducible repeat (first | refine blk_drewN ?_ _ | refine blk_drew ?_ | refine blk_alloc ?_ _)); exact BK283.out) hb); have n1_ := Aside0.mk (blk_below (g := gb284) (o := .cells #[.int .u8 a1_0, .int .u8 a1_1, .int .u8 a1_2, .int .u8 a1_3, .int .u8 a1_4, .int .u8 a1_5] 37 (0, 0)) (by (with_reducible repeat (first | refine blk_drewN ?_ _ | refine blk_drew ?_ | refine blk_alloc ?_ _)); refine blk_far ?_ NB284_287.out _; (with_reducible repeat (first | refine blk_drewN ?_ _ | refine blk_drew ?_ | refine blk_alloc ?_ _)); refine blk_far ?_ NB284_287.out _; (with_reducible repeat (first | refine blk_drewN ?_ _ | refine blk_drew ?_ | refine blk_alloc ?_ _)); refine blk_far ?_ NB284_287.out _; (with_reducible repeat (first | refine blk_drewN ?_ _ | refine blk_drew ?_ | refine blk_alloc ?_ _)); refine blk_far ?_ NB284_286.out _; (with_reducible repeat (first | refine blk_drewN ?_ _ | refine blk_drew ?_ | refine blk_alloc ?_ _)); refine blk_far ?_ NB284_286.out _; (with_reducible repeat (first | refine blk_drewN ?_ _ | refine blk_drew ?_ | refine blk_alloc ?_ _)); refine blk_far ?_ NB284_286.out _; (with_reducible repeat (first | refine blk_drewN ?_ _ | refine blk_drew ?_ | refine blk_alloc ?_ _)); exact BK284.out) hb); have n2_ := Aside0.mk (blk_below (g := gb286) (o := .cells #[.int .u8 a1_0, .int .u8 a1_1, .int .u8 a1_2] 36 (0, 0)) (by (with_reducible repeat (first | refine blk_drewN ?_ _ | refine blk_drew ?_ | refine blk_alloc ?_ _)); refine blk_far ?_ NB286_287.out _; (with_reducible repeat (first | refine blk_drewN ?_ _ | refine blk_drew ?_ | refine blk_alloc ?_ _)); refine blk_far ?_ NB286_287.out _; (with_reducible repeat (first | refine blk_drewN ?_ _ | refine blk_drew ?_ | refine blk_alloc ?_ _)); refine blk_far ?_ NB286_287.out _; (with_reducible repeat (first | refine blk_drewN ?_ _ | refine blk_drew ?_ | refine blk_alloc ?_ _)); refine blk_put (cs := #[.int .u8 a1_0, .int .u8 a1_1, .int .u8 0]) ?_ 2 _ rfl; (with_reducible repeat (first | refine blk_drewN ?_ _ | refine blk_drew ?_ | refine blk_alloc ?_ _)); refine blk_put (cs := #[.int .u8 a1_0, .int .u8 0, .int .u8 0]) ?_ 1 _ rfl; (with_reducible repeat (first | refine blk_drewN ?_ _ | refine blk_drew ?_ | refine blk_alloc ?_ _)); refine blk_put (cs := #[.int .u8 0, .int .u8 0, .int .u8 0]) ?_ 0 _ rfl; (with_reducible repeat (first | refine blk_drewN ?_ _ | refine blk_drew ?_ | refine blk_alloc ?_ _)); exact BK286.out) hb); have n3_ := Aside0.mk (blk_below (g := gb287) (o := .cells #[.int .u8 a1_3, .int .u8 a1_4, .int .u8 a1_5] 36 (0, 0)) (by (with_reducible repeat (first | refine blk_drewN ?_ _ | refine blk_drew ?_ | refine blk_alloc ?_ _)); refine blk_put (cs := #[.int .u8 a1_3, .int .u8 a1_4, .int .u8 0]) ?_ 2 _ rfl; (with_reducible repeat (first | refine blk_drewN ?_ _ | refine blk_drew ?_ | refine blk_alloc ?_ _)); refine blk_put (cs := #[.int .u8 a1_3, .int .u8 0, .int .u8 0]) ?_ 1 _ rfl; (with_reducible repeat (first | refine blk_drewN ?_ _ | refine blk_drew ?_ | refine blk_alloc ?_ _)); refine blk_put (cs := #[.int .u8 0, .int .u8 0, .int .u8 0]) ?_ 0 _ rfl; (with_reducible repeat (first | refine blk_drewN ?_ _ | refine blk_drew ?_ | refine blk_alloc ?_ _)); refine blk_far ?_ NB287_286.out _; (with_reducible repeat (first | refine blk_drewN ?_ _ | refine blk_drew ?_ | refine blk_alloc ?_ _)); refine blk_far ?_ NB287_286.out _; (with_reducible repeat (first | refine blk_drewN ?_ _ | refine blk_drew ?_ | refine blk_alloc ?_ _)); refine blk_far ?_ NB287_286.out _; (with_reducible repeat (first | refine blk_drewN ?_ _ | refine blk_drew ?_ | refine blk_alloc ?_ _)); exact BK287.out) hb); have n4_ := Aside0.mk (below_step (by repeat (first | (with_reducible first | exact HB.out | apply below_alloc | apply pw_below_drewN | apply below_drew1 | refine below_set ?_ GE283.out | refine below_set ?_ GE284.out | refine below_set ?_ GE286.out | refine below_set ?_ GE287.out) | exact HB.out)) hb); have n5_ := Aside0.mk (hbox); have n6_ := Aside0.mk ((by rw [hg]; exact (below_size (by repeat (first | (with_reducible first | exact HB.out | apply below_alloc | apply pw_below_drewN | apply below_drew1 | refine below_set ?_ GE283.out | refine below_set ?_ GE284.out | refine below_set ?_ GE286.out | refine below_set ?_ GE287.out) | exact HB.out))) : w.heap.size ≤ gb288)); have n7_ := Aside0.mk ((by rw [hg]; exact (below_size (by repeat (first | (with_reducible first | exact HB.out | apply below_alloc | apply pw_below_drewN | apply below_drew1 | refine below_set ?_ GE283.out | refine below_set ?_ GE284.out | refine below_set ?_ GE286.out | refine below_set ?_ GE287.out) | exact HB.out))) : w.heap.size ≤ gb288)); have n8_ := Aside0.mk ((by rw [hg]; exact Nat.ne_of_lt (blk_lt (g := gb283) (o := .cells #[.int .i64 a0_0, .int .i64 a0_1] 35 (0, 0)) (by (with_reducible repeat (first | refine blk_drewN ?_ _ | refine blk_drew ?_ | refine blk_alloc ?_ _)); refine blk_far ?_ NB283_287.out _; (with_reducible repeat (first | refine blk_drewN ?_ _ | refine blk_drew ?_ | refine blk_alloc ?_ _)); refine blk_far ?_ NB283_287.out _; (with_reducible repeat (first | refine blk_drewN ?_ _ | refine blk_drew ?_ | refine blk_alloc ?_ _)); refine blk_far ?_ NB283_287.out _; (with_reducible repeat (first | refine blk_drewN ?_ _ | refine blk_drew ?_ | refine blk_alloc ?_ _)); refine blk_far ?_ NB283_286.out _; (with_reducible repeat (first | refine blk_drewN ?_ _ | refine blk_drew ?_ | refine blk_alloc ?_ _)); refine blk_far ?_ NB283_286.out _; (with_reducible repeat (first | refine blk_drewN ?_ _ | refine blk_drew ?_ | refine blk_alloc ?_ _)); refine blk_far ?_ NB283_286.out _; (with_reducible repeat (first | refine blk_drewN ?_ _ | refine blk_drew ?_ | refine blk_alloc ?_ _)); exact BK283.out)) : gb283 ≠ gb288)); have n9_ := Aside0.mk ((by rw [hg]; exact Nat.ne_of_gt (blk_lt (g := gb283) (o := .cells #[.int .i64 a0_0, .int .i64 a0_1] 35 (0, 0)) (by (with_reducible repeat (first | refine blk_drewN ?_ _ | refine blk_drew ?_ | refine blk_alloc ?_ _)); refine blk_far ?_ NB283_287.out _; (with_reducible repeat (first | refine blk_drewN ?_ _ | refine blk_drew ?_ | refine blk_alloc ?_ _)); refine blk_far ?_ NB283_287.out _; (with_reducible repeat (first | refine blk_drewN ?_ _ | refine blk_drew ?_ | refine blk_alloc ?_ _)); refine blk_far ?_ NB283_287.out _; (with_reducible repeat (first | refine blk_drewN ?_ _ | refine blk_drew ?_ | refine blk_alloc ?_ _)); refine blk_far ?_ NB283_286.out _; (with_reducible repeat (first | refine blk_drewN ?_ _ | refine blk_drew ?_ | refine blk_alloc ?_ _)); refine blk_far ?_ NB283_286.out _; (with_reducible repeat (first | refine blk_drewN ?_ _ | refine blk_drew ?_ | refine blk_alloc ?_ _)); refine blk_far ?_ NB283_286.out _; (with_reducible repeat (first | refine blk_drewN ?_ _ | refine blk_drew ?_ | refine blk_alloc ?_ _)); exact BK283.out)) : gb288 ≠ gb283)); have n10_ := Aside0.mk ((by rw [hg]; exact Nat.ne_of_lt (blk_lt (g := gb284) (o := .cells #[.int .u8 a1_0, .int .u8 a1_1, .int .u8 a1_2, .int .u8 a1_3, .int .u8 a1_4, .int .u8 a1_5] 37 (0, 0)) (by (with_reducible repeat (first | refine blk_drewN ?_ _ | refine blk_drew ?_ | refine blk_alloc ?_ _)); refine blk_far ?_ NB284_287.out _; (with_reducible repeat (first | refine blk_drewN ?_ _ | refine blk_drew ?_ | refine blk_alloc ?_ _)); refine blk_far ?_ NB284_287.out _; (with_reducible repeat (first | refine blk_drewN ?_ _ | refine blk_drew ?_ | refine blk_alloc ?_ _)); refine blk_far ?_ NB284_287.out _; (with_reducible repeat (first | refine blk_drewN ?_ _ | refine blk_drew ?_ | refine blk_alloc ?_ _)); refine blk_far ?_ NB284_286.out _; (with_reducible repeat (first | refine blk_drewN ?_ _ | refine blk_drew ?_ | refine blk_alloc ?_ _)); refine blk_far ?_ NB284_286.out _; (with_reducible repeat (first | refine blk_drewN ?_ _ | refine blk_drew ?_ | refine blk_alloc ?_ _)); refine blk_far ?_ NB284_286.out _; (with_reducible repeat (first | refine blk_drewN ?_ _ | refine blk_drew ?_ | refine blk_alloc ?_ _)); exact BK284.out)) : gb284 ≠ gb288)); have n11_ := Aside0.mk ((by rw [hg]; exact Nat.ne_of_gt (blk_lt (g := gb284) (o := .cells #[.int .u8 a1_0, .int .u8 a1_1, .int .u8 a1_2, .int .u8 a1_3, .int .u8 a1_4, .int .u8 a1_5] 37 (0, 0)) (by (with_reducible repeat (first | refine blk_drewN ?_ _ | refine blk_drew ?_ | refine blk_alloc ?_ _)); refine blk_far ?_ NB284_287.out _; (with_reducible repeat (first | refine blk_drewN ?_ _ | refine blk_drew ?_ | refine blk_alloc ?_ _)); refine blk_far ?_ NB284_287.out _; (with_reducible repeat (first | refine blk_drewN ?_ _ | refine blk_drew ?_ | refine blk_alloc ?_ _)); refine blk_far ?_ NB284_287.out _; (with_reducible repeat (first | refine blk_drewN ?_ _ | refine blk_drew ?_ | refine blk_alloc ?_ _)); refine blk_far ?_ NB284_286.out _; (with_reducible repeat (first | refine blk_drewN ?_ _ | refine blk_drew ?_ | refine blk_alloc ?_ _)); refine blk_far ?_ NB284_286.out _; (with_reducible repeat (first | refine blk_drewN ?_ _ | refine blk_drew ?_ | refine blk_alloc ?_ _)); refine blk_far ?_ NB284_286.out _; (with_reducible repeat (first | refine blk_drewN ?_ _ | refine blk_drew ?_ | refine blk_alloc ?_ _)); exact BK284.out)) : gb288 ≠ gb284)); have n12_ := Aside0.mk ((by rw [hg]; exact Nat.ne_of_lt (blk_lt (g := gb286) (o := .cells #[.int .u8 a1_0, .int .u8 a1_1, .int .u8 a1_2] 36 (0, 0)) (by (with_reducible repeat (first | refine blk_drewN ?_ _ | refine blk_drew ?_ | refine blk_alloc ?_ _)); refine blk_far ?_ NB286_287.out _; (with_reducible repeat (first | refine blk_drewN ?_ _ | refine blk_drew ?_ | refine blk_alloc ?_ _)); refine blk_far ?_ NB286_287.out _; (with_reducible repeat (first | refine blk_drewN ?_ _ | refine blk_drew ?_ | refine blk_alloc ?_ _)); refine blk_far ?_ NB286_287.out _; (with_reducible repeat (first | refine blk_drewN ?_ _ | refine blk_drew ?_ | refine blk_alloc ?_ _)); refine blk_put (cs := #[.int .u8 a1_0, .int .u8 a1_1, .int .u8 0]) ?_ 2 _ rfl; (with_reducible repeat (first | refine blk_drewN ?_ _ | refine blk_drew ?_ | refine blk_alloc ?_ _)); refine blk_put (cs := #[.int .u8 a1_0, .int .u8 0, .int .u8 0]) ?_ 1 _ rfl; (with_reducible repeat (first | refine blk_drewN ?_ _ | refine blk_drew ?_ | refine blk_alloc ?_ _)); refine blk_put (cs := #[.int .u8 0, .int .u8 0, .int .u8 0]) ?_ 0 _ rfl; (with_reducible repeat (first | refine blk_drewN ?_ _ | refine blk_drew ?_ | refine blk_alloc ?_ _)); exact BK286.out)) : gb286 ≠ gb288)); have n13_ := Aside0.mk ((by rw [hg]; exact Nat.ne_of_gt (blk_lt (g := gb286) (o := .cells #[.int .u8 a1_0, .int .u8 a1_1, .int .u8 a1_2] 36 (0, 0)) (by (with_reducible repeat (first | refine blk_drewN ?_ _ | refine blk_drew ?_ | refine blk_alloc ?_ _)); refine blk_far ?_ NB286_287.out _; (with_reducible repeat (first | refine blk_drewN ?_ _ | refine blk_drew ?_ | refine blk_alloc ?_ _)); refine blk_far ?_ NB286_287.out _; (with_reducible repeat (first | refine blk_drewN ?_ _ | refine blk_drew ?_ | refine blk_alloc ?_ _)); refine blk_far ?_ NB286_287.out _; (with_reducible repeat (first | refine blk_drewN ?_ _ | refine blk_drew ?_ | refine blk_alloc ?_ _)); refine blk_put (cs := #[.int .u8 a1_0, .int .u8 a1_1, .int .u8 0]) ?_ 2 _ rfl; (with_reducible repeat (first | refine blk_drewN ?_ _ | refine blk_drew ?_ | refine blk_alloc ?_ _)); refine blk_put (cs := #[.int .u8 a1_0, .int .u8 0, .int .u8 0]) ?_ 1 _ rfl; (with_reducible repeat (first | refine blk_drewN ?_ _ | refine blk_drew ?_ | refine blk_alloc ?_ _)); refine blk_put (cs := #[.int .u8 0, .int .u8 0, .int .u8 0]) ?_ 0 _ rfl; (with_reducible repeat (first | refine blk_drewN ?_ _ | refine blk_drew ?_ | refine blk_alloc ?_ _)); exact BK286.out)) : gb288 ≠ gb286)); have n14_ := Aside0.mk ((by rw [hg]; exact Nat.ne_of_lt (blk_lt (g := gb287) (o := .cells #[.int .u8 a1_3, .int .u8 a1_4, .int .u8 a1_5] 36 (0, 0)) (by (with_reducible repeat (first | refine blk_drewN ?_ _ | refine blk_drew ?_ | refine blk_alloc ?_ _)); refine blk_put (cs := #[.int .u8 a1_3, .int .u8 a1_4, .int .u8 0]) ?_ 2 _ rfl; (with_reducible repeat (first | refine blk_drewN ?_ _ | refine blk_drew ?_ | refine blk_alloc ?_ _)); refine blk_put (cs := #[.int .u8 a1_3, .int .u8 0, .int .u8 0]) ?_ 1 _ rfl; (with_reducible repeat (first | refine blk_drewN ?_ _ | refine blk_drew ?_ | refine blk_alloc ?_ _)); refine blk_put (cs := #[.int .u8 0, .int .u8 0, .int .u8 0]) ?_ 0 _ rfl; (with_reducible repeat (first | refine blk_drewN ?_ _ | refine blk_drew ?_ | refine blk_alloc ?_ _)); refine blk_far ?_ NB287_286.out _; (with_reducible repeat (first | refine blk_drewN ?_ _ | refine blk_drew ?_ | refine blk_alloc ?_ _)); refine blk_far ?_ NB287_286.out _; (with_reducible repeat (first | refine blk_drewN ?_ _ | refine blk_drew ?_ | refine blk_alloc ?_ _)); refine blk_far ?_ NB287_286.out _; (with_reducible repeat (first | refine blk_drewN ?_ _ | refine blk_drew ?_ | refine blk_alloc ?_ _)); exact BK287.out)) : gb287 ≠ gb288)); have n15_ := Aside0.mk ((by rw [hg]; exact Nat.ne_of_gt (blk_lt (g := gb287) (o := .cells #[.int .u8 a1_3, .int .u8 a1_4, .int .u8 a1_5] 36 (0, 0)) (by (with_reducible repeat (first | refine blk_drewN ?_ _ | refine blk_drew ?_ | refine blk_alloc ?_ _)); refine blk_put (cs := #[.int .u8 a1_3, .int .u8 a1_4, .int .u8 0]) ?_ 2 _ rfl; (with_reducible repeat (first | refine blk_drewN ?_ _ | refine blk_drew ?_ | refine blk_alloc ?_ _)); refine blk_put (cs := #[.int .u8 a1_3, .int .u8 0, .int .u8 0]) ?_ 1 _ rfl; (with_reducible repeat (first | refine blk_drewN ?_ _ | refine blk_drew ?_ | refine blk_alloc ?_ _)); refine blk_put (cs := #[.int .u8 0, .int .u8 0, .int .u8 0]) ?_ 0 _ rfl; (with_reducible repeat (first | refine blk_drewN ?_ _ | refine blk_drew ?_ | refine blk_alloc ?_ _)); refine blk_far ?_ NB287_286.out _; (with_reducible repeat (first | refine blk_drewN ?_ _ | refine blk_drew ?_ | refine blk_alloc ?_ _)); refine blk_far ?_ NB287_286.out _; (with_reducible repeat (first | refine blk_drewN ?_ _ | refine blk_drew ?_ | refine blk_alloc ?_ _)); refine blk_far ?_ NB287_286.out _; (with_reducible repeat (first | refine blk_drewN ?_ _ | refine blk_drew ?_ | refine blk_alloc ?_ _)); exact BK287.out)) : gb288 ≠ gb287)); clear BK283; clear BK284; clear BK286; clear BK287; clear HB; have BK283 := n0_; have BK284 := n1_; have BK286 := n2_; have BK287 := n3_; have HB := n4_; have BK288 := n5_; have GW288 := n6_; have GE288 := n7_; have NB283_288 := n8_; have NB288_283 := n9_; have NB284_288 := n10_; have NB288_284 := n11_; have NB286_288 := n12_; have NB288_286 := n13_; have NB287_288 := n14_; have NB288_287 := n15_; clear n0_ n1_ n2_ n3_ n4_ n5_ n6_ n7_ n8_ n9_ n10_ n11_ n12_ n13_ n14_ n15_; clear hb hbox hg) | ((with_reducible refine gate_dst (N := 10) rfl ?_); refine box_event ?hg (N := 10) ?hd (cs := #[.int .i64 0, .int .i64 0, .string (⟨#[]⟩ : ByteArray), .slice none 0 0, .slice none 0 0]) (t := 30) ?hr ?_; (case hd => rfl); (case hg => rfl); (case hr => first | (go_simp; done) | (go_simp; rfl)); intro gb289 hg w22 hbox hb; have n0_ := Aside0.mk (blk_below (g := gb283) (o := .cells #[.int .i64 a0_0, .int .i64 a0_1] 35 (0, 0)) (by (with_reducible repeat (first | refine blk_drewN ?_ _ | refine blk_drew ?_ | refine blk_alloc ?_ _)); exact BK283.out) hb); have n1_ := Aside0.mk (blk_below (g := gb284) (o := .cells #[.int .u8 a1_0, .int .u8 a1_1, .int .u8 a1_2, .int .u8 a1_3, .int .u8 a1_4, .int .u8 a1_5] 37 (0, 0)) (by (with_reducible repeat (first | refine blk_drewN ?_ _ | refine blk_drew ?_ | refine blk_alloc ?_ _)); exact BK284.out) hb); have n2_ := Aside0.mk (blk_below (g := gb286) (o := .cells #[.int .u8 a1_0, .int .u8 a1_1, .int .u8 a1_2] 36 (0, 0)) (by (with_reducible repeat (first | refine blk_drewN ?_ _ | refine blk_drew ?_ | refine blk_alloc ?_ _)); exact BK286.out) hb); have n3_ := Aside0.mk (blk_below (g := gb287) (o := .cells #[.int .u8 a1_3, .int .u8 a1_4, .int .u8 a1_5] 36 (0, 0)) (by (with_reducible repeat (first | refine blk_drewN ?_ _ | refine blk_drew ?_ | refine blk_alloc ?_ _)); exact BK287.out) hb); have n4_ := Aside0.mk (blk_below (g := gb288) (o := .cells #[.int .i64 0, .int .i64 0, .string (⟨#[]⟩ : ByteArray), .slice none 0 0, .slice none 0 0] 30 (0, 0)) (by (with_reducible repeat (first | refine blk_drewN ?_ _ | refine blk_drew ?_ | refine blk_alloc ?_ _)); exact BK288.out) hb); have n5_ := Aside0.mk (below_step (by repeat (first | (with_reducible first | exact HB.out | apply below_alloc | apply pw_below_drewN | apply below_drew1 | refine below_set ?_ GE283.out | refine below_set ?_ GE284.out | refine below_set ?_ GE286.out | refine below_set ?_ GE287.out | refine below_set ?_ GE288.out) | exact HB.out)) hb); have n6_ := Aside0.mk (hbox); have n7_ := Aside0.mk ((by rw [hg]; exact (below_size (by repeat (first | (with_reducible first | exact HB.out | apply below_alloc | apply pw_below_drewN | apply below_drew1 | refine below_set ?_ GE283.out | refine below_set ?_ GE284.out | refine below_set ?_ GE286.out | refine below_set ?_ GE287.out | refine below_set ?_ GE288.out) | exact HB.out))) : w.heap.size ≤ gb289)); have n8_ := Aside0.mk ((by rw [hg]; exact (below_size (by repeat (first | (with_reducible first | exact HB.out | apply below_alloc | apply pw_below_drewN | apply below_drew1 | refine below_set ?_ GE283.out | refine below_set ?_ GE284.out | refine below_set ?_ GE286.out | refine below_set ?_ GE287.out | refine below_set ?_ GE288.out) | exact HB.out))) : w.heap.size ≤ gb289)); have n9_ := Aside0.mk ((by rw [hg]; exact Nat.ne_of_lt (blk_lt (g := gb283) (o := .cells #[.int .i64 a0_0, .int .i64 a0_1] 35 (0, 0)) (by (with_reducible repeat (first | refine blk_drewN ?_ _ | refine blk_drew ?_ | refine blk_alloc ?_ _)); exact BK283.out)) : gb283 ≠ gb289)); have n10_ := Aside0.mk ((by rw [hg]; exact Nat.ne_of_gt (blk_lt (g := gb283) (o := .cells #[.int .i64 a0_0, .int .i64 a0_1] 35 (0, 0)) (by (with_reducible repeat (first | refine blk_drewN ?_ _ | refine blk_drew ?_ | refine blk_alloc ?_ _)); exact BK283.out)) : gb289 ≠ gb283)); have n11_ := Aside0.mk ((by rw [hg]; exact Nat.ne_of_lt (blk_lt (g := gb284) (o := .cells #[.int .u8 a1_0, .int .u8 a1_1, .int .u8 a1_2, .int .u8 a1_3, .int .u8 a1_4, .int .u8 a1_5] 37 (0, 0)) (by (with_reducible repeat (first | refine blk_drewN ?_ _ | refine blk_drew ?_ | refine blk_alloc ?_ _)); exact BK284.out)) : gb284 ≠ gb289)); have n12_ := Aside0.mk ((by rw [hg]; exact Nat.ne_of_gt (blk_lt (g := gb284) (o := .cells #[.int .u8 a1_0, .int .u8 a1_1, .int .u8 a1_2, .int .u8 a1_3, .int .u8 a1_4, .int .u8 a1_5] 37 (0, 0)) (by (with_reducible repeat (first | refine blk_drewN ?_ _ | refine blk_drew ?_ | refine blk_alloc ?_ _)); exact BK284.out)) : gb289 ≠ gb284)); have n13_ := Aside0.mk ((by rw [hg]; exact Nat.ne_of_lt (blk_lt (g := gb286) (o := .cells #[.int .u8 a1_0, .int .u8 a1_1, .int .u8 a1_2] 36 (0, 0)) (by (with_reducible repeat (first | refine blk_drewN ?_ _ | refine blk_drew ?_ | refine blk_alloc ?_ _)); exact BK286.out)) : gb286 ≠ gb289)); have n14_ := Aside0.mk ((by rw [hg]; exact Nat.ne_of_gt (blk_lt (g := gb286) (o := .cells #[.int .u8 a1_0, .int .u8 a1_1, .int .u8 a1_2] 36 (0, 0)) (by (with_reducible repeat (first | refine blk_drewN ?_ _ | refine blk_drew ?_ | refine blk_alloc ?_ _)); exact BK286.out)) : gb289 ≠ gb286)); have n15_ := Aside0.mk ((by rw [hg]; exact Nat.ne_of_lt (blk_lt (g := gb287) (o := .cells #[.int .u8 a1_3, .int .u8 a1_4, .int .u8 a1_5] 36 (0, 0)) (by (with_reducible repeat (first | refine blk_drewN ?_ _ | refine blk_drew ?_ | refine blk_alloc ?_ _)); exact BK287.out)) : gb287 ≠ gb289)); have n16_ := Aside0.mk ((by rw [hg]; exact Nat.ne_of_gt (blk_lt (g := gb287) (o := .cells #[.int .u8 a1_3, .int .u8 a1_4, .int .u8 a1_5] 36 (0, 0)) (by (with_reducible repeat (first | refine blk_drewN ?_ _ | refine blk_drew ?_ | refine blk_alloc ?_ _)); exact BK287.out)) : gb289 ≠ gb287)); have n17_ := Aside0.mk ((by rw [hg]; exact Nat.ne_of_lt (blk_lt (g := gb288) (o := .cells #[.int .i64 0, .int .i64 0, .string (⟨#[]⟩ : ByteArray), .slice none 0 0, .slice none 0 0] 30 (0, 0)) (by (with_reducible repeat (first | refine blk_drewN ?_ _ | refine blk_drew ?_ | refine blk_alloc ?_ _)); exact BK288.out)) : gb288 ≠ gb289)); have n18_ := Aside0.mk ((by rw [hg]; exact Nat.ne_of_gt (blk_lt (g := gb288) (o := .cells #[.int .i64 0, .int .i64 0, .string (⟨#[]⟩ : ByteArray), .slice none 0 0, .slice none 0 0] 30 (0, 0)) (by (with_reducible repeat (first | refine blk_drewN ?_ _ | refine blk_drew ?_ | refine blk_alloc ?_ _)); exact BK288.out)) : gb289 ≠ gb288)); clear BK283; clear BK284; clear BK286; clear BK287; clear BK288; clear HB; have BK283 := n0_; have BK284 := n1_; have BK286 := n2_; have BK287 := n3_; have BK288 := n4_; have HB := n5_; have BK289 := n6_; have GW289 := n7_; have GE289 := n8_; have NB283_289 := n9_; have NB289_283 := n10_; have NB284_289 := n11_; have NB289_284 := n12_; have NB286_289 := n13_; have NB289_286 := n14_; have NB287_289 := n15_; have NB289_287 := n16_; have NB288_289 := n17_; have NB289_288 := n18_; clear n0_ n1_ n2_ n3_ n4_ n5_ n6_ n7_ n8_ n9_ n10_ n11_ n12_ n13_ n14_ n15_ n16_ n17_ n18_; clear hb hbox hg; have hnb23 := NB288_283.out; have hnc23 := NB283_288.out; have hnb24 := NB288_284.out; have hnc24 := NB284_288.out; have hnb25 := NB288_286.out; have hnc25 := NB286_288.out; have hnb26 := NB288_287.out; have hnc26 := NB287_288.out; have hnb27 := NB288_289.out; have hnc27 := NB289_288.out; have hcz28_0 : w22.cell? ⟨gb288, 0, none⟩ = some (.int .i64 0) := (blk_cell BK288.out 0).trans rfl; have hcz28_1 : w22.cell? ⟨gb288, 1, none⟩ = some (.int .i64 0) := (blk_cell BK288.out 1).trans rfl; have hcz28_2 : w22.cell? ⟨gb288, 2, none⟩ = some (.string (⟨#[]⟩ : ByteArray)) := (blk_cell BK288.out 2).trans rfl; have hcz28_3 : w22.cell? ⟨gb288, 3, none⟩ = some (.slice none 0 0) := (blk_cell BK288.out 3).trans rfl; have hcz28_4 : w22.cell? ⟨gb288, 4, none⟩ = some (.slice none 0 0) := (blk_cell BK288.out 4).trans rfl; have hfz28_0 := blk_frozen BK288.out 0; have hfz28_1 := blk_frozen BK288.out 1; have hfz28_2 := blk_frozen BK288.out 2; have hfz28_3 := blk_frozen BK288.out 3; have hfz28_4 := blk_frozen BK288.out 4; have hnb29 := NB289_283.out; have hnc29 := NB283_289.out; have hnb30 := NB289_284.out; have hnc30 := NB284_289.out; have hnb31 := NB289_286.out; have hnc31 := NB286_289.out; have hnb32 := NB289_287.out; have hnc32 := NB287_289.out; have hcz33_0 : w22.cell? ⟨gb289, 0, none⟩ = some (.int .i64 0) := (blk_cell BK289.out 0).trans rfl; have hcz33_1 : w22.cell? ⟨gb289, 1, none⟩ = some (.int .i64 0) := (blk_cell BK289.out 1).trans rfl; have hcz33_2 : w22.cell? ⟨gb289, 2, none⟩ = some (.string (⟨#[]⟩ : ByteArray)) := (blk_cell BK289.out 2).trans rfl; have hcz33_3 : w22.cell? ⟨gb289, 3, none⟩ = some (.slice none 0 0) := (blk_cell BK289.out 3).trans rfl; have hcz33_4 : w22.cell? ⟨gb289, 4, none⟩ = some (.slice none 0 0) := (blk_cell BK289.out 4).trans rfl; have hfz33_0 := blk_frozen BK289.out 0; have hfz33_1 := blk_frozen BK289.out 1; have hfz33_2 := blk_frozen BK289.out 2; have hfz33_3 := blk_frozen BK289.out 3; have hfz33_4 := blk_frozen BK289.out 4))
    have n0_ : Aside0 (((((((((((w22.setCell ⟨gb288, 0, none⟩ (.int .i64 3)).setCell ⟨gb288, 1, none⟩ (.int .i64 a0_0)).setCell ⟨gb288, 2, none⟩ (.string (⟨#[]⟩ : ByteArray))).setCell ⟨gb288, 3, none⟩ (.slice none 0 0)).setCell ⟨gb288, 4, none⟩ (.slice none 0 0)).setCell ⟨gb289, 0, none⟩ (.int .i64 3)).setCell ⟨gb289, 1, none⟩ (.int .i64 a0_1)).setCell ⟨gb289, 2, none⟩ (.string (⟨#[]⟩ : ByteArray))).setCell ⟨gb289, 3, none⟩ (.slice none 0 0)).setCell ⟨gb289, 4, none⟩ (.slice none 0 0)).heap[gb283]? = some (.cells #[.int .i64 a0_0, .int .i64 a0_1] 35 (0, 0))) := ⟨by (with_reducible repeat (first | refine blk_drewN ?_ _ | refine blk_drew ?_ | refine blk_alloc ?_ _)); refine blk_far ?_ NB283_289.out _; (with_reducible repeat (first | refine blk_drewN ?_ _ | refine blk_drew ?_ | refine blk_alloc ?_ _)); refine blk_far ?_ NB283_289.out _; (with_reducible repeat (first | refine blk_drewN ?_ _ | refine blk_drew ?_ | refine blk_alloc ?_ _)); refine blk_far ?_ NB283_289.out _; (with_reducible repeat (first | refine blk_drewN ?_ _ | refine blk_drew ?_ | refine blk_alloc ?_ _)); refine blk_far ?_ NB283_289.out _; (with_reducible repeat (first | refine blk_drewN ?_ _ | refine blk_drew ?_ | refine blk_alloc ?_ _)); refine blk_far ?_ NB283_289.out _; (with_reducible repeat (first | refine blk_drewN ?_ _ | refine blk_drew ?_ | refine blk_alloc ?_ _)); refine blk_far ?_ NB283_288.out _; (with_reducible repeat (first | refine blk_drewN ?_ _ | refine blk_drew ?_ | refine blk_alloc ?_ _)); refine blk_far ?_ NB283_288.out _; (with_reducible repeat (first | refine blk_drewN ?_ _ | refine blk_drew ?_ | refine blk_alloc ?_ _)); refine blk_far ?_ NB283_288.out _; (with_reducible repeat (first | refine blk_drewN ?_ _ | refine blk_drew ?_ | refine blk_alloc ?_ _)); refine blk_far ?_ NB283_288.out _; (with_reducible repeat (first | refine blk_drewN ?_ _ | refine blk_drew ?_ | refine blk_alloc ?_ _)); refine blk_far ?_ NB283_288.out _; (with_reducible repeat (first | refine blk_drewN ?_ _ | refine blk_drew ?_ | refine blk_alloc ?_ _)); exact BK283.out⟩
    have n1_ : Aside0 (((((((((((w22.setCell ⟨gb288, 0, none⟩ (.int .i64 3)).setCell ⟨gb288, 1, none⟩ (.int .i64 a0_0)).setCell ⟨gb288, 2, none⟩ (.string (⟨#[]⟩ : ByteArray))).setCell ⟨gb288, 3, none⟩ (.slice none 0 0)).setCell ⟨gb288, 4, none⟩ (.slice none 0 0)).setCell ⟨gb289, 0, none⟩ (.int .i64 3)).setCell ⟨gb289, 1, none⟩ (.int .i64 a0_1)).setCell ⟨gb289, 2, none⟩ (.string (⟨#[]⟩ : ByteArray))).setCell ⟨gb289, 3, none⟩ (.slice none 0 0)).setCell ⟨gb289, 4, none⟩ (.slice none 0 0)).heap[gb284]? = some (.cells #[.int .u8 a1_0, .int .u8 a1_1, .int .u8 a1_2, .int .u8 a1_3, .int .u8 a1_4, .int .u8 a1_5] 37 (0, 0))) := ⟨by (with_reducible repeat (first | refine blk_drewN ?_ _ | refine blk_drew ?_ | refine blk_alloc ?_ _)); refine blk_far ?_ NB284_289.out _; (with_reducible repeat (first | refine blk_drewN ?_ _ | refine blk_drew ?_ | refine blk_alloc ?_ _)); refine blk_far ?_ NB284_289.out _; (with_reducible repeat (first | refine blk_drewN ?_ _ | refine blk_drew ?_ | refine blk_alloc ?_ _)); refine blk_far ?_ NB284_289.out _; (with_reducible repeat (first | refine blk_drewN ?_ _ | refine blk_drew ?_ | refine blk_alloc ?_ _)); refine blk_far ?_ NB284_289.out _; (with_reducible repeat (first | refine blk_drewN ?_ _ | refine blk_drew ?_ | refine blk_alloc ?_ _)); refine blk_far ?_ NB284_289.out _; (with_reducible repeat (first | refine blk_drewN ?_ _ | refine blk_drew ?_ | refine blk_alloc ?_ _)); refine blk_far ?_ NB284_288.out _; (with_reducible repeat (first | refine blk_drewN ?_ _ | refine blk_drew ?_ | refine blk_alloc ?_ _)); refine blk_far ?_ NB284_288.out _; (with_reducible repeat (first | refine blk_drewN ?_ _ | refine blk_drew ?_ | refine blk_alloc ?_ _)); refine blk_far ?_ NB284_288.out _; (with_reducible repeat (first | refine blk_drewN ?_ _ | refine blk_drew ?_ | refine blk_alloc ?_ _)); refine blk_far ?_ NB284_288.out _; (with_reducible repeat (first | refine blk_drewN ?_ _ | refine blk_drew ?_ | refine blk_alloc ?_ _)); refine blk_far ?_ NB284_288.out _; (with_reducible repeat (first | refine blk_drewN ?_ _ | refine blk_drew ?_ | refine blk_alloc ?_ _)); exact BK284.out⟩
    have n2_ : Aside0 (((((((((((w22.setCell ⟨gb288, 0, none⟩ (.int .i64 3)).setCell ⟨gb288, 1, none⟩ (.int .i64 a0_0)).setCell ⟨gb288, 2, none⟩ (.string (⟨#[]⟩ : ByteArray))).setCell ⟨gb288, 3, none⟩ (.slice none 0 0)).setCell ⟨gb288, 4, none⟩ (.slice none 0 0)).setCell ⟨gb289, 0, none⟩ (.int .i64 3)).setCell ⟨gb289, 1, none⟩ (.int .i64 a0_1)).setCell ⟨gb289, 2, none⟩ (.string (⟨#[]⟩ : ByteArray))).setCell ⟨gb289, 3, none⟩ (.slice none 0 0)).setCell ⟨gb289, 4, none⟩ (.slice none 0 0)).heap[gb286]? = some (.cells #[.int .u8 a1_0, .int .u8 a1_1, .int .u8 a1_2] 36 (0, 0))) := ⟨by (with_reducible repeat (first | refine blk_drewN ?_ _ | refine blk_drew ?_ | refine blk_alloc ?_ _)); refine blk_far ?_ NB286_289.out _; (with_reducible repeat (first | refine blk_drewN ?_ _ | refine blk_drew ?_ | refine blk_alloc ?_ _)); refine blk_far ?_ NB286_289.out _; (with_reducible repeat (first | refine blk_drewN ?_ _ | refine blk_drew ?_ | refine blk_alloc ?_ _)); refine blk_far ?_ NB286_289.out _; (with_reducible repeat (first | refine blk_drewN ?_ _ | refine blk_drew ?_ | refine blk_alloc ?_ _)); refine blk_far ?_ NB286_289.out _; (with_reducible repeat (first | refine blk_drewN ?_ _ | refine blk_drew ?_ | refine blk_alloc ?_ _)); refine blk_far ?_ NB286_289.out _; (with_reducible repeat (first | refine blk_drewN ?_ _ | refine blk_drew ?_ | refine blk_alloc ?_ _)); refine blk_far ?_ NB286_288.out _; (with_reducible repeat (first | refine blk_drewN ?_ _ | refine blk_drew ?_ | refine blk_alloc ?_ _)); refine blk_far ?_ NB286_288.out _; (with_reducible repeat (first | refine blk_drewN ?_ _ | refine blk_drew ?_ | refine blk_alloc ?_ _)); refine blk_far ?_ NB286_288.out _; (with_reducible repeat (first | refine blk_drewN ?_ _ | refine blk_drew ?_ | refine blk_alloc ?_ _)); refine blk_far ?_ NB286_288.out _; (with_reducible repeat (first | refine blk_drewN ?_ _ | refine blk_drew ?_ | refine blk_alloc ?_ _)); refine blk_far ?_ NB286_288.out _; (with_reducible repeat (first | refine blk_drewN ?_ _ | refine blk_drew ?_ | refine blk_alloc ?_ _)); exact BK286.out⟩
    have n3_ : Aside0 (((((((((((w22.setCell ⟨gb288, 0, none⟩ (.int .i64 3)).setCell ⟨gb288, 1, none⟩ (.int .i64 a0_0)).setCell ⟨gb288, 2, none⟩ (.string (⟨#[]⟩ : ByteArray))).setCell ⟨gb288, 3, none⟩ (.slice none 0 0)).setCell ⟨gb288, 4, none⟩ (.slice none 0 0)).setCell ⟨gb289, 0, none⟩ (.int .i64 3)).setCell ⟨gb289, 1, none⟩ (.int .i64 a0_1)).setCell ⟨gb289, 2, none⟩ (.string (⟨#[]⟩ : ByteArray))).setCell ⟨gb289, 3, none⟩ (.slice none 0 0)).setCell ⟨gb289, 4, none⟩ (.slice none 0 0)).heap[gb287]? = some (.cells #[.int .u8 a1_3, .int .u8 a1_4, .int .u8 a1_5] 36 (0, 0))) := ⟨by (with_reducible repeat (first | refine blk_drewN ?_ _ | refine blk_drew ?_ | refine blk_alloc ?_ _)); refine blk_far ?_ NB287_289.out _; (with_reducible repeat (first | refine blk_drewN ?_ _ | refine blk_drew ?_ | refine blk_alloc ?_ _)); refine blk_far ?_ NB287_289.out _; (with_reducible repeat (first | refine blk_drewN ?_ _ | refine blk_drew ?_ | refine blk_alloc ?_ _)); refine blk_far ?_ NB287_289.out _; (with_reducible repeat (first | refine blk_drewN ?_ _ | refine blk_drew ?_ | refine blk_alloc ?_ _)); refine blk_far ?_ NB287_289.out _; (with_reducible repeat (first | refine blk_drewN ?_ _ | refine blk_drew ?_ | refine blk_alloc ?_ _)); refine blk_far ?_ NB287_289.out _; (with_reducible repeat (first | refine blk_drewN ?_ _ | refine blk_drew ?_ | refine blk_alloc ?_ _)); refine blk_far ?_ NB287_288.out _; (with_reducible repeat (first | refine blk_drewN ?_ _ | refine blk_drew ?_ | refine blk_alloc ?_ _)); refine blk_far ?_ NB287_288.out _; (with_reducible repeat (first | refine blk_drewN ?_ _ | refine blk_drew ?_ | refine blk_alloc ?_ _)); refine blk_far ?_ NB287_288.out _; (with_reducible repeat (first | refine blk_drewN ?_ _ | refine blk_drew ?_ | refine blk_alloc ?_ _)); refine blk_far ?_ NB287_288.out _; (with_reducible repeat (first | refine blk_drewN ?_ _ | refine blk_drew ?_ | refine blk_alloc ?_ _)); refine blk_far ?_ NB287_288.out _; (with_reducible repeat (first | refine blk_drewN ?_ _ | refine blk_drew ?_ | refine blk_alloc ?_ _)); exact BK287.out⟩
    have n4_ : Aside0 (((((((((((w22.setCell ⟨gb288, 0, none⟩ (.int .i64 3)).setCell ⟨gb288, 1, none⟩ (.int .i64 a0_0)).setCell ⟨gb288, 2, none⟩ (.string (⟨#[]⟩ : ByteArray))).setCell ⟨gb288, 3, none⟩ (.slice none 0 0)).setCell ⟨gb288, 4, none⟩ (.slice none 0 0)).setCell ⟨gb289, 0, none⟩ (.int .i64 3)).setCell ⟨gb289, 1, none⟩ (.int .i64 a0_1)).setCell ⟨gb289, 2, none⟩ (.string (⟨#[]⟩ : ByteArray))).setCell ⟨gb289, 3, none⟩ (.slice none 0 0)).setCell ⟨gb289, 4, none⟩ (.slice none 0 0)).heap[gb288]? = some (.cells #[.int .i64 3, .int .i64 a0_0, .string (⟨#[]⟩ : ByteArray), .slice none 0 0, .slice none 0 0] 30 (0, 0))) := ⟨by (with_reducible repeat (first | refine blk_drewN ?_ _ | refine blk_drew ?_ | refine blk_alloc ?_ _)); refine blk_far ?_ NB288_289.out _; (with_reducible repeat (first | refine blk_drewN ?_ _ | refine blk_drew ?_ | refine blk_alloc ?_ _)); refine blk_far ?_ NB288_289.out _; (with_reducible repeat (first | refine blk_drewN ?_ _ | refine blk_drew ?_ | refine blk_alloc ?_ _)); refine blk_far ?_ NB288_289.out _; (with_reducible repeat (first | refine blk_drewN ?_ _ | refine blk_drew ?_ | refine blk_alloc ?_ _)); refine blk_far ?_ NB288_289.out _; (with_reducible repeat (first | refine blk_drewN ?_ _ | refine blk_drew ?_ | refine blk_alloc ?_ _)); refine blk_far ?_ NB288_289.out _; (with_reducible repeat (first | refine blk_drewN ?_ _ | refine blk_drew ?_ | refine blk_alloc ?_ _)); refine blk_put (cs := #[.int .i64 3, .int .i64 a0_0, .string (⟨#[]⟩ : ByteArray), .slice none 0 0, .slice none 0 0]) ?_ 4 _ rfl; (with_reducible repeat (first | refine blk_drewN ?_ _ | refine blk_drew ?_ | refine blk_alloc ?_ _)); refine blk_put (cs := #[.int .i64 3, .int .i64 a0_0, .string (⟨#[]⟩ : ByteArray), .slice none 0 0, .slice none 0 0]) ?_ 3 _ rfl; (with_reducible repeat (first | refine blk_drewN ?_ _ | refine blk_drew ?_ | refine blk_alloc ?_ _)); refine blk_put (cs := #[.int .i64 3, .int .i64 a0_0, .string (⟨#[]⟩ : ByteArray), .slice none 0 0, .slice none 0 0]) ?_ 2 _ rfl; (with_reducible repeat (first | refine blk_drewN ?_ _ | refine blk_drew ?_ | refine blk_alloc ?_ _)); refine blk_put (cs := #[.int .i64 3, .int .i64 0, .string (⟨#[]⟩ : ByteArray), .slice none 0 0, .slice none 0 0]) ?_ 1 _ rfl; (with_reducible repeat (first | refine blk_drewN ?_ _ | refine blk_drew ?_ | refine blk_alloc ?_ _)); refine blk_put (cs := #[.int .i64 0, .int .i64 0, .string (⟨#[]⟩ : ByteArray), .slice none 0 0, .slice none 0 0]) ?_ 0 _ rfl; (with_reducible repeat (first | refine blk_drewN ?_ _ | refine blk_drew ?_ | refine blk_alloc ?_ _)); exact BK288.out⟩
    have n5_ : Aside0 (((((((((((w22.setCell ⟨gb288, 0, none⟩ (.int .i64 3)).setCell ⟨gb288, 1, none⟩ (.int .i64 a0_0)).setCell ⟨gb288, 2, none⟩ (.string (⟨#[]⟩ : ByteArray))).setCell ⟨gb288, 3, none⟩ (.slice none 0 0)).setCell ⟨gb288, 4, none⟩ (.slice none 0 0)).setCell ⟨gb289, 0, none⟩ (.int .i64 3)).setCell ⟨gb289, 1, none⟩ (.int .i64 a0_1)).setCell ⟨gb289, 2, none⟩ (.string (⟨#[]⟩ : ByteArray))).setCell ⟨gb289, 3, none⟩ (.slice none 0 0)).setCell ⟨gb289, 4, none⟩ (.slice none 0 0)).heap[gb289]? = some (.cells #[.int .i64 3, .int .i64 a0_1, .string (⟨#[]⟩ : ByteArray), .slice none 0 0, .slice none 0 0] 30 (0, 0))) := ⟨by (with_reducible repeat (first | refine blk_drewN ?_ _ | refine blk_drew ?_ | refine blk_alloc ?_ _)); refine blk_put (cs := #[.int .i64 3, .int .i64 a0_1, .string (⟨#[]⟩ : ByteArray), .slice none 0 0, .slice none 0 0]) ?_ 4 _ rfl; (with_reducible repeat (first | refine blk_drewN ?_ _ | refine blk_drew ?_ | refine blk_alloc ?_ _)); refine blk_put (cs := #[.int .i64 3, .int .i64 a0_1, .string (⟨#[]⟩ : ByteArray), .slice none 0 0, .slice none 0 0]) ?_ 3 _ rfl; (with_reducible repeat (first | refine blk_drewN ?_ _ | refine blk_drew ?_ | refine blk_alloc ?_ _)); refine blk_put (cs := #[.int .i64 3, .int .i64 a0_1, .string (⟨#[]⟩ : ByteArray), .slice none 0 0, .slice none 0 0]) ?_ 2 _ rfl; (with_reducible repeat (first | refine blk_drewN ?_ _ | refine blk_drew ?_ | refine blk_alloc ?_ _)); refine blk_put (cs := #[.int .i64 3, .int .i64 0, .string (⟨#[]⟩ : ByteArray), .slice none 0 0, .slice none 0 0]) ?_ 1 _ rfl; (with_reducible repeat (first | refine blk_drewN ?_ _ | refine blk_drew ?_ | refine blk_alloc ?_ _)); refine blk_put (cs := #[.int .i64 0, .int .i64 0, .string (⟨#[]⟩ : ByteArray), .slice none 0 0, .slice none 0 0]) ?_ 0 _ rfl; (with_reducible repeat (first | refine blk_drewN ?_ _ | refine blk_drew ?_ | refine blk_alloc ?_ _)); refine blk_far ?_ NB289_288.out _; (with_reducible repeat (first | refine blk_drewN ?_ _ | refine blk_drew ?_ | refine blk_alloc ?_ _)); refine blk_far ?_ NB289_288.out _; (with_reducible repeat (first | refine blk_drewN ?_ _ | refine blk_drew ?_ | refine blk_alloc ?_ _)); refine blk_far ?_ NB289_288.out _; (with_reducible repeat (first | refine blk_drewN ?_ _ | refine blk_drew ?_ | refine blk_alloc ?_ _)); refine blk_far ?_ NB289_288.out _; (with_reducible repeat (first | refine blk_drewN ?_ _ | refine blk_drew ?_ | refine blk_alloc ?_ _)); refine blk_far ?_ NB289_288.out _; (with_reducible repeat (first | refine blk_drewN ?_ _ | refine blk_drew ?_ | refine blk_alloc ?_ _)); exact BK289.out⟩
    have n6_ : Aside0 (Below w.heap.size w ((((((((((w22.setCell ⟨gb288, 0, none⟩ (.int .i64 3)).setCell ⟨gb288, 1, none⟩ (.int .i64 a0_0)).setCell ⟨gb288, 2, none⟩ (.string (⟨#[]⟩ : ByteArray))).setCell ⟨gb288, 3, none⟩ (.slice none 0 0)).setCell ⟨gb288, 4, none⟩ (.slice none 0 0)).setCell ⟨gb289, 0, none⟩ (.int .i64 3)).setCell ⟨gb289, 1, none⟩ (.int .i64 a0_1)).setCell ⟨gb289, 2, none⟩ (.string (⟨#[]⟩ : ByteArray))).setCell ⟨gb289, 3, none⟩ (.slice none 0 0)).setCell ⟨gb289, 4, none⟩ (.slice none 0 0))) := ⟨by repeat (first | (with_reducible first | exact HB.out | apply below_alloc | apply pw_below_drewN | apply below_drew1 | refine below_set ?_ GE283.out | refine below_set ?_ GE284.out | refine below_set ?_ GE286.out | refine below_set ?_ GE287.out | refine below_set ?_ GE288.out | refine below_set ?_ GE289.out) | exact HB.out)⟩
    (try clear BK283)
    (try clear BK284)
    (try clear BK286)
    (try clear BK287)
    (try clear BK288)
    (try clear BK289)
    (try clear HB)
    generalize ((((((((((w22.setCell ⟨gb288, 0, none⟩ (.int .i64 3)).setCell ⟨gb288, 1, none⟩ (.int .i64 a0_0)).setCell ⟨gb288, 2, none⟩ (.string (⟨#[]⟩ : ByteArray))).setCell ⟨gb288, 3, none⟩ (.slice none 0 0)).setCell ⟨gb288, 4, none⟩ (.slice none 0 0)).setCell ⟨gb289, 0, none⟩ (.int .i64 3)).setCell ⟨gb289, 1, none⟩ (.int .i64 a0_1)).setCell ⟨gb289, 2, none⟩ (.string (⟨#[]⟩ : ByteArray))).setCell ⟨gb289, 3, none⟩ (.slice none 0 0)).setCell ⟨gb289, 4, none⟩ (.slice none 0 0)) = w34 at n0_ n1_ n2_ n3_ n4_ n5_ n6_ ⊢
    have BK283 := n0_
    have BK284 := n1_
    have BK286 := n2_
    have BK287 := n3_
    have BK288 := n4_
    have BK289 := n5_
    have HB := n6_
    clear n0_ n1_ n2_ n3_ n4_ n5_ n6_
    have n0_ := Aside0.mk (blk_drew BK283.out)
    have n1_ := Aside0.mk (blk_drew BK284.out)
    have n2_ := Aside0.mk (blk_drew BK286.out)
    have n3_ := Aside0.mk (blk_drew BK287.out)
    have n4_ := Aside0.mk (blk_drew BK288.out)
    have n5_ := Aside0.mk (blk_drew BK289.out)
    have n6_ := Aside0.mk (below_drew1 HB.out)
    clear BK283
    clear BK284
    clear BK286
    clear BK287
    clear BK288
    clear BK289
    clear HB
    have BK283 := n0_
    have BK284 := n1_
    have BK286 := n2_
    have BK287 := n3_
    have BK288 := n4_
    have BK289 := n5_
    have HB := n6_
    clear n0_ n1_ n2_ n3_ n4_ n5_ n6_
    refine start_ (n := 6) (S := fun w' => w'.cell? ⟨gb286, 0, none⟩ = some (.int .u8 a1_0) ∧ w'.cell? ⟨gb286, 1, none⟩ = some (.int .u8 a1_1) ∧ w'.cell? ⟨gb286, 2, none⟩ = some (.int .u8 a1_2) ∧ w'.cell? ⟨gb287, 0, none⟩ = some (.int .u8 a1_3) ∧ w'.cell? ⟨gb287, 1, none⟩ = some (.int .u8 a1_4) ∧ w'.cell? ⟨gb287, 2, none⟩ = some (.int .u8 a1_5)) (ds := []) #[false, false, false, false, false, false] (by kernel_rfl) rfl rfl ⟨(blk_cell BK286.out 0).trans rfl, (blk_cell BK286.out 1).trans rfl, (blk_cell BK286.out 2).trans rfl, (blk_cell BK287.out 0).trans rfl, (blk_cell BK287.out 1).trans rfl, (blk_cell BK287.out 2).trans rfl⟩ (fun hHeld => ?_)
    generalize w34.drew = w35 at BK283 BK284 BK286 BK287 BK288 BK289 HB hHeld ⊢
    refine take_ (i := 0) (N := some 29) (v := ?_) (a' := ?_) #[true, false, false, false, false, false] rfl rfl (by kernel_rfl) (fun _ _ _ h => h) (Or.inl ⟨by rfl, ?_⟩) hHeld ?_ ?_
    rotate_left
    · rintro w' ⟨s0, s1, s2, s3, s4, s5⟩
      go_simp
      with_reducible rfl
    rotate_left
    · simp only [Act.put, List.setIfInBounds_toArray, List.set_cons_zero, List.set_cons_succ, i64_w, i32_w]
      rfl
    refine take_ (i := 2) (N := some 31) (v := ?_) (a' := ?_) #[true, false, true, false, false, false] rfl rfl (by kernel_rfl) (fun _ _ _ h => h) (Or.inl ⟨by rfl, ?_⟩) hHeld ?_ ?_
    rotate_left
    · rintro w' ⟨s0, s1, s2, s3, s4, s5⟩
      go_simp
      with_reducible rfl
    rotate_left
    · simp only [Act.put, List.setIfInBounds_toArray, List.set_cons_zero, List.set_cons_succ, i64_w, i32_w]
      rfl
    refine one_ (i := 1) (N := some 30) #[true, true, true, false, false, false] rfl rfl (by kernel_rfl) (by decide) (fun K hK => ?_)
    refine goes_ Tryd.func20 (by kernel_rfl) rfl #[.agg #[.int .u8 a1_0, .int .u8 a1_1, .int .u8 a1_2]] (by rfl) rfl rfl (by (try simp only [List.map_toArray, List.map_cons, List.map_nil]); first | done | rfl | (simp only [List.length_drop, List.length_take]; rfl)) ?_
    with_reducible refine (munimentlaw03_letters.calls a1_0 a1_1 a1_2 t290 _ A5.out).mono ?_
    rintro e w36 ⟨rfl, hb⟩
    refine ⟨_, rfl, ?_⟩
    have n0_ := Aside0.mk (blk_below (g := gb283) (o := .cells #[.int .i64 a0_0, .int .i64 a0_1] 35 (0, 0)) (by (with_reducible repeat (first | refine blk_drewN ?_ _ | refine blk_drew ?_ | refine blk_alloc ?_ _)); exact BK283.out) hb)
    have n1_ := Aside0.mk (blk_below (g := gb284) (o := .cells #[.int .u8 a1_0, .int .u8 a1_1, .int .u8 a1_2, .int .u8 a1_3, .int .u8 a1_4, .int .u8 a1_5] 37 (0, 0)) (by (with_reducible repeat (first | refine blk_drewN ?_ _ | refine blk_drew ?_ | refine blk_alloc ?_ _)); exact BK284.out) hb)
    have n2_ := Aside0.mk (blk_below (g := gb286) (o := .cells #[.int .u8 a1_0, .int .u8 a1_1, .int .u8 a1_2] 36 (0, 0)) (by (with_reducible repeat (first | refine blk_drewN ?_ _ | refine blk_drew ?_ | refine blk_alloc ?_ _)); exact BK286.out) hb)
    have n3_ := Aside0.mk (blk_below (g := gb287) (o := .cells #[.int .u8 a1_3, .int .u8 a1_4, .int .u8 a1_5] 36 (0, 0)) (by (with_reducible repeat (first | refine blk_drewN ?_ _ | refine blk_drew ?_ | refine blk_alloc ?_ _)); exact BK287.out) hb)
    have n4_ := Aside0.mk (blk_below (g := gb288) (o := .cells #[.int .i64 3, .int .i64 a0_0, .string (⟨#[]⟩ : ByteArray), .slice none 0 0, .slice none 0 0] 30 (0, 0)) (by (with_reducible repeat (first | refine blk_drewN ?_ _ | refine blk_drew ?_ | refine blk_alloc ?_ _)); exact BK288.out) hb)
    have n5_ := Aside0.mk (blk_below (g := gb289) (o := .cells #[.int .i64 3, .int .i64 a0_1, .string (⟨#[]⟩ : ByteArray), .slice none 0 0, .slice none 0 0] 30 (0, 0)) (by (with_reducible repeat (first | refine blk_drewN ?_ _ | refine blk_drew ?_ | refine blk_alloc ?_ _)); exact BK289.out) hb)
    have n6_ := Aside0.mk (below_step (by repeat (first | (with_reducible first | exact HB.out | apply below_alloc | apply pw_below_drewN | apply below_drew1 | refine below_set ?_ GE283.out | refine below_set ?_ GE284.out | refine below_set ?_ GE286.out | refine below_set ?_ GE287.out | refine below_set ?_ GE288.out | refine below_set ?_ GE289.out) | exact HB.out)) hb)
    clear BK283
    clear BK284
    clear BK286
    clear BK287
    clear BK288
    clear BK289
    clear HB
    have BK283 := n0_
    have BK284 := n1_
    have BK286 := n2_
    have BK287 := n3_
    have BK288 := n4_
    have BK289 := n5_
    have HB := n6_
    clear n0_ n1_ n2_ n3_ n4_ n5_ n6_
    (try clear hb)
    (try clear hb2)
    (try clear hk)
    (try clear hi)
    refine hK.out _ _ ⟨(blk_cell BK286.out 0).trans rfl, (blk_cell BK286.out 1).trans rfl, (blk_cell BK286.out 2).trans rfl, (blk_cell BK287.out 0).trans rfl, (blk_cell BK287.out 1).trans rfl, (blk_cell BK287.out 2).trans rfl⟩ (fun hHeld => ?_)
    clear hK K
    refine norm_ (a' := ?_) ?_ ?_
    rotate_left
    · show Act.put _ (some 30) _ = _
      simp only [Act.put, List.setIfInBounds_toArray, List.set_cons_zero, List.set_cons_succ, i64_w, i32_w]
      rfl
    refine one_ (i := 3) (N := some 32) #[true, true, true, true, false, false] rfl rfl (by kernel_rfl) (by decide) (fun K hK => ?_)
    refine goes_ Tryd.func20 (by kernel_rfl) rfl #[.agg #[.int .u8 a1_3, .int .u8 a1_4, .int .u8 a1_5]] (by rfl) rfl rfl (by (try simp only [List.map_toArray, List.map_cons, List.map_nil]); first | done | rfl | (simp only [List.length_drop, List.length_take]; rfl)) ?_
    with_reducible refine (munimentlaw03_letters.calls a1_3 a1_4 a1_5 t291 _ A6.out).mono ?_
    rintro e w37 ⟨rfl, hb⟩
    refine ⟨_, rfl, ?_⟩
    have n0_ := Aside0.mk (blk_below (g := gb283) (o := .cells #[.int .i64 a0_0, .int .i64 a0_1] 35 (0, 0)) (by (with_reducible repeat (first | refine blk_drewN ?_ _ | refine blk_drew ?_ | refine blk_alloc ?_ _)); exact BK283.out) hb)
    have n1_ := Aside0.mk (blk_below (g := gb284) (o := .cells #[.int .u8 a1_0, .int .u8 a1_1, .int .u8 a1_2, .int .u8 a1_3, .int .u8 a1_4, .int .u8 a1_5] 37 (0, 0)) (by (with_reducible repeat (first | refine blk_drewN ?_ _ | refine blk_drew ?_ | refine blk_alloc ?_ _)); exact BK284.out) hb)
    have n2_ := Aside0.mk (blk_below (g := gb286) (o := .cells #[.int .u8 a1_0, .int .u8 a1_1, .int .u8 a1_2] 36 (0, 0)) (by (with_reducible repeat (first | refine blk_drewN ?_ _ | refine blk_drew ?_ | refine blk_alloc ?_ _)); exact BK286.out) hb)
    have n3_ := Aside0.mk (blk_below (g := gb287) (o := .cells #[.int .u8 a1_3, .int .u8 a1_4, .int .u8 a1_5] 36 (0, 0)) (by (with_reducible repeat (first | refine blk_drewN ?_ _ | refine blk_drew ?_ | refine blk_alloc ?_ _)); exact BK287.out) hb)
    have n4_ := Aside0.mk (blk_below (g := gb288) (o := .cells #[.int .i64 3, .int .i64 a0_0, .string (⟨#[]⟩ : ByteArray), .slice none 0 0, .slice none 0 0] 30 (0, 0)) (by (with_reducible repeat (first | refine blk_drewN ?_ _ | refine blk_drew ?_ | refine blk_alloc ?_ _)); exact BK288.out) hb)
    have n5_ := Aside0.mk (blk_below (g := gb289) (o := .cells #[.int .i64 3, .int .i64 a0_1, .string (⟨#[]⟩ : ByteArray), .slice none 0 0, .slice none 0 0] 30 (0, 0)) (by (with_reducible repeat (first | refine blk_drewN ?_ _ | refine blk_drew ?_ | refine blk_alloc ?_ _)); exact BK289.out) hb)
    have n6_ := Aside0.mk (below_step (by repeat (first | (with_reducible first | exact HB.out | apply below_alloc | apply pw_below_drewN | apply below_drew1 | refine below_set ?_ GE283.out | refine below_set ?_ GE284.out | refine below_set ?_ GE286.out | refine below_set ?_ GE287.out | refine below_set ?_ GE288.out | refine below_set ?_ GE289.out) | exact HB.out)) hb)
    clear BK283
    clear BK284
    clear BK286
    clear BK287
    clear BK288
    clear BK289
    clear HB
    have BK283 := n0_
    have BK284 := n1_
    have BK286 := n2_
    have BK287 := n3_
    have BK288 := n4_
    have BK289 := n5_
    have HB := n6_
    clear n0_ n1_ n2_ n3_ n4_ n5_ n6_
    (try clear hb)
    (try clear hb2)
    (try clear hk)
    (try clear hi)
    refine hK.out _ _ ⟨(blk_cell BK286.out 0).trans rfl, (blk_cell BK286.out 1).trans rfl, (blk_cell BK286.out 2).trans rfl, (blk_cell BK287.out 0).trans rfl, (blk_cell BK287.out 1).trans rfl, (blk_cell BK287.out 2).trans rfl⟩ (fun hHeld => ?_)
    clear hK K
    refine norm_ (a' := ?_) ?_ ?_
    rotate_left
    · show Act.put _ (some 32) _ = _
      simp only [Act.put, List.setIfInBounds_toArray, List.set_cons_zero, List.set_cons_succ, i64_w, i32_w]
      rfl
    refine pure_ (i := 4) (N := some 11) (v := ?_) (a' := ?_) #[true, true, true, true, true, false] rfl rfl (by kernel_rfl) (fun _ _ _ h => h) (Or.inl ⟨by rfl, ?_⟩) ?_ ?_
    rotate_left
    · intro w'
      go_simp
      with_reducible rfl
    rotate_left
    · simp only [Act.put, List.setIfInBounds_toArray, List.set_cons_zero, List.set_cons_succ, i64_w, i32_w]
      rfl
    refine pure_ (i := 5) (N := some 12) (v := ?_) (a' := ?_) #[true, true, true, true, true, true] rfl rfl (by kernel_rfl) (fun _ _ _ h => h) (Or.inl ⟨by rfl, ?_⟩) ?_ ?_
    rotate_left
    · intro w'
      go_simp
      with_reducible rfl
    rotate_left
    · simp only [Act.put, List.setIfInBounds_toArray, List.set_cons_zero, List.set_cons_succ, i64_w, i32_w]
      rfl
    refine done_ (by kernel_rfl) ?_
    go_upto_region 7 with (first | ((with_reducible refine gate_dst (N := 13) rfl ?_); refine box_event ?hg (N := 13) ?hd (cs := #[.int .i64 0, .int .i64 0, .string (⟨#[]⟩ : ByteArray), .slice none 0 0, .slice none 0 0]) (t := 30) ?hr ?_; (case hd => rfl); (case hg => rfl); (case hr => first | (go_simp; done) | (go_simp; rfl)); intro gb292 hg w38 hbox hb; have n0_ := Aside0.mk (blk_below (g := gb283) (o := .cells #[.int .i64 a0_0, .int .i64 a0_1] 35 (0, 0)) (by (with_reducible repeat (first | refine blk_drewN ?_ _ | refine blk_drew ?_ | refine blk_alloc ?_ _)); exact BK283.out) hb); have n1_ := Aside0.mk (blk_below (g := gb284) (o := .cells #[.int .u8 a1_0, .int .u8 a1_1, .int .u8 a1_2, .int .u8 a1_3, .int .u8 a1_4, .int .u8 a1_5] 37 (0, 0)) (by (with_reducible repeat (first | refine blk_drewN ?_ _ | refine blk_drew ?_ | refine blk_alloc ?_ _)); exact BK284.out) hb); have n2_ := Aside0.mk (blk_below (g := gb286) (o := .cells #[.int .u8 a1_0, .int .u8 a1_1, .int .u8 a1_2] 36 (0, 0)) (by (with_reducible repeat (first | refine blk_drewN ?_ _ | refine blk_drew ?_ | refine blk_alloc ?_ _)); exact BK286.out) hb); have n3_ := Aside0.mk (blk_below (g := gb287) (o := .cells #[.int .u8 a1_3, .int .u8 a1_4, .int .u8 a1_5] 36 (0, 0)) (by (with_reducible repeat (first | refine blk_drewN ?_ _ | refine blk_drew ?_ | refine blk_alloc ?_ _)); exact BK287.out) hb); have n4_ := Aside0.mk (blk_below (g := gb288) (o := .cells #[.int .i64 3, .int .i64 a0_0, .string (⟨#[]⟩ : ByteArray), .slice none 0 0, .slice none 0 0] 30 (0, 0)) (by (with_reducible repeat (first | refine blk_drewN ?_ _ | refine blk_drew ?_ | refine blk_alloc ?_ _)); exact BK288.out) hb); have n5_ := Aside0.mk (blk_below (g := gb289) (o := .cells #[.int .i64 3, .int .i64 a0_1, .string (⟨#[]⟩ : ByteArray), .slice none 0 0, .slice none 0 0] 30 (0, 0)) (by (with_reducible repeat (first | refine blk_drewN ?_ _ | refine blk_drew ?_ | refine blk_alloc ?_ _)); exact BK289.out) hb); have n6_ := Aside0.mk (below_step (by repeat (first | (with_reducible first | exact HB.out | apply below_alloc | apply pw_below_drewN | apply below_drew1 | refine below_set ?_ GE283.out | refine below_set ?_ GE284.out | refine below_set ?_ GE286.out | refine below_set ?_ GE287.out | refine below_set ?_ GE288.out | refine below_set ?_ GE289.out) | exact HB.out)) hb); have n7_ := Aside0.mk (hbox); have n8_ := Aside0.mk ((by rw [hg]; exact (below_size (by repeat (first | (with_reducible first | exact HB.out | apply below_alloc | apply pw_below_drewN | apply below_drew1 | refine below_set ?_ GE283.out | refine below_set ?_ GE284.out | refine below_set ?_ GE286.out | refine below_set ?_ GE287.out | refine below_set ?_ GE288.out | refine below_set ?_ GE289.out) | exact HB.out))) : w.heap.size ≤ gb292)); have n9_ := Aside0.mk ((by rw [hg]; exact (below_size (by repeat (first | (with_reducible first | exact HB.out | apply below_alloc | apply pw_below_drewN | apply below_drew1 | refine below_set ?_ GE283.out | refine below_set ?_ GE284.out | refine below_set ?_ GE286.out | refine below_set ?_ GE287.out | refine below_set ?_ GE288.out | refine below_set ?_ GE289.out) | exact HB.out))) : w.heap.size ≤ gb292)); have n10_ := Aside0.mk ((by rw [hg]; exact Nat.ne_of_lt (blk_lt (g := gb283) (o := .cells #[.int .i64 a0_0, .int .i64 a0_1] 35 (0, 0)) (by (with_reducible repeat (first | refine blk_drewN ?_ _ | refine blk_drew ?_ | refine blk_alloc ?_ _)); exact BK283.out)) : gb283 ≠ gb292)); have n11_ := Aside0.mk ((by rw [hg]; exact Nat.ne_of_gt (blk_lt (g := gb283) (o := .cells #[.int .i64 a0_0, .int .i64 a0_1] 35 (0, 0)) (by (with_reducible repeat (first | refine blk_drewN ?_ _ | refine blk_drew ?_ | refine blk_alloc ?_ _)); exact BK283.out)) : gb292 ≠ gb283)); have n12_ := Aside0.mk ((by rw [hg]; exact Nat.ne_of_lt (blk_lt (g := gb284) (o := .cells #[.int .u8 a1_0, .int .u8 a1_1, .int .u8 a1_2, .int .u8 a1_3, .int .u8 a1_4, .int .u8 a1_5] 37 (0, 0)) (by (with_reducible repeat (first | refine blk_drewN ?_ _ | refine blk_drew ?_ | refine blk_alloc ?_ _)); exact BK284.out)) : gb284 ≠ gb292)); have n13_ := Aside0.mk ((by rw [hg]; exact Nat.ne_of_gt (blk_lt (g := gb284) (o := .cells #[.int .u8 a1_0, .int .u8 a1_1, .int .u8 a1_2, .int .u8 a1_3, .int .u8 a1_4, .int .u8 a1_5] 37 (0, 0)) (by (with_reducible repeat (first | refine blk_drewN ?_ _ | refine blk_drew ?_ | refine blk_alloc ?_ _)); exact BK284.out)) : gb292 ≠ gb284)); have n14_ := Aside0.mk ((by rw [hg]; exact Nat.ne_of_lt (blk_lt (g := gb286) (o := .cells #[.int .u8 a1_0, .int .u8 a1_1, .int .u8 a1_2] 36 (0, 0)) (by (with_reducible repeat (first | refine blk_drewN ?_ _ | refine blk_drew ?_ | refine blk_alloc ?_ _)); exact BK286.out)) : gb286 ≠ gb292)); have n15_ := Aside0.mk ((by rw [hg]; exact Nat.ne_of_gt (blk_lt (g := gb286) (o := .cells #[.int .u8 a1_0, .int .u8 a1_1, .int .u8 a1_2] 36 (0, 0)) (by (with_reducible repeat (first | refine blk_drewN ?_ _ | refine blk_drew ?_ | refine blk_alloc ?_ _)); exact BK286.out)) : gb292 ≠ gb286)); have n16_ := Aside0.mk ((by rw [hg]; exact Nat.ne_of_lt (blk_lt (g := gb287) (o := .cells #[.int .u8 a1_3, .int .u8 a1_4, .int .u8 a1_5] 36 (0, 0)) (by (with_reducible repeat (first | refine blk_drewN ?_ _ | refine blk_drew ?_ | refine blk_alloc ?_ _)); exact BK287.out)) : gb287 ≠ gb292)); have n17_ := Aside0.mk ((by rw [hg]; exact Nat.ne_of_gt (blk_lt (g := gb287) (o := .cells #[.int .u8 a1_3, .int .u8 a1_4, .int .u8 a1_5] 36 (0, 0)) (by (with_reducible repeat (first | refine blk_drewN ?_ _ | refine blk_drew ?_ | refine blk_alloc ?_ _)); exact BK287.out)) : gb292 ≠ gb287)); have n18_ := Aside0.mk ((by rw [hg]; exact Nat.ne_of_lt (blk_lt (g := gb288) (o := .cells #[.int .i64 3, .int .i64 a0_0, .string (⟨#[]⟩ : ByteArray), .slice none 0 0, .slice none 0 0] 30 (0, 0)) (by (with_reducible repeat (first | refine blk_drewN ?_ _ | refine blk_drew ?_ | refine blk_alloc ?_ _)); exact BK288.out)) : gb288 ≠ gb292)); have n19_ := Aside0.mk ((by rw [hg]; exact Nat.ne_of_gt (blk_lt (g := gb288) (o := .cells #[.int .i64 3, .int .i64 a0_0, .string (⟨#[]⟩ : ByteArray), .slice none 0 0, .slice none 0 0] 30 (0, 0)) (by (with_reducible repeat (first | refine blk_drewN ?_ _ | refine blk_drew ?_ | refine blk_alloc ?_ _)); exact BK288.out)) : gb292 ≠ gb288)); have n20_ := Aside0.mk ((by rw [hg]; exact Nat.ne_of_lt (blk_lt (g := gb289) (o := .cells #[.int .i64 3, .int .i64 a0_1, .string (⟨#[]⟩ : ByteArray), .slice none 0 0, .slice none 0 0] 30 (0, 0)) (by (with_reducible repeat (first | refine blk_drewN ?_ _ | refine blk_drew ?_ | refine blk_alloc ?_ _)); exact BK289.out)) : gb289 ≠ gb292)); have n21_ := Aside0.mk ((by rw [hg]; exact Nat.ne_of_gt (blk_lt (g := gb289) (o := .cells #[.int .i64 3, .int .i64 a0_1, .string (⟨#[]⟩ : ByteArray), .slice none 0 0, .slice none 0 0] 30 (0, 0)) (by (with_reducible repeat (first | refine blk_drewN ?_ _ | refine blk_drew ?_ | refine blk_alloc ?_ _)); exact BK289.out)) : gb292 ≠ gb289)); clear BK283; clear BK284; clear BK286; clear BK287; clear BK288; clear BK289; clear HB; have BK283 := n0_; have BK284 := n1_; have BK286 := n2_; have BK287 := n3_; have BK288 := n4_; have BK289 := n5_; have HB := n6_; have BK292 := n7_; have GW292 := n8_; have GE292 := n9_; have NB283_292 := n10_; have NB292_283 := n11_; have NB284_292 := n12_; have NB292_284 := n13_; have NB286_292 := n14_; have NB292_286 := n15_; have NB287_292 := n16_; have NB292_287 := n17_; have NB288_292 := n18_; have NB292_288 := n19_; have NB289_292 := n20_; have NB292_289 := n21_; clear n0_ n1_ n2_ n3_ n4_ n5_ n6_ n7_ n8_ n9_ n10_ n11_ n12_ n13_ n14_ n15_ n16_ n17_ n18_ n19_ n20_ n21_; clear hb hbox hg) | ((with_reducible refine gate_dst (N := 14) rfl ?_); refine box_event ?hg (N := 14) ?hd (cs := #[.int .i64 0, .int .i64 0, .string (⟨#[]⟩ : ByteArray), .slice none 0 0, .slice none 0 0]) (t := 30) ?hr ?_; (case hd => rfl); (case hg => rfl); (case hr => first | (go_simp; done) | (go_simp; rfl)); intro gb293 hg w39 hbox hb; have n0_ := Aside0.mk (blk_below (g := gb283) (o := .cells #[.int .i64 a0_0, .int .i64 a0_1] 35 (0, 0)) (by (with_reducible repeat (first | refine blk_drewN ?_ _ | refine blk_drew ?_ | refine blk_alloc ?_ _)); exact BK283.out) hb); have n1_ := Aside0.mk (blk_below (g := gb284) (o := .cells #[.int .u8 a1_0, .int .u8 a1_1, .int .u8 a1_2, .int .u8 a1_3, .int .u8 a1_4, .int .u8 a1_5] 37 (0, 0)) (by (with_reducible repeat (first | refine blk_drewN ?_ _ | refine blk_drew ?_ | refine blk_alloc ?_ _)); exact BK284.out) hb); have n2_ := Aside0.mk (blk_below (g := gb286) (o := .cells #[.int .u8 a1_0, .int .u8 a1_1, .int .u8 a1_2] 36 (0, 0)) (by (with_reducible repeat (first | refine blk_drewN ?_ _ | refine blk_drew ?_ | refine blk_alloc ?_ _)); exact BK286.out) hb); have n3_ := Aside0.mk (blk_below (g := gb287) (o := .cells #[.int .u8 a1_3, .int .u8 a1_4, .int .u8 a1_5] 36 (0, 0)) (by (with_reducible repeat (first | refine blk_drewN ?_ _ | refine blk_drew ?_ | refine blk_alloc ?_ _)); exact BK287.out) hb); have n4_ := Aside0.mk (blk_below (g := gb288) (o := .cells #[.int .i64 3, .int .i64 a0_0, .string (⟨#[]⟩ : ByteArray), .slice none 0 0, .slice none 0 0] 30 (0, 0)) (by (with_reducible repeat (first | refine blk_drewN ?_ _ | refine blk_drew ?_ | refine blk_alloc ?_ _)); exact BK288.out) hb); have n5_ := Aside0.mk (blk_below (g := gb289) (o := .cells #[.int .i64 3, .int .i64 a0_1, .string (⟨#[]⟩ : ByteArray), .slice none 0 0, .slice none 0 0] 30 (0, 0)) (by (with_reducible repeat (first | refine blk_drewN ?_ _ | refine blk_drew ?_ | refine blk_alloc ?_ _)); exact BK289.out) hb); have n6_ := Aside0.mk (blk_below (g := gb292) (o := .cells #[.int .i64 0, .int .i64 0, .string (⟨#[]⟩ : ByteArray), .slice none 0 0, .slice none 0 0] 30 (0, 0)) (by (with_reducible repeat (first | refine blk_drewN ?_ _ | refine blk_drew ?_ | refine blk_alloc ?_ _)); exact BK292.out) hb); have n7_ := Aside0.mk (below_step (by repeat (first | (with_reducible first | exact HB.out | apply below_alloc | apply pw_below_drewN | apply below_drew1 | refine below_set ?_ GE283.out | refine below_set ?_ GE284.out | refine below_set ?_ GE286.out | refine below_set ?_ GE287.out | refine below_set ?_ GE288.out | refine below_set ?_ GE289.out | refine below_set ?_ GE292.out) | exact HB.out)) hb); have n8_ := Aside0.mk (hbox); have n9_ := Aside0.mk ((by rw [hg]; exact (below_size (by repeat (first | (with_reducible first | exact HB.out | apply below_alloc | apply pw_below_drewN | apply below_drew1 | refine below_set ?_ GE283.out | refine below_set ?_ GE284.out | refine below_set ?_ GE286.out | refine below_set ?_ GE287.out | refine below_set ?_ GE288.out | refine below_set ?_ GE289.out | refine below_set ?_ GE292.out) | exact HB.out))) : w.heap.size ≤ gb293)); have n10_ := Aside0.mk ((by rw [hg]; exact (below_size (by repeat (first | (with_reducible first | exact HB.out | apply below_alloc | apply pw_below_drewN | apply below_drew1 | refine below_set ?_ GE283.out | refine below_set ?_ GE284.out | refine below_set ?_ GE286.out | refine below_set ?_ GE287.out | refine below_set ?_ GE288.out | refine below_set ?_ GE289.out | refine below_set ?_ GE292.out) | exact HB.out))) : w.heap.size ≤ gb293)); have n11_ := Aside0.mk ((by rw [hg]; exact Nat.ne_of_lt (blk_lt (g := gb283) (o := .cells #[.int .i64 a0_0, .int .i64 a0_1] 35 (0, 0)) (by (with_reducible repeat (first | refine blk_drewN ?_ _ | refine blk_drew ?_ | refine blk_alloc ?_ _)); exact BK283.out)) : gb283 ≠ gb293)); have n12_ := Aside0.mk ((by rw [hg]; exact Nat.ne_of_gt (blk_lt (g := gb283) (o := .cells #[.int .i64 a0_0, .int .i64 a0_1] 35 (0, 0)) (by (with_reducible repeat (first | refine blk_drewN ?_ _ | refine blk_drew ?_ | refine blk_alloc ?_ _)); exact BK283.out)) : gb293 ≠ gb283)); have n13_ := Aside0.mk ((by rw [hg]; exact Nat.ne_of_lt (blk_lt (g := gb284) (o := .cells #[.int .u8 a1_0, .int .u8 a1_1, .int .u8 a1_2, .int .u8 a1_3, .int .u8 a1_4, .int .u8 a1_5] 37 (0, 0)) (by (with_reducible repeat (first | refine blk_drewN ?_ _ | refine blk_drew ?_ | refine blk_alloc ?_ _)); exact BK284.out)) : gb284 ≠ gb293)); have n14_ := Aside0.mk ((by rw [hg]; exact Nat.ne_of_gt (blk_lt (g := gb284) (o := .cells #[.int .u8 a1_0, .int .u8 a1_1, .int .u8 a1_2, .int .u8 a1_3, .int .u8 a1_4, .int .u8 a1_5] 37 (0, 0)) (by (with_reducible repeat (first | refine blk_drewN ?_ _ | refine blk_drew ?_ | refine blk_alloc ?_ _)); exact BK284.out)) : gb293 ≠ gb284)); have n15_ := Aside0.mk ((by rw [hg]; exact Nat.ne_of_lt (blk_lt (g := gb286) (o := .cells #[.int .u8 a1_0, .int .u8 a1_1, .int .u8 a1_2] 36 (0, 0)) (by (with_reducible repeat (first | refine blk_drewN ?_ _ | refine blk_drew ?_ | refine blk_alloc ?_ _)); exact BK286.out)) : gb286 ≠ gb293)); have n16_ := Aside0.mk ((by rw [hg]; exact Nat.ne_of_gt (blk_lt (g := gb286) (o := .cells #[.int .u8 a1_0, .int .u8 a1_1, .int .u8 a1_2] 36 (0, 0)) (by (with_reducible repeat (first | refine blk_drewN ?_ _ | refine blk_drew ?_ | refine blk_alloc ?_ _)); exact BK286.out)) : gb293 ≠ gb286)); have n17_ := Aside0.mk ((by rw [hg]; exact Nat.ne_of_lt (blk_lt (g := gb287) (o := .cells #[.int .u8 a1_3, .int .u8 a1_4, .int .u8 a1_5] 36 (0, 0)) (by (with_reducible repeat (first | refine blk_drewN ?_ _ | refine blk_drew ?_ | refine blk_alloc ?_ _)); exact BK287.out)) : gb287 ≠ gb293)); have n18_ := Aside0.mk ((by rw [hg]; exact Nat.ne_of_gt (blk_lt (g := gb287) (o := .cells #[.int .u8 a1_3, .int .u8 a1_4, .int .u8 a1_5] 36 (0, 0)) (by (with_reducible repeat (first | refine blk_drewN ?_ _ | refine blk_drew ?_ | refine blk_alloc ?_ _)); exact BK287.out)) : gb293 ≠ gb287)); have n19_ := Aside0.mk ((by rw [hg]; exact Nat.ne_of_lt (blk_lt (g := gb288) (o := .cells #[.int .i64 3, .int .i64 a0_0, .string (⟨#[]⟩ : ByteArray), .slice none 0 0, .slice none 0 0] 30 (0, 0)) (by (with_reducible repeat (first | refine blk_drewN ?_ _ | refine blk_drew ?_ | refine blk_alloc ?_ _)); exact BK288.out)) : gb288 ≠ gb293)); have n20_ := Aside0.mk ((by rw [hg]; exact Nat.ne_of_gt (blk_lt (g := gb288) (o := .cells #[.int .i64 3, .int .i64 a0_0, .string (⟨#[]⟩ : ByteArray), .slice none 0 0, .slice none 0 0] 30 (0, 0)) (by (with_reducible repeat (first | refine blk_drewN ?_ _ | refine blk_drew ?_ | refine blk_alloc ?_ _)); exact BK288.out)) : gb293 ≠ gb288)); have n21_ := Aside0.mk ((by rw [hg]; exact Nat.ne_of_lt (blk_lt (g := gb289) (o := .cells #[.int .i64 3, .int .i64 a0_1, .string (⟨#[]⟩ : ByteArray), .slice none 0 0, .slice none 0 0] 30 (0, 0)) (by (with_reducible repeat (first | refine blk_drewN ?_ _ | refine blk_drew ?_ | refine blk_alloc ?_ _)); exact BK289.out)) : gb289 ≠ gb293)); have n22_ := Aside0.mk ((by rw [hg]; exact Nat.ne_of_gt (blk_lt (g := gb289) (o := .cells #[.int .i64 3, .int .i64 a0_1, .string (⟨#[]⟩ : ByteArray), .slice none 0 0, .slice none 0 0] 30 (0, 0)) (by (with_reducible repeat (first | refine blk_drewN ?_ _ | refine blk_drew ?_ | refine blk_alloc ?_ _)); exact BK289.out)) : gb293 ≠ gb289)); have n23_ := Aside0.mk ((by rw [hg]; exact Nat.ne_of_lt (blk_lt (g := gb292) (o := .cells #[.int .i64 0, .int .i64 0, .string (⟨#[]⟩ : ByteArray), .slice none 0 0, .slice none 0 0] 30 (0, 0)) (by (with_reducible repeat (first | refine blk_drewN ?_ _ | refine blk_drew ?_ | refine blk_alloc ?_ _)); exact BK292.out)) : gb292 ≠ gb293)); have n24_ := Aside0.mk ((by rw [hg]; exact Nat.ne_of_gt (blk_lt (g := gb292) (o := .cells #[.int .i64 0, .int .i64 0, .string (⟨#[]⟩ : ByteArray), .slice none 0 0, .slice none 0 0] 30 (0, 0)) (by (with_reducible repeat (first | refine blk_drewN ?_ _ | refine blk_drew ?_ | refine blk_alloc ?_ _)); exact BK292.out)) : gb293 ≠ gb292)); clear BK283; clear BK284; clear BK286; clear BK287; clear BK288; clear BK289; clear BK292; clear HB; have BK283 := n0_; have BK284 := n1_; have BK286 := n2_; have BK287 := n3_; have BK288 := n4_; have BK289 := n5_; have BK292 := n6_; have HB := n7_; have BK293 := n8_; have GW293 := n9_; have GE293 := n10_; have NB283_293 := n11_; have NB293_283 := n12_; have NB284_293 := n13_; have NB293_284 := n14_; have NB286_293 := n15_; have NB293_286 := n16_; have NB287_293 := n17_; have NB293_287 := n18_; have NB288_293 := n19_; have NB293_288 := n20_; have NB289_293 := n21_; have NB293_289 := n22_; have NB292_293 := n23_; have NB293_292 := n24_; clear n0_ n1_ n2_ n3_ n4_ n5_ n6_ n7_ n8_ n9_ n10_ n11_ n12_ n13_ n14_ n15_ n16_ n17_ n18_ n19_ n20_ n21_ n22_ n23_ n24_; clear hb hbox hg; have hnb40 := NB292_283.out; have hnc40 := NB283_292.out; have hnb41 := NB292_284.out; have hnc41 := NB284_292.out; have hnb42 := NB292_286.out; have hnc42 := NB286_292.out; have hnb43 := NB292_287.out; have hnc43 := NB287_292.out; have hnb44 := NB292_288.out; have hnc44 := NB288_292.out; have hnb45 := NB292_289.out; have hnc45 := NB289_292.out; have hnb46 := NB292_293.out; have hnc46 := NB293_292.out; have hcz47_0 : w39.cell? ⟨gb292, 0, none⟩ = some (.int .i64 0) := (blk_cell BK292.out 0).trans rfl; have hcz47_1 : w39.cell? ⟨gb292, 1, none⟩ = some (.int .i64 0) := (blk_cell BK292.out 1).trans rfl; have hcz47_2 : w39.cell? ⟨gb292, 2, none⟩ = some (.string (⟨#[]⟩ : ByteArray)) := (blk_cell BK292.out 2).trans rfl; have hcz47_3 : w39.cell? ⟨gb292, 3, none⟩ = some (.slice none 0 0) := (blk_cell BK292.out 3).trans rfl; have hcz47_4 : w39.cell? ⟨gb292, 4, none⟩ = some (.slice none 0 0) := (blk_cell BK292.out 4).trans rfl; have hfz47_0 := blk_frozen BK292.out 0; have hfz47_1 := blk_frozen BK292.out 1; have hfz47_2 := blk_frozen BK292.out 2; have hfz47_3 := blk_frozen BK292.out 3; have hfz47_4 := blk_frozen BK292.out 4; have hnb48 := NB293_283.out; have hnc48 := NB283_293.out; have hnb49 := NB293_284.out; have hnc49 := NB284_293.out; have hnb50 := NB293_286.out; have hnc50 := NB286_293.out; have hnb51 := NB293_287.out; have hnc51 := NB287_293.out; have hnb52 := NB293_288.out; have hnc52 := NB288_293.out; have hnb53 := NB293_289.out; have hnc53 := NB289_293.out; have hcz54_0 : w39.cell? ⟨gb293, 0, none⟩ = some (.int .i64 0) := (blk_cell BK293.out 0).trans rfl; have hcz54_1 : w39.cell? ⟨gb293, 1, none⟩ = some (.int .i64 0) := (blk_cell BK293.out 1).trans rfl; have hcz54_2 : w39.cell? ⟨gb293, 2, none⟩ = some (.string (⟨#[]⟩ : ByteArray)) := (blk_cell BK293.out 2).trans rfl; have hcz54_3 : w39.cell? ⟨gb293, 3, none⟩ = some (.slice none 0 0) := (blk_cell BK293.out 3).trans rfl; have hcz54_4 : w39.cell? ⟨gb293, 4, none⟩ = some (.slice none 0 0) := (blk_cell BK293.out 4).trans rfl; have hfz54_0 := blk_frozen BK293.out 0; have hfz54_1 := blk_frozen BK293.out 1; have hfz54_2 := blk_frozen BK293.out 2; have hfz54_3 := blk_frozen BK293.out 3; have hfz54_4 := blk_frozen BK293.out 4))
    (try simp only [Act.put, List.setIfInBounds_toArray, List.set_cons_zero, List.set_cons_succ])
    have m283_ := Aside0.mk (show ((((((((((w39.setCell ⟨gb292, 0, none⟩ (.int .i64 4)).setCell ⟨gb292, 1, none⟩ (.int .i64 0)).setCell ⟨gb292, 2, none⟩ (.string t290)).setCell ⟨gb292, 3, none⟩ (.slice none 0 0)).setCell ⟨gb292, 4, none⟩ (.slice none 0 0)).setCell ⟨gb293, 0, none⟩ (.int .i64 4)).setCell ⟨gb293, 1, none⟩ (.int .i64 0)).setCell ⟨gb293, 2, none⟩ (.string t291)).setCell ⟨gb293, 3, none⟩ (.slice none 0 0)).setCell ⟨gb293, 4, none⟩ (.slice none 0 0)).heap[gb283]? = some (.cells #[.int .i64 a0_0, .int .i64 a0_1] 35 (0, 0)) from (blk_far (blk_far (blk_far (blk_far (blk_far (blk_far (blk_far (blk_far (blk_far (blk_far BK283.out NB283_292.out _) NB283_292.out _) NB283_292.out _) NB283_292.out _) NB283_292.out _) NB283_293.out _) NB283_293.out _) NB283_293.out _) NB283_293.out _) NB283_293.out _))
    have m284_ := Aside0.mk (show ((((((((((w39.setCell ⟨gb292, 0, none⟩ (.int .i64 4)).setCell ⟨gb292, 1, none⟩ (.int .i64 0)).setCell ⟨gb292, 2, none⟩ (.string t290)).setCell ⟨gb292, 3, none⟩ (.slice none 0 0)).setCell ⟨gb292, 4, none⟩ (.slice none 0 0)).setCell ⟨gb293, 0, none⟩ (.int .i64 4)).setCell ⟨gb293, 1, none⟩ (.int .i64 0)).setCell ⟨gb293, 2, none⟩ (.string t291)).setCell ⟨gb293, 3, none⟩ (.slice none 0 0)).setCell ⟨gb293, 4, none⟩ (.slice none 0 0)).heap[gb284]? = some (.cells #[.int .u8 a1_0, .int .u8 a1_1, .int .u8 a1_2, .int .u8 a1_3, .int .u8 a1_4, .int .u8 a1_5] 37 (0, 0)) from (blk_far (blk_far (blk_far (blk_far (blk_far (blk_far (blk_far (blk_far (blk_far (blk_far BK284.out NB284_292.out _) NB284_292.out _) NB284_292.out _) NB284_292.out _) NB284_292.out _) NB284_293.out _) NB284_293.out _) NB284_293.out _) NB284_293.out _) NB284_293.out _))
    have m286_ := Aside0.mk (show ((((((((((w39.setCell ⟨gb292, 0, none⟩ (.int .i64 4)).setCell ⟨gb292, 1, none⟩ (.int .i64 0)).setCell ⟨gb292, 2, none⟩ (.string t290)).setCell ⟨gb292, 3, none⟩ (.slice none 0 0)).setCell ⟨gb292, 4, none⟩ (.slice none 0 0)).setCell ⟨gb293, 0, none⟩ (.int .i64 4)).setCell ⟨gb293, 1, none⟩ (.int .i64 0)).setCell ⟨gb293, 2, none⟩ (.string t291)).setCell ⟨gb293, 3, none⟩ (.slice none 0 0)).setCell ⟨gb293, 4, none⟩ (.slice none 0 0)).heap[gb286]? = some (.cells #[.int .u8 a1_0, .int .u8 a1_1, .int .u8 a1_2] 36 (0, 0)) from (blk_far (blk_far (blk_far (blk_far (blk_far (blk_far (blk_far (blk_far (blk_far (blk_far BK286.out NB286_292.out _) NB286_292.out _) NB286_292.out _) NB286_292.out _) NB286_292.out _) NB286_293.out _) NB286_293.out _) NB286_293.out _) NB286_293.out _) NB286_293.out _))
    have m287_ := Aside0.mk (show ((((((((((w39.setCell ⟨gb292, 0, none⟩ (.int .i64 4)).setCell ⟨gb292, 1, none⟩ (.int .i64 0)).setCell ⟨gb292, 2, none⟩ (.string t290)).setCell ⟨gb292, 3, none⟩ (.slice none 0 0)).setCell ⟨gb292, 4, none⟩ (.slice none 0 0)).setCell ⟨gb293, 0, none⟩ (.int .i64 4)).setCell ⟨gb293, 1, none⟩ (.int .i64 0)).setCell ⟨gb293, 2, none⟩ (.string t291)).setCell ⟨gb293, 3, none⟩ (.slice none 0 0)).setCell ⟨gb293, 4, none⟩ (.slice none 0 0)).heap[gb287]? = some (.cells #[.int .u8 a1_3, .int .u8 a1_4, .int .u8 a1_5] 36 (0, 0)) from (blk_far (blk_far (blk_far (blk_far (blk_far (blk_far (blk_far (blk_far (blk_far (blk_far BK287.out NB287_292.out _) NB287_292.out _) NB287_292.out _) NB287_292.out _) NB287_292.out _) NB287_293.out _) NB287_293.out _) NB287_293.out _) NB287_293.out _) NB287_293.out _))
    have m288_ := Aside0.mk (show ((((((((((w39.setCell ⟨gb292, 0, none⟩ (.int .i64 4)).setCell ⟨gb292, 1, none⟩ (.int .i64 0)).setCell ⟨gb292, 2, none⟩ (.string t290)).setCell ⟨gb292, 3, none⟩ (.slice none 0 0)).setCell ⟨gb292, 4, none⟩ (.slice none 0 0)).setCell ⟨gb293, 0, none⟩ (.int .i64 4)).setCell ⟨gb293, 1, none⟩ (.int .i64 0)).setCell ⟨gb293, 2, none⟩ (.string t291)).setCell ⟨gb293, 3, none⟩ (.slice none 0 0)).setCell ⟨gb293, 4, none⟩ (.slice none 0 0)).heap[gb288]? = some (.cells #[.int .i64 3, .int .i64 a0_0, .string (⟨#[]⟩ : ByteArray), .slice none 0 0, .slice none 0 0] 30 (0, 0)) from (blk_far (blk_far (blk_far (blk_far (blk_far (blk_far (blk_far (blk_far (blk_far (blk_far BK288.out NB288_292.out _) NB288_292.out _) NB288_292.out _) NB288_292.out _) NB288_292.out _) NB288_293.out _) NB288_293.out _) NB288_293.out _) NB288_293.out _) NB288_293.out _))
    have m289_ := Aside0.mk (show ((((((((((w39.setCell ⟨gb292, 0, none⟩ (.int .i64 4)).setCell ⟨gb292, 1, none⟩ (.int .i64 0)).setCell ⟨gb292, 2, none⟩ (.string t290)).setCell ⟨gb292, 3, none⟩ (.slice none 0 0)).setCell ⟨gb292, 4, none⟩ (.slice none 0 0)).setCell ⟨gb293, 0, none⟩ (.int .i64 4)).setCell ⟨gb293, 1, none⟩ (.int .i64 0)).setCell ⟨gb293, 2, none⟩ (.string t291)).setCell ⟨gb293, 3, none⟩ (.slice none 0 0)).setCell ⟨gb293, 4, none⟩ (.slice none 0 0)).heap[gb289]? = some (.cells #[.int .i64 3, .int .i64 a0_1, .string (⟨#[]⟩ : ByteArray), .slice none 0 0, .slice none 0 0] 30 (0, 0)) from (blk_far (blk_far (blk_far (blk_far (blk_far (blk_far (blk_far (blk_far (blk_far (blk_far BK289.out NB289_292.out _) NB289_292.out _) NB289_292.out _) NB289_292.out _) NB289_292.out _) NB289_293.out _) NB289_293.out _) NB289_293.out _) NB289_293.out _) NB289_293.out _))
    have m292_ := Aside0.mk (show ((((((((((w39.setCell ⟨gb292, 0, none⟩ (.int .i64 4)).setCell ⟨gb292, 1, none⟩ (.int .i64 0)).setCell ⟨gb292, 2, none⟩ (.string t290)).setCell ⟨gb292, 3, none⟩ (.slice none 0 0)).setCell ⟨gb292, 4, none⟩ (.slice none 0 0)).setCell ⟨gb293, 0, none⟩ (.int .i64 4)).setCell ⟨gb293, 1, none⟩ (.int .i64 0)).setCell ⟨gb293, 2, none⟩ (.string t291)).setCell ⟨gb293, 3, none⟩ (.slice none 0 0)).setCell ⟨gb293, 4, none⟩ (.slice none 0 0)).heap[gb292]? = some (.cells #[.int .i64 4, .int .i64 0, .string t290, .slice none 0 0, .slice none 0 0] 30 (0, 0)) from (blk_far (blk_far (blk_far (blk_far (blk_far (blk_put (blk_put (blk_put (blk_put (blk_put BK292.out 0 _ rfl) 1 _ rfl) 2 _ rfl) 3 _ rfl) 4 _ rfl) NB292_293.out _) NB292_293.out _) NB292_293.out _) NB292_293.out _) NB292_293.out _))
    have m293_ := Aside0.mk (show ((((((((((w39.setCell ⟨gb292, 0, none⟩ (.int .i64 4)).setCell ⟨gb292, 1, none⟩ (.int .i64 0)).setCell ⟨gb292, 2, none⟩ (.string t290)).setCell ⟨gb292, 3, none⟩ (.slice none 0 0)).setCell ⟨gb292, 4, none⟩ (.slice none 0 0)).setCell ⟨gb293, 0, none⟩ (.int .i64 4)).setCell ⟨gb293, 1, none⟩ (.int .i64 0)).setCell ⟨gb293, 2, none⟩ (.string t291)).setCell ⟨gb293, 3, none⟩ (.slice none 0 0)).setCell ⟨gb293, 4, none⟩ (.slice none 0 0)).heap[gb293]? = some (.cells #[.int .i64 4, .int .i64 0, .string t291, .slice none 0 0, .slice none 0 0] 30 (0, 0)) from (blk_put (blk_put (blk_put (blk_put (blk_put (blk_far (blk_far (blk_far (blk_far (blk_far BK293.out NB293_292.out _) NB293_292.out _) NB293_292.out _) NB293_292.out _) NB293_292.out _) 0 _ rfl) 1 _ rfl) 2 _ rfl) 3 _ rfl) 4 _ rfl))
    have mB_ := Aside0.mk (show Below w.heap.size w ((((((((((w39.setCell ⟨gb292, 0, none⟩ (.int .i64 4)).setCell ⟨gb292, 1, none⟩ (.int .i64 0)).setCell ⟨gb292, 2, none⟩ (.string t290)).setCell ⟨gb292, 3, none⟩ (.slice none 0 0)).setCell ⟨gb292, 4, none⟩ (.slice none 0 0)).setCell ⟨gb293, 0, none⟩ (.int .i64 4)).setCell ⟨gb293, 1, none⟩ (.int .i64 0)).setCell ⟨gb293, 2, none⟩ (.string t291)).setCell ⟨gb293, 3, none⟩ (.slice none 0 0)).setCell ⟨gb293, 4, none⟩ (.slice none 0 0)) from (below_set (below_set (below_set (below_set (below_set (below_set (below_set (below_set (below_set (below_set HB.out GE292.out) GE292.out) GE292.out) GE292.out) GE292.out) GE293.out) GE293.out) GE293.out) GE293.out) GE293.out))
    clear hcz47_0 hfz47_0 hcz54_0 hfz54_0 hcz47_1 hfz47_1 hcz54_1 hfz54_1 hcz47_2 hfz47_2 hcz54_2 hfz54_2 hcz47_3 hfz47_3 hcz54_3 hfz54_3 hcz47_4 hfz47_4 hcz54_4 hfz54_4 HB BK283 BK284 BK286 BK287 BK288 BK289 BK292 BK293
    generalize ((((((((((w39.setCell ⟨gb292, 0, none⟩ (.int .i64 4)).setCell ⟨gb292, 1, none⟩ (.int .i64 0)).setCell ⟨gb292, 2, none⟩ (.string t290)).setCell ⟨gb292, 3, none⟩ (.slice none 0 0)).setCell ⟨gb292, 4, none⟩ (.slice none 0 0)).setCell ⟨gb293, 0, none⟩ (.int .i64 4)).setCell ⟨gb293, 1, none⟩ (.int .i64 0)).setCell ⟨gb293, 2, none⟩ (.string t291)).setCell ⟨gb293, 3, none⟩ (.slice none 0 0)).setCell ⟨gb293, 4, none⟩ (.slice none 0 0)) = w39 at m283_ m284_ m286_ m287_ m288_ m289_ m292_ m293_ mB_ ⊢
    have BK283 := m283_
    have BK284 := m284_
    have BK286 := m286_
    have BK287 := m287_
    have BK288 := m288_
    have BK289 := m289_
    have BK292 := m292_
    have BK293 := m293_
    have HB := mB_
    clear m283_ m284_ m286_ m287_ m288_ m289_ m292_ m293_ mB_
    go_cut [60] (fun v60 wc => ∃ (kq : Nat) (x60_6 : Bool), v60 = .bool x60_6 ∧ Aside0 (munimentlaw03_OrderNumbers.j0 kq x60_6 3 a0_0 (⟨#[]⟩ : ByteArray) 4 0 t290 = some r) ∧ Aside0 (kq ≤ k) ∧ Aside0 (wc.heap[gb283]? = some (.cells #[.int .i64 a0_0, .int .i64 a0_1] 35 (0, 0))) ∧ Aside0 (wc.heap[gb284]? = some (.cells #[.int .u8 a1_0, .int .u8 a1_1, .int .u8 a1_2, .int .u8 a1_3, .int .u8 a1_4, .int .u8 a1_5] 37 (0, 0))) ∧ Aside0 (wc.heap[gb286]? = some (.cells #[.int .u8 a1_0, .int .u8 a1_1, .int .u8 a1_2] 36 (0, 0))) ∧ Aside0 (wc.heap[gb287]? = some (.cells #[.int .u8 a1_3, .int .u8 a1_4, .int .u8 a1_5] 36 (0, 0))) ∧ Aside0 (wc.heap[gb288]? = some (.cells #[.int .i64 3, .int .i64 a0_0, .string (⟨#[]⟩ : ByteArray), (.slice none 0 0), (.slice none 0 0)] 30 (0, 0))) ∧ Aside0 (wc.heap[gb289]? = some (.cells #[.int .i64 3, .int .i64 a0_1, .string (⟨#[]⟩ : ByteArray), (.slice none 0 0), (.slice none 0 0)] 30 (0, 0))) ∧ Aside0 (wc.heap[gb292]? = some (.cells #[.int .i64 4, .int .i64 0, .string t290, (.slice none 0 0), (.slice none 0 0)] 30 (0, 0))) ∧ Aside0 (wc.heap[gb293]? = some (.cells #[.int .i64 4, .int .i64 0, .string t291, (.slice none 0 0), (.slice none 0 0)] 30 (0, 0))) ∧ Aside0 (Below w.heap.size w wc))
    case first =>
      have H := HC7.out
      clear HC7
      replace H := Option.bind_eq_some_iff.mp H
      obtain ⟨t294, A550, H⟩ := H
      replace H : (if ((decide (t294 < 0)) != (decide (a0_0 < a0_1))) = true then (munimentlaw03_OrderNumbers.j0 k true 3 a0_0 (⟨#[]⟩ : ByteArray) 4 0 t290) else ((order_Compare.f k 4 0 t290 ([] : List ByteArray) ([] : List (S30)) 4 0 t291 ([] : List ByteArray) ([] : List (S30))).bind fun t295 => (if ((decide (t295 < 0)) != (Op.bytesLess t290.toList t291.toList)) = true then (munimentlaw03_OrderNumbers.j0 k true 3 a0_0 (⟨#[]⟩ : ByteArray) 4 0 t290) else ((order_Compare.f k 3 a0_0 (⟨#[]⟩ : ByteArray) ([] : List ByteArray) ([] : List (S30)) 4 0 t290 ([] : List ByteArray) ([] : List (S30))).bind fun t296 => (munimentlaw03_OrderNumbers.j0 k (t296 != (-1)) 3 a0_0 (⟨#[]⟩ : ByteArray) 4 0 t290))))) = some r := H
      have A55 := Aside0.mk A550
      clear A550
      by_cases c56 : ((decide (t294 < 0)) != (decide (a0_0 < a0_1))) = true
      · rw [if_pos c56] at H
        have c56b0 : ((decide (t294 < 0)) != (decide (a0_0 < a0_1))) = true := c56
        (try (have c56b1 : decide ((decide (t294 < 0)) = (decide (a0_0 < a0_1))) = false := by simpa using c56))
        (try (have c56b2 : ((decide (t294 < 0)) == (decide (a0_0 < a0_1))) = false := by simpa using c56))
        (try (have c56b3 : ¬ ((decide (t294 < 0)) = (decide (a0_0 < a0_1))) := by simpa using c56))
        clear c56
        (first | rw [c56b0] | (simp only [i64_w, i32_w]; rw [c56b0]) | skip)
        have H' := Aside0.mk H
        clear H
        have hnb57 := NB288_283.out
        have hnc57 := NB283_288.out
        have hnb58 := NB288_284.out
        have hnc58 := NB284_288.out
        have hnb59 := NB288_286.out
        have hnc59 := NB286_288.out
        have hnb60 := NB288_287.out
        have hnc60 := NB287_288.out
        have hnb61 := NB288_289.out
        have hnc61 := NB289_288.out
        have hnb62 := NB288_292.out
        have hnc62 := NB292_288.out
        have hnb63 := NB288_293.out
        have hnc63 := NB293_288.out
        have hcz64_0 : w39.cell? ⟨gb288, 0, none⟩ = some (.int .i64 3) := (blk_cell BK288.out 0).trans rfl
        have hcz64_1 : w39.cell? ⟨gb288, 1, none⟩ = some (.int .i64 a0_0) := (blk_cell BK288.out 1).trans rfl
        have hcz64_2 : w39.cell? ⟨gb288, 2, none⟩ = some (.string (⟨#[]⟩ : ByteArray)) := (blk_cell BK288.out 2).trans rfl
        have hcz64_3 : w39.cell? ⟨gb288, 3, none⟩ = some (.slice none 0 0) := (blk_cell BK288.out 3).trans rfl
        have hcz64_4 : w39.cell? ⟨gb288, 4, none⟩ = some (.slice none 0 0) := (blk_cell BK288.out 4).trans rfl
        have hfz64_0 := blk_frozen BK288.out 0
        have hfz64_1 := blk_frozen BK288.out 1
        have hfz64_2 := blk_frozen BK288.out 2
        have hfz64_3 := blk_frozen BK288.out 3
        have hfz64_4 := blk_frozen BK288.out 4
        have hnb65 := NB289_283.out
        have hnc65 := NB283_289.out
        have hnb66 := NB289_284.out
        have hnc66 := NB284_289.out
        have hnb67 := NB289_286.out
        have hnc67 := NB286_289.out
        have hnb68 := NB289_287.out
        have hnc68 := NB287_289.out
        have hnb69 := NB289_292.out
        have hnc69 := NB292_289.out
        have hnb70 := NB289_293.out
        have hnc70 := NB293_289.out
        have hcz71_0 : w39.cell? ⟨gb289, 0, none⟩ = some (.int .i64 3) := (blk_cell BK289.out 0).trans rfl
        have hcz71_1 : w39.cell? ⟨gb289, 1, none⟩ = some (.int .i64 a0_1) := (blk_cell BK289.out 1).trans rfl
        have hcz71_2 : w39.cell? ⟨gb289, 2, none⟩ = some (.string (⟨#[]⟩ : ByteArray)) := (blk_cell BK289.out 2).trans rfl
        have hcz71_3 : w39.cell? ⟨gb289, 3, none⟩ = some (.slice none 0 0) := (blk_cell BK289.out 3).trans rfl
        have hcz71_4 : w39.cell? ⟨gb289, 4, none⟩ = some (.slice none 0 0) := (blk_cell BK289.out 4).trans rfl
        have hfz71_0 := blk_frozen BK289.out 0
        have hfz71_1 := blk_frozen BK289.out 1
        have hfz71_2 := blk_frozen BK289.out 2
        have hfz71_3 := blk_frozen BK289.out 3
        have hfz71_4 := blk_frozen BK289.out 4
        go_wp2_with (first | ((with_reducible refine gate_callee (f := 17) rfl ?_); refine goesL_ (some 39) rfl rfl Tryd.func17 (by kernel_rfl) rfl #[.agg #[.int .i64 3, .int .i64 a0_0, .string (⟨#[]⟩ : ByteArray), .slice none 0 0, .slice none 0 0], .agg #[.int .i64 3, .int .i64 a0_1, .string (⟨#[]⟩ : ByteArray), .slice none 0 0, .slice none 0 0]] rfl (by (try simp only [List.map_toArray, List.map_cons, List.map_nil]); first | done | rfl | (simp only [List.length_drop, List.length_take]; rfl)) ?_; (refine (order_Compare.calls k 3 a0_0 (⟨#[]⟩ : ByteArray) _ _ ([] : List ByteArray) _ _ ([] : List (S30)) 3 a0_1 (⟨#[]⟩ : ByteArray) _ _ ([] : List ByteArray) _ _ ([] : List (S30)) t294 _ ?side1 ?side2 ?side3 ?side4 ?side5 ?side6 ?side7 ?side8 ?side9 A55.out).mono ?_); (case side1 => exact Kd.C_nil _ _); (case side2 => exact Nat.le_refl _); (case side3 => exact Kd.C_nil _ _); (case side4 => exact Nat.le_refl _); (case side5 => exact Kd.C_nil _ _); (case side6 => exact Nat.le_refl _); (case side7 => exact Kd.C_nil _ _); (case side8 => exact Nat.le_refl _); (case side9 => first | exact HT.out | (refine tabs_below HT.out ?_; repeat (first | exact HB.out | (with_reducible first | apply below_alloc | apply pw_below_drewN | apply below_drew1 | exact Below.refl _ _) | (refine below_set ?_ (Aside0.out (by assumption)))))); rintro e w72 ⟨rfl, hb⟩; refine ⟨_, rfl, ?_⟩; have n0_ := Aside0.mk (blk_below (g := gb283) (o := .cells #[.int .i64 a0_0, .int .i64 a0_1] 35 (0, 0)) (by (with_reducible repeat (first | refine blk_drewN ?_ _ | refine blk_drew ?_ | refine blk_alloc ?_ _)); exact BK283.out) hb); have n1_ := Aside0.mk (blk_below (g := gb284) (o := .cells #[.int .u8 a1_0, .int .u8 a1_1, .int .u8 a1_2, .int .u8 a1_3, .int .u8 a1_4, .int .u8 a1_5] 37 (0, 0)) (by (with_reducible repeat (first | refine blk_drewN ?_ _ | refine blk_drew ?_ | refine blk_alloc ?_ _)); exact BK284.out) hb); have n2_ := Aside0.mk (blk_below (g := gb286) (o := .cells #[.int .u8 a1_0, .int .u8 a1_1, .int .u8 a1_2] 36 (0, 0)) (by (with_reducible repeat (first | refine blk_drewN ?_ _ | refine blk_drew ?_ | refine blk_alloc ?_ _)); exact BK286.out) hb); have n3_ := Aside0.mk (blk_below (g := gb287) (o := .cells #[.int .u8 a1_3, .int .u8 a1_4, .int .u8 a1_5] 36 (0, 0)) (by (with_reducible repeat (first | refine blk_drewN ?_ _ | refine blk_drew ?_ | refine blk_alloc ?_ _)); exact BK287.out) hb); have n4_ := Aside0.mk (blk_below (g := gb288) (o := .cells #[.int .i64 3, .int .i64 a0_0, .string (⟨#[]⟩ : ByteArray), .slice none 0 0, .slice none 0 0] 30 (0, 0)) (by (with_reducible repeat (first | refine blk_drewN ?_ _ | refine blk_drew ?_ | refine blk_alloc ?_ _)); exact BK288.out) hb); have n5_ := Aside0.mk (blk_below (g := gb289) (o := .cells #[.int .i64 3, .int .i64 a0_1, .string (⟨#[]⟩ : ByteArray), .slice none 0 0, .slice none 0 0] 30 (0, 0)) (by (with_reducible repeat (first | refine blk_drewN ?_ _ | refine blk_drew ?_ | refine blk_alloc ?_ _)); exact BK289.out) hb); have n6_ := Aside0.mk (blk_below (g := gb292) (o := .cells #[.int .i64 4, .int .i64 0, .string t290, .slice none 0 0, .slice none 0 0] 30 (0, 0)) (by (with_reducible repeat (first | refine blk_drewN ?_ _ | refine blk_drew ?_ | refine blk_alloc ?_ _)); exact BK292.out) hb); have n7_ := Aside0.mk (blk_below (g := gb293) (o := .cells #[.int .i64 4, .int .i64 0, .string t291, .slice none 0 0, .slice none 0 0] 30 (0, 0)) (by (with_reducible repeat (first | refine blk_drewN ?_ _ | refine blk_drew ?_ | refine blk_alloc ?_ _)); exact BK293.out) hb); have n8_ := Aside0.mk (below_step (by repeat (first | (with_reducible first | exact HB.out | apply below_alloc | apply pw_below_drewN | apply below_drew1 | refine below_set ?_ GE283.out | refine below_set ?_ GE284.out | refine below_set ?_ GE286.out | refine below_set ?_ GE287.out | refine below_set ?_ GE288.out | refine below_set ?_ GE289.out | refine below_set ?_ GE292.out | refine below_set ?_ GE293.out) | exact HB.out)) hb); clear BK283; clear BK284; clear BK286; clear BK287; clear BK288; clear BK289; clear BK292; clear BK293; clear HB; have BK283 := n0_; have BK284 := n1_; have BK286 := n2_; have BK287 := n3_; have BK288 := n4_; have BK289 := n5_; have BK292 := n6_; have BK293 := n7_; have HB := n8_; clear n0_ n1_ n2_ n3_ n4_ n5_ n6_ n7_ n8_; (try clear hb); (try clear hb2); (try clear hk); (try clear hi); (try clear A55)))
        go_meet
        case rel => exact ⟨_, (true), (by first | rfl | (simp; done) | (simp [*]; done)), H', ⟨by first | omega | exact Nat.le_refl _⟩, ⟨by (with_reducible repeat (first | refine blk_drewN ?_ _ | refine blk_drew ?_ | refine blk_alloc ?_ _)); exact BK283.out⟩, ⟨by (with_reducible repeat (first | refine blk_drewN ?_ _ | refine blk_drew ?_ | refine blk_alloc ?_ _)); exact BK284.out⟩, ⟨by (with_reducible repeat (first | refine blk_drewN ?_ _ | refine blk_drew ?_ | refine blk_alloc ?_ _)); exact BK286.out⟩, ⟨by (with_reducible repeat (first | refine blk_drewN ?_ _ | refine blk_drew ?_ | refine blk_alloc ?_ _)); exact BK287.out⟩, ⟨by (with_reducible repeat (first | refine blk_drewN ?_ _ | refine blk_drew ?_ | refine blk_alloc ?_ _)); exact BK288.out⟩, ⟨by (with_reducible repeat (first | refine blk_drewN ?_ _ | refine blk_drew ?_ | refine blk_alloc ?_ _)); exact BK289.out⟩, ⟨by (with_reducible repeat (first | refine blk_drewN ?_ _ | refine blk_drew ?_ | refine blk_alloc ?_ _)); exact BK292.out⟩, ⟨by (with_reducible repeat (first | refine blk_drewN ?_ _ | refine blk_drew ?_ | refine blk_alloc ?_ _)); exact BK293.out⟩, ⟨by repeat (first | (with_reducible first | exact HB.out | apply below_alloc | apply pw_below_drewN | apply below_drew1 | refine below_set ?_ GE283.out | refine below_set ?_ GE284.out | refine below_set ?_ GE286.out | refine below_set ?_ GE287.out | refine below_set ?_ GE288.out | refine below_set ?_ GE289.out | refine below_set ?_ GE292.out | refine below_set ?_ GE293.out) | exact HB.out)⟩⟩
      · rw [if_neg c56] at H
        have c56b0 : ((decide (t294 < 0)) != (decide (a0_0 < a0_1))) = false := by simpa using c56
        (try (have c56b1 : decide ((decide (t294 < 0)) = (decide (a0_0 < a0_1))) = true := by simpa using c56))
        (try (have c56b2 : ((decide (t294 < 0)) == (decide (a0_0 < a0_1))) = true := by simpa using c56))
        clear c56
        (first | rw [c56b0] | (simp only [i64_w, i32_w]; rw [c56b0]) | skip)
        replace H := Option.bind_eq_some_iff.mp H
        obtain ⟨t295, A730, H⟩ := H
        replace H : (if ((decide (t295 < 0)) != (Op.bytesLess t290.toList t291.toList)) = true then (munimentlaw03_OrderNumbers.j0 k true 3 a0_0 (⟨#[]⟩ : ByteArray) 4 0 t290) else ((order_Compare.f k 3 a0_0 (⟨#[]⟩ : ByteArray) ([] : List ByteArray) ([] : List (S30)) 4 0 t290 ([] : List ByteArray) ([] : List (S30))).bind fun t296 => (munimentlaw03_OrderNumbers.j0 k (t296 != (-1)) 3 a0_0 (⟨#[]⟩ : ByteArray) 4 0 t290))) = some r := H
        have A73 := Aside0.mk A730
        clear A730
        by_cases c74 : ((decide (t295 < 0)) != (Op.bytesLess t290.toList t291.toList)) = true
        · rw [if_pos c74] at H
          have c74b0 : ((decide (t295 < 0)) != (Op.bytesLess t290.toList t291.toList)) = true := c74
          (try (have c74b1 : decide ((decide (t295 < 0)) = (Op.bytesLess t290.toList t291.toList)) = false := by simpa using c74))
          (try (have c74b2 : ((decide (t295 < 0)) == (Op.bytesLess t290.toList t291.toList)) = false := by simpa using c74))
          (try (have c74b3 : ¬ ((decide (t295 < 0)) = (Op.bytesLess t290.toList t291.toList)) := by simpa using c74))
          clear c74
          have H' := Aside0.mk H
          clear H
          have hnb75 := NB288_283.out
          have hnc75 := NB283_288.out
          have hnb76 := NB288_284.out
          have hnc76 := NB284_288.out
          have hnb77 := NB288_286.out
          have hnc77 := NB286_288.out
          have hnb78 := NB288_287.out
          have hnc78 := NB287_288.out
          have hnb79 := NB288_289.out
          have hnc79 := NB289_288.out
          have hnb80 := NB288_292.out
          have hnc80 := NB292_288.out
          have hnb81 := NB288_293.out
          have hnc81 := NB293_288.out
          have hcz82_0 : w39.cell? ⟨gb288, 0, none⟩ = some (.int .i64 3) := (blk_cell BK288.out 0).trans rfl
          have hcz82_1 : w39.cell? ⟨gb288, 1, none⟩ = some (.int .i64 a0_0) := (blk_cell BK288.out 1).trans rfl
          have hcz82_2 : w39.cell? ⟨gb288, 2, none⟩ = some (.string (⟨#[]⟩ : ByteArray)) := (blk_cell BK288.out 2).trans rfl
          have hcz82_3 : w39.cell? ⟨gb288, 3, none⟩ = some (.slice none 0 0) := (blk_cell BK288.out 3).trans rfl
          have hcz82_4 : w39.cell? ⟨gb288, 4, none⟩ = some (.slice none 0 0) := (blk_cell BK288.out 4).trans rfl
          have hfz82_0 := blk_frozen BK288.out 0
          have hfz82_1 := blk_frozen BK288.out 1
          have hfz82_2 := blk_frozen BK288.out 2
          have hfz82_3 := blk_frozen BK288.out 3
          have hfz82_4 := blk_frozen BK288.out 4
          have hnb83 := NB289_283.out
          have hnc83 := NB283_289.out
          have hnb84 := NB289_284.out
          have hnc84 := NB284_289.out
          have hnb85 := NB289_286.out
          have hnc85 := NB286_289.out
          have hnb86 := NB289_287.out
          have hnc86 := NB287_289.out
          have hnb87 := NB289_292.out
          have hnc87 := NB292_289.out
          have hnb88 := NB289_293.out
          have hnc88 := NB293_289.out
          have hcz89_0 : w39.cell? ⟨gb289, 0, none⟩ = some (.int .i64 3) := (blk_cell BK289.out 0).trans rfl
          have hcz89_1 : w39.cell? ⟨gb289, 1, none⟩ = some (.int .i64 a0_1) := (blk_cell BK289.out 1).trans rfl
          have hcz89_2 : w39.cell? ⟨gb289, 2, none⟩ = some (.string (⟨#[]⟩ : ByteArray)) := (blk_cell BK289.out 2).trans rfl
          have hcz89_3 : w39.cell? ⟨gb289, 3, none⟩ = some (.slice none 0 0) := (blk_cell BK289.out 3).trans rfl
          have hcz89_4 : w39.cell? ⟨gb289, 4, none⟩ = some (.slice none 0 0) := (blk_cell BK289.out 4).trans rfl
          have hfz89_0 := blk_frozen BK289.out 0
          have hfz89_1 := blk_frozen BK289.out 1
          have hfz89_2 := blk_frozen BK289.out 2
          have hfz89_3 := blk_frozen BK289.out 3
          have hfz89_4 := blk_frozen BK289.out 4
          go_wp2_with (first | ((with_reducible refine gate_callee (f := 17) rfl ?_); refine goesL_ (some 39) rfl rfl Tryd.func17 (by kernel_rfl) rfl #[.agg #[.int .i64 3, .int .i64 a0_0, .string (⟨#[]⟩ : ByteArray), .slice none 0 0, .slice none 0 0], .agg #[.int .i64 3, .int .i64 a0_1, .string (⟨#[]⟩ : ByteArray), .slice none 0 0, .slice none 0 0]] rfl (by (try simp only [List.map_toArray, List.map_cons, List.map_nil]); first | done | rfl | (simp only [List.length_drop, List.length_take]; rfl)) ?_; (refine (order_Compare.calls k 3 a0_0 (⟨#[]⟩ : ByteArray) _ _ ([] : List ByteArray) _ _ ([] : List (S30)) 3 a0_1 (⟨#[]⟩ : ByteArray) _ _ ([] : List ByteArray) _ _ ([] : List (S30)) t294 _ ?side1 ?side2 ?side3 ?side4 ?side5 ?side6 ?side7 ?side8 ?side9 A55.out).mono ?_); (case side1 => exact Kd.C_nil _ _); (case side2 => exact Nat.le_refl _); (case side3 => exact Kd.C_nil _ _); (case side4 => exact Nat.le_refl _); (case side5 => exact Kd.C_nil _ _); (case side6 => exact Nat.le_refl _); (case side7 => exact Kd.C_nil _ _); (case side8 => exact Nat.le_refl _); (case side9 => first | exact HT.out | (refine tabs_below HT.out ?_; repeat (first | exact HB.out | (with_reducible first | apply below_alloc | apply pw_below_drewN | apply below_drew1 | exact Below.refl _ _) | (refine below_set ?_ (Aside0.out (by assumption)))))); rintro e w90 ⟨rfl, hb⟩; refine ⟨_, rfl, ?_⟩; have n0_ := Aside0.mk (blk_below (g := gb283) (o := .cells #[.int .i64 a0_0, .int .i64 a0_1] 35 (0, 0)) (by (with_reducible repeat (first | refine blk_drewN ?_ _ | refine blk_drew ?_ | refine blk_alloc ?_ _)); exact BK283.out) hb); have n1_ := Aside0.mk (blk_below (g := gb284) (o := .cells #[.int .u8 a1_0, .int .u8 a1_1, .int .u8 a1_2, .int .u8 a1_3, .int .u8 a1_4, .int .u8 a1_5] 37 (0, 0)) (by (with_reducible repeat (first | refine blk_drewN ?_ _ | refine blk_drew ?_ | refine blk_alloc ?_ _)); exact BK284.out) hb); have n2_ := Aside0.mk (blk_below (g := gb286) (o := .cells #[.int .u8 a1_0, .int .u8 a1_1, .int .u8 a1_2] 36 (0, 0)) (by (with_reducible repeat (first | refine blk_drewN ?_ _ | refine blk_drew ?_ | refine blk_alloc ?_ _)); exact BK286.out) hb); have n3_ := Aside0.mk (blk_below (g := gb287) (o := .cells #[.int .u8 a1_3, .int .u8 a1_4, .int .u8 a1_5] 36 (0, 0)) (by (with_reducible repeat (first | refine blk_drewN ?_ _ | refine blk_drew ?_ | refine blk_alloc ?_ _)); exact BK287.out) hb); have n4_ := Aside0.mk (blk_below (g := gb288) (o := .cells #[.int .i64 3, .int .i64 a0_0, .string (⟨#[]⟩ : ByteArray), .slice none 0 0, .slice none 0 0] 30 (0, 0)) (by (with_reducible repeat (first | refine blk_drewN ?_ _ | refine blk_drew ?_ | refine blk_alloc ?_ _)); exact BK288.out) hb); have n5_ := Aside0.mk (blk_below (g := gb289) (o := .cells #[.int .i64 3, .int .i64 a0_1, .string (⟨#[]⟩ : ByteArray), .slice none 0 0, .slice none 0 0] 30 (0, 0)) (by (with_reducible repeat (first | refine blk_drewN ?_ _ | refine blk_drew ?_ | refine blk_alloc ?_ _)); exact BK289.out) hb); have n6_ := Aside0.mk (blk_below (g := gb292) (o := .cells #[.int .i64 4, .int .i64 0, .string t290, .slice none 0 0, .slice none 0 0] 30 (0, 0)) (by (with_reducible repeat (first | refine blk_drewN ?_ _ | refine blk_drew ?_ | refine blk_alloc ?_ _)); exact BK292.out) hb); have n7_ := Aside0.mk (blk_below (g := gb293) (o := .cells #[.int .i64 4, .int .i64 0, .string t291, .slice none 0 0, .slice none 0 0] 30 (0, 0)) (by (with_reducible repeat (first | refine blk_drewN ?_ _ | refine blk_drew ?_ | refine blk_alloc ?_ _)); exact BK293.out) hb); have n8_ := Aside0.mk (below_step (by repeat (first | (with_reducible first | exact HB.out | apply below_alloc | apply pw_below_drewN | apply below_drew1 | refine below_set ?_ GE283.out | refine below_set ?_ GE284.out | refine below_set ?_ GE286.out | refine below_set ?_ GE287.out | refine below_set ?_ GE288.out | refine below_set ?_ GE289.out | refine below_set ?_ GE292.out | refine below_set ?_ GE293.out) | exact HB.out)) hb); clear BK283; clear BK284; clear BK286; clear BK287; clear BK288; clear BK289; clear BK292; clear BK293; clear HB; have BK283 := n0_; have BK284 := n1_; have BK286 := n2_; have BK287 := n3_; have BK288 := n4_; have BK289 := n5_; have BK292 := n6_; have BK293 := n7_; have HB := n8_; clear n0_ n1_ n2_ n3_ n4_ n5_ n6_ n7_ n8_; (try clear hb); (try clear hb2); (try clear hk); (try clear hi); (try clear A55); have hnb91 := NB292_283.out; have hnc91 := NB283_292.out; have hnb92 := NB292_284.out; have hnc92 := NB284_292.out; have hnb93 := NB292_286.out; have hnc93 := NB286_292.out; have hnb94 := NB292_287.out; have hnc94 := NB287_292.out; have hnb95 := NB292_293.out; have hnc95 := NB293_292.out; have hcz96_0 : w90.cell? ⟨gb292, 0, none⟩ = some (.int .i64 4) := (blk_cell BK292.out 0).trans rfl; have hcz96_1 : w90.cell? ⟨gb292, 1, none⟩ = some (.int .i64 0) := (blk_cell BK292.out 1).trans rfl; have hcz96_2 : w90.cell? ⟨gb292, 2, none⟩ = some (.string t290) := (blk_cell BK292.out 2).trans rfl; have hcz96_3 : w90.cell? ⟨gb292, 3, none⟩ = some (.slice none 0 0) := (blk_cell BK292.out 3).trans rfl; have hcz96_4 : w90.cell? ⟨gb292, 4, none⟩ = some (.slice none 0 0) := (blk_cell BK292.out 4).trans rfl; have hfz96_0 := blk_frozen BK292.out 0; have hfz96_1 := blk_frozen BK292.out 1; have hfz96_2 := blk_frozen BK292.out 2; have hfz96_3 := blk_frozen BK292.out 3; have hfz96_4 := blk_frozen BK292.out 4; have hnb97 := NB293_283.out; have hnc97 := NB283_293.out; have hnb98 := NB293_284.out; have hnc98 := NB284_293.out; have hnb99 := NB293_286.out; have hnc99 := NB286_293.out; have hnb100 := NB293_287.out; have hnc100 := NB287_293.out; have hcz101_0 : w90.cell? ⟨gb293, 0, none⟩ = some (.int .i64 4) := (blk_cell BK293.out 0).trans rfl; have hcz101_1 : w90.cell? ⟨gb293, 1, none⟩ = some (.int .i64 0) := (blk_cell BK293.out 1).trans rfl; have hcz101_2 : w90.cell? ⟨gb293, 2, none⟩ = some (.string t291) := (blk_cell BK293.out 2).trans rfl; have hcz101_3 : w90.cell? ⟨gb293, 3, none⟩ = some (.slice none 0 0) := (blk_cell BK293.out 3).trans rfl; have hcz101_4 : w90.cell? ⟨gb293, 4, none⟩ = some (.slice none 0 0) := (blk_cell BK293.out 4).trans rfl; have hfz101_0 := blk_frozen BK293.out 0; have hfz101_1 := blk_frozen BK293.out 1; have hfz101_2 := blk_frozen BK293.out 2; have hfz101_3 := blk_frozen BK293.out 3; have hfz101_4 := blk_frozen BK293.out 4) | (go_at_call 17; (refine (order_Compare.calls k 4 0 t290 _ _ ([] : List ByteArray) _ _ ([] : List (S30)) 4 0 t291 _ _ ([] : List ByteArray) _ _ ([] : List (S30)) t295 _ ?side1 ?side2 ?side3 ?side4 ?side5 ?side6 ?side7 ?side8 ?side9 A73.out).mono ?_); (case side1 => exact Kd.C_nil _ _); (case side2 => exact Nat.le_refl _); (case side3 => exact Kd.C_nil _ _); (case side4 => exact Nat.le_refl _); (case side5 => exact Kd.C_nil _ _); (case side6 => exact Nat.le_refl _); (case side7 => exact Kd.C_nil _ _); (case side8 => exact Nat.le_refl _); (case side9 => first | exact HT.out | (refine tabs_below HT.out ?_; repeat (first | exact HB.out | (with_reducible first | apply below_alloc | apply pw_below_drewN | apply below_drew1 | exact Below.refl _ _) | (refine below_set ?_ (Aside0.out (by assumption)))))); rintro e w102 ⟨rfl, hb⟩; have n0_ := Aside0.mk (blk_below (g := gb283) (o := .cells #[.int .i64 a0_0, .int .i64 a0_1] 35 (0, 0)) (by (with_reducible repeat (first | refine blk_drewN ?_ _ | refine blk_drew ?_ | refine blk_alloc ?_ _)); exact BK283.out) hb); have n1_ := Aside0.mk (blk_below (g := gb284) (o := .cells #[.int .u8 a1_0, .int .u8 a1_1, .int .u8 a1_2, .int .u8 a1_3, .int .u8 a1_4, .int .u8 a1_5] 37 (0, 0)) (by (with_reducible repeat (first | refine blk_drewN ?_ _ | refine blk_drew ?_ | refine blk_alloc ?_ _)); exact BK284.out) hb); have n2_ := Aside0.mk (blk_below (g := gb286) (o := .cells #[.int .u8 a1_0, .int .u8 a1_1, .int .u8 a1_2] 36 (0, 0)) (by (with_reducible repeat (first | refine blk_drewN ?_ _ | refine blk_drew ?_ | refine blk_alloc ?_ _)); exact BK286.out) hb); have n3_ := Aside0.mk (blk_below (g := gb287) (o := .cells #[.int .u8 a1_3, .int .u8 a1_4, .int .u8 a1_5] 36 (0, 0)) (by (with_reducible repeat (first | refine blk_drewN ?_ _ | refine blk_drew ?_ | refine blk_alloc ?_ _)); exact BK287.out) hb); have n4_ := Aside0.mk (blk_below (g := gb288) (o := .cells #[.int .i64 3, .int .i64 a0_0, .string (⟨#[]⟩ : ByteArray), .slice none 0 0, .slice none 0 0] 30 (0, 0)) (by (with_reducible repeat (first | refine blk_drewN ?_ _ | refine blk_drew ?_ | refine blk_alloc ?_ _)); exact BK288.out) hb); have n5_ := Aside0.mk (blk_below (g := gb289) (o := .cells #[.int .i64 3, .int .i64 a0_1, .string (⟨#[]⟩ : ByteArray), .slice none 0 0, .slice none 0 0] 30 (0, 0)) (by (with_reducible repeat (first | refine blk_drewN ?_ _ | refine blk_drew ?_ | refine blk_alloc ?_ _)); exact BK289.out) hb); have n6_ := Aside0.mk (blk_below (g := gb292) (o := .cells #[.int .i64 4, .int .i64 0, .string t290, .slice none 0 0, .slice none 0 0] 30 (0, 0)) (by (with_reducible repeat (first | refine blk_drewN ?_ _ | refine blk_drew ?_ | refine blk_alloc ?_ _)); exact BK292.out) hb); have n7_ := Aside0.mk (blk_below (g := gb293) (o := .cells #[.int .i64 4, .int .i64 0, .string t291, .slice none 0 0, .slice none 0 0] 30 (0, 0)) (by (with_reducible repeat (first | refine blk_drewN ?_ _ | refine blk_drew ?_ | refine blk_alloc ?_ _)); exact BK293.out) hb); have n8_ := Aside0.mk (below_step (by repeat (first | (with_reducible first | exact HB.out | apply below_alloc | apply pw_below_drewN | apply below_drew1 | refine below_set ?_ GE283.out | refine below_set ?_ GE284.out | refine below_set ?_ GE286.out | refine below_set ?_ GE287.out | refine below_set ?_ GE288.out | refine below_set ?_ GE289.out | refine below_set ?_ GE292.out | refine below_set ?_ GE293.out) | exact HB.out)) hb); clear BK283; clear BK284; clear BK286; clear BK287; clear BK288; clear BK289; clear BK292; clear BK293; clear HB; have BK283 := n0_; have BK284 := n1_; have BK286 := n2_; have BK287 := n3_; have BK288 := n4_; have BK289 := n5_; have BK292 := n6_; have BK293 := n7_; have HB := n8_; clear n0_ n1_ n2_ n3_ n4_ n5_ n6_ n7_ n8_; (try clear hb); (try clear hb2); (try clear hk); (try clear hi); (try clear A73)))
          go_meet
          case rel => exact ⟨_, (true), (by first | rfl | (simp; done) | (simp [*]; done)), H', ⟨by first | omega | exact Nat.le_refl _⟩, ⟨by (with_reducible repeat (first | refine blk_drewN ?_ _ | refine blk_drew ?_ | refine blk_alloc ?_ _)); exact BK283.out⟩, ⟨by (with_reducible repeat (first | refine blk_drewN ?_ _ | refine blk_drew ?_ | refine blk_alloc ?_ _)); exact BK284.out⟩, ⟨by (with_reducible repeat (first | refine blk_drewN ?_ _ | refine blk_drew ?_ | refine blk_alloc ?_ _)); exact BK286.out⟩, ⟨by (with_reducible repeat (first | refine blk_drewN ?_ _ | refine blk_drew ?_ | refine blk_alloc ?_ _)); exact BK287.out⟩, ⟨by (with_reducible repeat (first | refine blk_drewN ?_ _ | refine blk_drew ?_ | refine blk_alloc ?_ _)); exact BK288.out⟩, ⟨by (with_reducible repeat (first | refine blk_drewN ?_ _ | refine blk_drew ?_ | refine blk_alloc ?_ _)); exact BK289.out⟩, ⟨by (with_reducible repeat (first | refine blk_drewN ?_ _ | refine blk_drew ?_ | refine blk_alloc ?_ _)); exact BK292.out⟩, ⟨by (with_reducible repeat (first | refine blk_drewN ?_ _ | refine blk_drew ?_ | refine blk_alloc ?_ _)); exact BK293.out⟩, ⟨by repeat (first | (with_reducible first | exact HB.out | apply below_alloc | apply pw_below_drewN | apply below_drew1 | refine below_set ?_ GE283.out | refine below_set ?_ GE284.out | refine below_set ?_ GE286.out | refine below_set ?_ GE287.out | refine below_set ?_ GE288.out | refine below_set ?_ GE289.out | refine below_set ?_ GE292.out | refine below_set ?_ GE293.out) | exact HB.out)⟩⟩
        · rw [if_neg c74] at H
          have c74b0 : ((decide (t295 < 0)) != (Op.bytesLess t290.toList t291.toList)) = false := by simpa using c74
          (try (have c74b1 : decide ((decide (t295 < 0)) = (Op.bytesLess t290.toList t291.toList)) = true := by simpa using c74))
          (try (have c74b2 : ((decide (t295 < 0)) == (Op.bytesLess t290.toList t291.toList)) = true := by simpa using c74))
          clear c74
          replace H := Option.bind_eq_some_iff.mp H
          obtain ⟨t296, A1030, H⟩ := H
          replace H : (munimentlaw03_OrderNumbers.j0 k (t296 != (-1)) 3 a0_0 (⟨#[]⟩ : ByteArray) 4 0 t290) = some r := H
          have A103 := Aside0.mk A1030
          clear A1030
          have H' := Aside0.mk H
          clear H
          have hnb104 := NB288_283.out
          have hnc104 := NB283_288.out
          have hnb105 := NB288_284.out
          have hnc105 := NB284_288.out
          have hnb106 := NB288_286.out
          have hnc106 := NB286_288.out
          have hnb107 := NB288_287.out
          have hnc107 := NB287_288.out
          have hnb108 := NB288_289.out
          have hnc108 := NB289_288.out
          have hnb109 := NB288_292.out
          have hnc109 := NB292_288.out
          have hnb110 := NB288_293.out
          have hnc110 := NB293_288.out
          have hcz111_0 : w39.cell? ⟨gb288, 0, none⟩ = some (.int .i64 3) := (blk_cell BK288.out 0).trans rfl
          have hcz111_1 : w39.cell? ⟨gb288, 1, none⟩ = some (.int .i64 a0_0) := (blk_cell BK288.out 1).trans rfl
          have hcz111_2 : w39.cell? ⟨gb288, 2, none⟩ = some (.string (⟨#[]⟩ : ByteArray)) := (blk_cell BK288.out 2).trans rfl
          have hcz111_3 : w39.cell? ⟨gb288, 3, none⟩ = some (.slice none 0 0) := (blk_cell BK288.out 3).trans rfl
          have hcz111_4 : w39.cell? ⟨gb288, 4, none⟩ = some (.slice none 0 0) := (blk_cell BK288.out 4).trans rfl
          have hfz111_0 := blk_frozen BK288.out 0
          have hfz111_1 := blk_frozen BK288.out 1
          have hfz111_2 := blk_frozen BK288.out 2
          have hfz111_3 := blk_frozen BK288.out 3
          have hfz111_4 := blk_frozen BK288.out 4
          have hnb112 := NB289_283.out
          have hnc112 := NB283_289.out
          have hnb113 := NB289_284.out
          have hnc113 := NB284_289.out
          have hnb114 := NB289_286.out
          have hnc114 := NB286_289.out
          have hnb115 := NB289_287.out
          have hnc115 := NB287_289.out
          have hnb116 := NB289_292.out
          have hnc116 := NB292_289.out
          have hnb117 := NB289_293.out
          have hnc117 := NB293_289.out
          have hcz118_0 : w39.cell? ⟨gb289, 0, none⟩ = some (.int .i64 3) := (blk_cell BK289.out 0).trans rfl
          have hcz118_1 : w39.cell? ⟨gb289, 1, none⟩ = some (.int .i64 a0_1) := (blk_cell BK289.out 1).trans rfl
          have hcz118_2 : w39.cell? ⟨gb289, 2, none⟩ = some (.string (⟨#[]⟩ : ByteArray)) := (blk_cell BK289.out 2).trans rfl
          have hcz118_3 : w39.cell? ⟨gb289, 3, none⟩ = some (.slice none 0 0) := (blk_cell BK289.out 3).trans rfl
          have hcz118_4 : w39.cell? ⟨gb289, 4, none⟩ = some (.slice none 0 0) := (blk_cell BK289.out 4).trans rfl
          have hfz118_0 := blk_frozen BK289.out 0
          have hfz118_1 := blk_frozen BK289.out 1
          have hfz118_2 := blk_frozen BK289.out 2
          have hfz118_3 := blk_frozen BK289.out 3
          have hfz118_4 := blk_frozen BK289.out 4
          go_wp2_with (first | ((with_reducible refine gate_callee (f := 17) rfl ?_); refine goesL_ (some 39) rfl rfl Tryd.func17 (by kernel_rfl) rfl #[.agg #[.int .i64 3, .int .i64 a0_0, .string (⟨#[]⟩ : ByteArray), .slice none 0 0, .slice none 0 0], .agg #[.int .i64 3, .int .i64 a0_1, .string (⟨#[]⟩ : ByteArray), .slice none 0 0, .slice none 0 0]] rfl (by (try simp only [List.map_toArray, List.map_cons, List.map_nil]); first | done | rfl | (simp only [List.length_drop, List.length_take]; rfl)) ?_; (refine (order_Compare.calls k 3 a0_0 (⟨#[]⟩ : ByteArray) _ _ ([] : List ByteArray) _ _ ([] : List (S30)) 3 a0_1 (⟨#[]⟩ : ByteArray) _ _ ([] : List ByteArray) _ _ ([] : List (S30)) t294 _ ?side1 ?side2 ?side3 ?side4 ?side5 ?side6 ?side7 ?side8 ?side9 A55.out).mono ?_); (case side1 => exact Kd.C_nil _ _); (case side2 => exact Nat.le_refl _); (case side3 => exact Kd.C_nil _ _); (case side4 => exact Nat.le_refl _); (case side5 => exact Kd.C_nil _ _); (case side6 => exact Nat.le_refl _); (case side7 => exact Kd.C_nil _ _); (case side8 => exact Nat.le_refl _); (case side9 => first | exact HT.out | (refine tabs_below HT.out ?_; repeat (first | exact HB.out | (with_reducible first | apply below_alloc | apply pw_below_drewN | apply below_drew1 | exact Below.refl _ _) | (refine below_set ?_ (Aside0.out (by assumption)))))); rintro e w119 ⟨rfl, hb⟩; refine ⟨_, rfl, ?_⟩; have n0_ := Aside0.mk (blk_below (g := gb283) (o := .cells #[.int .i64 a0_0, .int .i64 a0_1] 35 (0, 0)) (by (with_reducible repeat (first | refine blk_drewN ?_ _ | refine blk_drew ?_ | refine blk_alloc ?_ _)); exact BK283.out) hb); have n1_ := Aside0.mk (blk_below (g := gb284) (o := .cells #[.int .u8 a1_0, .int .u8 a1_1, .int .u8 a1_2, .int .u8 a1_3, .int .u8 a1_4, .int .u8 a1_5] 37 (0, 0)) (by (with_reducible repeat (first | refine blk_drewN ?_ _ | refine blk_drew ?_ | refine blk_alloc ?_ _)); exact BK284.out) hb); have n2_ := Aside0.mk (blk_below (g := gb286) (o := .cells #[.int .u8 a1_0, .int .u8 a1_1, .int .u8 a1_2] 36 (0, 0)) (by (with_reducible repeat (first | refine blk_drewN ?_ _ | refine blk_drew ?_ | refine blk_alloc ?_ _)); exact BK286.out) hb); have n3_ := Aside0.mk (blk_below (g := gb287) (o := .cells #[.int .u8 a1_3, .int .u8 a1_4, .int .u8 a1_5] 36 (0, 0)) (by (with_reducible repeat (first | refine blk_drewN ?_ _ | refine blk_drew ?_ | refine blk_alloc ?_ _)); exact BK287.out) hb); have n4_ := Aside0.mk (blk_below (g := gb288) (o := .cells #[.int .i64 3, .int .i64 a0_0, .string (⟨#[]⟩ : ByteArray), .slice none 0 0, .slice none 0 0] 30 (0, 0)) (by (with_reducible repeat (first | refine blk_drewN ?_ _ | refine blk_drew ?_ | refine blk_alloc ?_ _)); exact BK288.out) hb); have n5_ := Aside0.mk (blk_below (g := gb289) (o := .cells #[.int .i64 3, .int .i64 a0_1, .string (⟨#[]⟩ : ByteArray), .slice none 0 0, .slice none 0 0] 30 (0, 0)) (by (with_reducible repeat (first | refine blk_drewN ?_ _ | refine blk_drew ?_ | refine blk_alloc ?_ _)); exact BK289.out) hb); have n6_ := Aside0.mk (blk_below (g := gb292) (o := .cells #[.int .i64 4, .int .i64 0, .string t290, .slice none 0 0, .slice none 0 0] 30 (0, 0)) (by (with_reducible repeat (first | refine blk_drewN ?_ _ | refine blk_drew ?_ | refine blk_alloc ?_ _)); exact BK292.out) hb); have n7_ := Aside0.mk (blk_below (g := gb293) (o := .cells #[.int .i64 4, .int .i64 0, .string t291, .slice none 0 0, .slice none 0 0] 30 (0, 0)) (by (with_reducible repeat (first | refine blk_drewN ?_ _ | refine blk_drew ?_ | refine blk_alloc ?_ _)); exact BK293.out) hb); have n8_ := Aside0.mk (below_step (by repeat (first | (with_reducible first | exact HB.out | apply below_alloc | apply pw_below_drewN | apply below_drew1 | refine below_set ?_ GE283.out | refine below_set ?_ GE284.out | refine below_set ?_ GE286.out | refine below_set ?_ GE287.out | refine below_set ?_ GE288.out | refine below_set ?_ GE289.out | refine below_set ?_ GE292.out | refine below_set ?_ GE293.out) | exact HB.out)) hb); clear BK283; clear BK284; clear BK286; clear BK287; clear BK288; clear BK289; clear BK292; clear BK293; clear HB; have BK283 := n0_; have BK284 := n1_; have BK286 := n2_; have BK287 := n3_; have BK288 := n4_; have BK289 := n5_; have BK292 := n6_; have BK293 := n7_; have HB := n8_; clear n0_ n1_ n2_ n3_ n4_ n5_ n6_ n7_ n8_; (try clear hb); (try clear hb2); (try clear hk); (try clear hi); (try clear A55); have hnb120 := NB292_283.out; have hnc120 := NB283_292.out; have hnb121 := NB292_284.out; have hnc121 := NB284_292.out; have hnb122 := NB292_286.out; have hnc122 := NB286_292.out; have hnb123 := NB292_287.out; have hnc123 := NB287_292.out; have hnb124 := NB292_293.out; have hnc124 := NB293_292.out; have hcz125_0 : w119.cell? ⟨gb292, 0, none⟩ = some (.int .i64 4) := (blk_cell BK292.out 0).trans rfl; have hcz125_1 : w119.cell? ⟨gb292, 1, none⟩ = some (.int .i64 0) := (blk_cell BK292.out 1).trans rfl; have hcz125_2 : w119.cell? ⟨gb292, 2, none⟩ = some (.string t290) := (blk_cell BK292.out 2).trans rfl; have hcz125_3 : w119.cell? ⟨gb292, 3, none⟩ = some (.slice none 0 0) := (blk_cell BK292.out 3).trans rfl; have hcz125_4 : w119.cell? ⟨gb292, 4, none⟩ = some (.slice none 0 0) := (blk_cell BK292.out 4).trans rfl; have hfz125_0 := blk_frozen BK292.out 0; have hfz125_1 := blk_frozen BK292.out 1; have hfz125_2 := blk_frozen BK292.out 2; have hfz125_3 := blk_frozen BK292.out 3; have hfz125_4 := blk_frozen BK292.out 4; have hnb126 := NB293_283.out; have hnc126 := NB283_293.out; have hnb127 := NB293_284.out; have hnc127 := NB284_293.out; have hnb128 := NB293_286.out; have hnc128 := NB286_293.out; have hnb129 := NB293_287.out; have hnc129 := NB287_293.out; have hcz130_0 : w119.cell? ⟨gb293, 0, none⟩ = some (.int .i64 4) := (blk_cell BK293.out 0).trans rfl; have hcz130_1 : w119.cell? ⟨gb293, 1, none⟩ = some (.int .i64 0) := (blk_cell BK293.out 1).trans rfl; have hcz130_2 : w119.cell? ⟨gb293, 2, none⟩ = some (.string t291) := (blk_cell BK293.out 2).trans rfl; have hcz130_3 : w119.cell? ⟨gb293, 3, none⟩ = some (.slice none 0 0) := (blk_cell BK293.out 3).trans rfl; have hcz130_4 : w119.cell? ⟨gb293, 4, none⟩ = some (.slice none 0 0) := (blk_cell BK293.out 4).trans rfl; have hfz130_0 := blk_frozen BK293.out 0; have hfz130_1 := blk_frozen BK293.out 1; have hfz130_2 := blk_frozen BK293.out 2; have hfz130_3 := blk_frozen BK293.out 3; have hfz130_4 := blk_frozen BK293.out 4) | (go_at_call 17; (refine (order_Compare.calls k 4 0 t290 _ _ ([] : List ByteArray) _ _ ([] : List (S30)) 4 0 t291 _ _ ([] : List ByteArray) _ _ ([] : List (S30)) t295 _ ?side1 ?side2 ?side3 ?side4 ?side5 ?side6 ?side7 ?side8 ?side9 A73.out).mono ?_); (case side1 => exact Kd.C_nil _ _); (case side2 => exact Nat.le_refl _); (case side3 => exact Kd.C_nil _ _); (case side4 => exact Nat.le_refl _); (case side5 => exact Kd.C_nil _ _); (case side6 => exact Nat.le_refl _); (case side7 => exact Kd.C_nil _ _); (case side8 => exact Nat.le_refl _); (case side9 => first | exact HT.out | (refine tabs_below HT.out ?_; repeat (first | exact HB.out | (with_reducible first | apply below_alloc | apply pw_below_drewN | apply below_drew1 | exact Below.refl _ _) | (refine below_set ?_ (Aside0.out (by assumption)))))); rintro e w131 ⟨rfl, hb⟩; have n0_ := Aside0.mk (blk_below (g := gb283) (o := .cells #[.int .i64 a0_0, .int .i64 a0_1] 35 (0, 0)) (by (with_reducible repeat (first | refine blk_drewN ?_ _ | refine blk_drew ?_ | refine blk_alloc ?_ _)); exact BK283.out) hb); have n1_ := Aside0.mk (blk_below (g := gb284) (o := .cells #[.int .u8 a1_0, .int .u8 a1_1, .int .u8 a1_2, .int .u8 a1_3, .int .u8 a1_4, .int .u8 a1_5] 37 (0, 0)) (by (with_reducible repeat (first | refine blk_drewN ?_ _ | refine blk_drew ?_ | refine blk_alloc ?_ _)); exact BK284.out) hb); have n2_ := Aside0.mk (blk_below (g := gb286) (o := .cells #[.int .u8 a1_0, .int .u8 a1_1, .int .u8 a1_2] 36 (0, 0)) (by (with_reducible repeat (first | refine blk_drewN ?_ _ | refine blk_drew ?_ | refine blk_alloc ?_ _)); exact BK286.out) hb); have n3_ := Aside0.mk (blk_below (g := gb287) (o := .cells #[.int .u8 a1_3, .int .u8 a1_4, .int .u8 a1_5] 36 (0, 0)) (by (with_reducible repeat (first | refine blk_drewN ?_ _ | refine blk_drew ?_ | refine blk_alloc ?_ _)); exact BK287.out) hb); have n4_ := Aside0.mk (blk_below (g := gb288) (o := .cells #[.int .i64 3, .int .i64 a0_0, .string (⟨#[]⟩ : ByteArray), .slice none 0 0, .slice none 0 0] 30 (0, 0)) (by (with_reducible repeat (first | refine blk_drewN ?_ _ | refine blk_drew ?_ | refine blk_alloc ?_ _)); exact BK288.out) hb); have n5_ := Aside0.mk (blk_below (g := gb289) (o := .cells #[.int .i64 3, .int .i64 a0_1, .string (⟨#[]⟩ : ByteArray), .slice none 0 0, .slice none 0 0] 30 (0, 0)) (by (with_reducible repeat (first | refine blk_drewN ?_ _ | refine blk_drew ?_ | refine blk_alloc ?_ _)); exact BK289.out) hb); have n6_ := Aside0.mk (blk_below (g := gb292) (o := .cells #[.int .i64 4, .int .i64 0, .string t290, .slice none 0 0, .slice none 0 0] 30 (0, 0)) (by (with_reducible repeat (first | refine blk_drewN ?_ _ | refine blk_drew ?_ | refine blk_alloc ?_ _)); exact BK292.out) hb); have n7_ := Aside0.mk (blk_below (g := gb293) (o := .cells #[.int .i64 4, .int .i64 0, .string t291, .slice none 0 0, .slice none 0 0] 30 (0, 0)) (by (with_reducible repeat (first | refine blk_drewN ?_ _ | refine blk_drew ?_ | refine blk_alloc ?_ _)); exact BK293.out) hb); have n8_ := Aside0.mk (below_step (by repeat (first | (with_reducible first | exact HB.out | apply below_alloc | apply pw_below_drewN | apply below_drew1 | refine below_set ?_ GE283.out | refine below_set ?_ GE284.out | refine below_set ?_ GE286.out | refine below_set ?_ GE287.out | refine below_set ?_ GE288.out | refine below_set ?_ GE289.out | refine below_set ?_ GE292.out | refine below_set ?_ GE293.out) | exact HB.out)) hb); clear BK283; clear BK284; clear BK286; clear BK287; clear BK288; clear BK289; clear BK292; clear BK293; clear HB; have BK283 := n0_; have BK284 := n1_; have BK286 := n2_; have BK287 := n3_; have BK288 := n4_; have BK289 := n5_; have BK292 := n6_; have BK293 := n7_; have HB := n8_; clear n0_ n1_ n2_ n3_ n4_ n5_ n6_ n7_ n8_; (try clear hb); (try clear hb2); (try clear hk); (try clear hi); (try clear A73); have hcz132_0 : w131.cell? ⟨gb288, 0, none⟩ = some (.int .i64 3) := (blk_cell BK288.out 0).trans rfl; have hcz132_1 : w131.cell? ⟨gb288, 1, none⟩ = some (.int .i64 a0_0) := (blk_cell BK288.out 1).trans rfl; have hcz132_2 : w131.cell? ⟨gb288, 2, none⟩ = some (.string (⟨#[]⟩ : ByteArray)) := (blk_cell BK288.out 2).trans rfl; have hcz132_3 : w131.cell? ⟨gb288, 3, none⟩ = some (.slice none 0 0) := (blk_cell BK288.out 3).trans rfl; have hcz132_4 : w131.cell? ⟨gb288, 4, none⟩ = some (.slice none 0 0) := (blk_cell BK288.out 4).trans rfl; have hfz132_0 := blk_frozen BK288.out 0; have hfz132_1 := blk_frozen BK288.out 1; have hfz132_2 := blk_frozen BK288.out 2; have hfz132_3 := blk_frozen BK288.out 3; have hfz132_4 := blk_frozen BK288.out 4; have hcz133_0 : w131.cell? ⟨gb292, 0, none⟩ = some (.int .i64 4) := (blk_cell BK292.out 0).trans rfl; have hcz133_1 : w131.cell? ⟨gb292, 1, none⟩ = some (.int .i64 0) := (blk_cell BK292.out 1).trans rfl; have hcz133_2 : w131.cell? ⟨gb292, 2, none⟩ = some (.string t290) := (blk_cell BK292.out 2).trans rfl; have hcz133_3 : w131.cell? ⟨gb292, 3, none⟩ = some (.slice none 0 0) := (blk_cell BK292.out 3).trans rfl; have hcz133_4 : w131.cell? ⟨gb292, 4, none⟩ = some (.slice none 0 0) := (blk_cell BK292.out 4).trans rfl; have hfz133_0 := blk_frozen BK292.out 0; have hfz133_1 := blk_frozen BK292.out 1; have hfz133_2 := blk_frozen BK292.out 2; have hfz133_3 := blk_frozen BK292.out 3; have hfz133_4 := blk_frozen BK292.out 4) | (go_at_call 17; (refine (order_Compare.calls k 3 a0_0 (⟨#[]⟩ : ByteArray) _ _ ([] : List ByteArray) _ _ ([] : List (S30)) 4 0 t290 _ _ ([] : List ByteArray) _ _ ([] : List (S30)) t296 _ ?side1 ?side2 ?side3 ?side4 ?side5 ?side6 ?side7 ?side8 ?side9 A103.out).mono ?_); (case side1 => exact Kd.C_nil _ _); (case side2 => exact Nat.le_refl _); (case side3 => exact Kd.C_nil _ _); (case side4 => exact Nat.le_refl _); (case side5 => exact Kd.C_nil _ _); (case side6 => exact Nat.le_refl _); (case side7 => exact Kd.C_nil _ _); (case side8 => exact Nat.le_refl _); (case side9 => first | exact HT.out | (refine tabs_below HT.out ?_; repeat (first | exact HB.out | (with_reducible first | apply below_alloc | apply pw_below_drewN | apply below_drew1 | exact Below.refl _ _) | (refine below_set ?_ (Aside0.out (by assumption)))))); rintro e w134 ⟨rfl, hb⟩; have n0_ := Aside0.mk (blk_below (g := gb283) (o := .cells #[.int .i64 a0_0, .int .i64 a0_1] 35 (0, 0)) (by (with_reducible repeat (first | refine blk_drewN ?_ _ | refine blk_drew ?_ | refine blk_alloc ?_ _)); exact BK283.out) hb); have n1_ := Aside0.mk (blk_below (g := gb284) (o := .cells #[.int .u8 a1_0, .int .u8 a1_1, .int .u8 a1_2, .int .u8 a1_3, .int .u8 a1_4, .int .u8 a1_5] 37 (0, 0)) (by (with_reducible repeat (first | refine blk_drewN ?_ _ | refine blk_drew ?_ | refine blk_alloc ?_ _)); exact BK284.out) hb); have n2_ := Aside0.mk (blk_below (g := gb286) (o := .cells #[.int .u8 a1_0, .int .u8 a1_1, .int .u8 a1_2] 36 (0, 0)) (by (with_reducible repeat (first | refine blk_drewN ?_ _ | refine blk_drew ?_ | refine blk_alloc ?_ _)); exact BK286.out) hb); have n3_ := Aside0.mk (blk_below (g := gb287) (o := .cells #[.int .u8 a1_3, .int .u8 a1_4, .int .u8 a1_5] 36 (0, 0)) (by (with_reducible repeat (first | refine blk_drewN ?_ _ | refine blk_drew ?_ | refine blk_alloc ?_ _)); exact BK287.out) hb); have n4_ := Aside0.mk (blk_below (g := gb288) (o := .cells #[.int .i64 3, .int .i64 a0_0, .string (⟨#[]⟩ : ByteArray), .slice none 0 0, .slice none 0 0] 30 (0, 0)) (by (with_reducible repeat (first | refine blk_drewN ?_ _ | refine blk_drew ?_ | refine blk_alloc ?_ _)); exact BK288.out) hb); have n5_ := Aside0.mk (blk_below (g := gb289) (o := .cells #[.int .i64 3, .int .i64 a0_1, .string (⟨#[]⟩ : ByteArray), .slice none 0 0, .slice none 0 0] 30 (0, 0)) (by (with_reducible repeat (first | refine blk_drewN ?_ _ | refine blk_drew ?_ | refine blk_alloc ?_ _)); exact BK289.out) hb); have n6_ := Aside0.mk (blk_below (g := gb292) (o := .cells #[.int .i64 4, .int .i64 0, .string t290, .slice none 0 0, .slice none 0 0] 30 (0, 0)) (by (with_reducible repeat (first | refine blk_drewN ?_ _ | refine blk_drew ?_ | refine blk_alloc ?_ _)); exact BK292.out) hb); have n7_ := Aside0.mk (blk_below (g := gb293) (o := .cells #[.int .i64 4, .int .i64 0, .string t291, .slice none 0 0, .slice none 0 0] 30 (0, 0)) (by (with_reducible repeat (first | refine blk_drewN ?_ _ | refine blk_drew ?_ | refine blk_alloc ?_ _)); exact BK293.out) hb); have n8_ := Aside0.mk (below_step (by repeat (first | (with_reducible first | exact HB.out | apply below_alloc | apply pw_below_drewN | apply below_drew1 | refine below_set ?_ GE283.out | refine below_set ?_ GE284.out | refine below_set ?_ GE286.out | refine below_set ?_ GE287.out | refine below_set ?_ GE288.out | refine below_set ?_ GE289.out | refine below_set ?_ GE292.out | refine below_set ?_ GE293.out) | exact HB.out)) hb); clear BK283; clear BK284; clear BK286; clear BK287; clear BK288; clear BK289; clear BK292; clear BK293; clear HB; have BK283 := n0_; have BK284 := n1_; have BK286 := n2_; have BK287 := n3_; have BK288 := n4_; have BK289 := n5_; have BK292 := n6_; have BK293 := n7_; have HB := n8_; clear n0_ n1_ n2_ n3_ n4_ n5_ n6_ n7_ n8_; (try clear hb); (try clear hb2); (try clear hk); (try clear hi); (try clear A103)))
          go_meet
          case rel => exact ⟨_, ((t296 != (-1))), (by first | rfl | (simp; done) | (simp [*]; done)), H', ⟨by first | omega | exact Nat.le_refl _⟩, ⟨by (with_reducible repeat (first | refine blk_drewN ?_ _ | refine blk_drew ?_ | refine blk_alloc ?_ _)); exact BK283.out⟩, ⟨by (with_reducible repeat (first | refine blk_drewN ?_ _ | refine blk_drew ?_ | refine blk_alloc ?_ _)); exact BK284.out⟩, ⟨by (with_reducible repeat (first | refine blk_drewN ?_ _ | refine blk_drew ?_ | refine blk_alloc ?_ _)); exact BK286.out⟩, ⟨by (with_reducible repeat (first | refine blk_drewN ?_ _ | refine blk_drew ?_ | refine blk_alloc ?_ _)); exact BK287.out⟩, ⟨by (with_reducible repeat (first | refine blk_drewN ?_ _ | refine blk_drew ?_ | refine blk_alloc ?_ _)); exact BK288.out⟩, ⟨by (with_reducible repeat (first | refine blk_drewN ?_ _ | refine blk_drew ?_ | refine blk_alloc ?_ _)); exact BK289.out⟩, ⟨by (with_reducible repeat (first | refine blk_drewN ?_ _ | refine blk_drew ?_ | refine blk_alloc ?_ _)); exact BK292.out⟩, ⟨by (with_reducible repeat (first | refine blk_drewN ?_ _ | refine blk_drew ?_ | refine blk_alloc ?_ _)); exact BK293.out⟩, ⟨by repeat (first | (with_reducible first | exact HB.out | apply below_alloc | apply pw_below_drewN | apply below_drew1 | refine below_set ?_ GE283.out | refine below_set ?_ GE284.out | refine below_set ?_ GE286.out | refine below_set ?_ GE287.out | refine below_set ?_ GE288.out | refine below_set ?_ GE289.out | refine below_set ?_ GE292.out | refine below_set ?_ GE293.out) | exact HB.out)⟩⟩
    case rest =>
      clear HC7
      try clear c1
      try clear c2
      try clear p2
      try clear c3
      try clear c4
      try clear c5
      try clear c6
      try clear c7
      try clear c8
      try clear c9
      try clear c10
      try clear c11
      try clear c12
      try clear c17
      try clear c20
      try clear c23
      try clear c24
      try clear c25
      try clear c26
      try clear c27
      try clear c29
      try clear c30
      try clear c31
      try clear c32
      try clear c40
      try clear c41
      try clear c42
      try clear c43
      try clear c44
      try clear c45
      try clear c46
      try clear c48
      try clear c49
      try clear c50
      try clear c51
      try clear c52
      try clear c53
      try clear c56
      try clear c56b0
      try clear c56b1
      try clear c56b2
      try clear c57
      try clear c58
      try clear c59
      try clear c60
      try clear c61
      try clear c62
      try clear c63
      try clear c65
      try clear c66
      try clear c67
      try clear c68
      try clear c69
      try clear c70
      try clear c74
      try clear c74b0
      try clear c74b1
      try clear c74b2
      try clear c75
      try clear c76
      try clear c77
      try clear c78
      try clear c79
      try clear c80
      try clear c81
      try clear c83
      try clear c84
      try clear c85
      try clear c86
      try clear c87
      try clear c88
      try clear c91
      try clear c92
      try clear c93
      try clear c94
      try clear c95
      try clear c97
      try clear c98
      try clear c99
      try clear c100
      try clear c104
      try clear c105
      try clear c106
      try clear c107
      try clear c108
      try clear c109
      try clear c110
      try clear c112
      try clear c113
      try clear c114
      try clear c115
      try clear c116
      try clear c117
      try clear c120
      try clear c121
      try clear c122
      try clear c123
      try clear c124
      try clear c126
      try clear c127
      try clear c128
      try clear c129
      try clear hcz101_0
      try clear hcz101_1
      try clear hcz101_2
      try clear hcz101_3
      try clear hcz101_4
      try clear hcz111_0
      try clear hcz111_1
      try clear hcz111_2
      try clear hcz111_3
      try clear hcz111_4
      try clear hcz118_0
      try clear hcz118_1
      try clear hcz118_2
      try clear hcz118_3
      try clear hcz118_4
      try clear hcz125_0
      try clear hcz125_1
      try clear hcz125_2
      try clear hcz125_3
      try clear hcz125_4
      try clear hcz130_0
      try clear hcz130_1
      try clear hcz130_2
      try clear hcz130_3
      try clear hcz130_4
      try clear hcz132_0
      try clear hcz132_1
      try clear hcz132_2
      try clear hcz132_3
      try clear hcz132_4
      try clear hcz133_0
      try clear hcz133_1
      try clear hcz133_2
      try clear hcz133_3
      try clear hcz133_4
      try clear hcz28_0
      try clear hcz28_1
      try clear hcz28_2
      try clear hcz28_3
      try clear hcz28_4
      try clear hcz33_0
      try clear hcz33_1
      try clear hcz33_2
      try clear hcz33_3
      try clear hcz33_4
      try clear hcz47_0
      try clear hcz47_1
      try clear hcz47_2
      try clear hcz47_3
      try clear hcz47_4
      try clear hcz54_0
      try clear hcz54_1
      try clear hcz54_2
      try clear hcz54_3
      try clear hcz54_4
      try clear hcz64_0
      try clear hcz64_1
      try clear hcz64_2
      try clear hcz64_3
      try clear hcz64_4
      try clear hcz71_0
      try clear hcz71_1
      try clear hcz71_2
      try clear hcz71_3
      try clear hcz71_4
      try clear hcz82_0
      try clear hcz82_1
      try clear hcz82_2
      try clear hcz82_3
      try clear hcz82_4
      try clear hcz89_0
      try clear hcz89_1
      try clear hcz89_2
      try clear hcz89_3
      try clear hcz89_4
      try clear hcz96_0
      try clear hcz96_1
      try clear hcz96_2
      try clear hcz96_3
      try clear hcz96_4
      try clear hfz101_0
      try clear hfz101_1
      try clear hfz101_2
      try clear hfz101_3
      try clear hfz101_4
      try clear hfz111_0
      try clear hfz111_1
      try clear hfz111_2
      try clear hfz111_3
      try clear hfz111_4
      try clear hfz118_0
      try clear hfz118_1
      try clear hfz118_2
      try clear hfz118_3
      try clear hfz118_4
      try clear hfz125_0
      try clear hfz125_1
      try clear hfz125_2
      try clear hfz125_3
      try clear hfz125_4
      try clear hfz130_0
      try clear hfz130_1
      try clear hfz130_2
      try clear hfz130_3
      try clear hfz130_4
      try clear hfz132_0
      try clear hfz132_1
      try clear hfz132_2
      try clear hfz132_3
      try clear hfz132_4
      try clear hfz133_0
      try clear hfz133_1
      try clear hfz133_2
      try clear hfz133_3
      try clear hfz133_4
      try clear hfz28_0
      try clear hfz28_1
      try clear hfz28_2
      try clear hfz28_3
      try clear hfz28_4
      try clear hfz33_0
      try clear hfz33_1
      try clear hfz33_2
      try clear hfz33_3
      try clear hfz33_4
      try clear hfz47_0
      try clear hfz47_1
      try clear hfz47_2
      try clear hfz47_3
      try clear hfz47_4
      try clear hfz54_0
      try clear hfz54_1
      try clear hfz54_2
      try clear hfz54_3
      try clear hfz54_4
      try clear hfz64_0
      try clear hfz64_1
      try clear hfz64_2
      try clear hfz64_3
      try clear hfz64_4
      try clear hfz71_0
      try clear hfz71_1
      try clear hfz71_2
      try clear hfz71_3
      try clear hfz71_4
      try clear hfz82_0
      try clear hfz82_1
      try clear hfz82_2
      try clear hfz82_3
      try clear hfz82_4
      try clear hfz89_0
      try clear hfz89_1
      try clear hfz89_2
      try clear hfz89_3
      try clear hfz89_4
      try clear hfz96_0
      try clear hfz96_1
      try clear hfz96_2
      try clear hfz96_3
      try clear hfz96_4
      obtain ⟨kq, x60_6, rfl, HA, HJ6, BK283, BK284, BK286, BK287, BK288, BK289, BK292, BK293, HB⟩ := hcut
      cases kq with
      | zero => exact absurd HA.out (by simp [munimentlaw03_OrderNumbers.j0])
      | succ kj6 =>
        have H := HA.out
        clear HA
        simp only [munimentlaw03_OrderNumbers.j0] at H
        by_cases c135 : x60_6 = true
        · subst c135
          have H1 : (some false) = some r := by rw [if_pos rfl] at H; exact H
          clear H
          have H := H1
          clear H1
          obtain rfl := Option.some.inj H
          go_wp2
          go_ret
          exact ⟨by first | rfl | (simp [errW_none, errW_some] <;> rfl) | (simp [*, errW_none, errW_some] <;> rfl), by repeat (first | (with_reducible first | exact HB.out | apply below_alloc | apply pw_below_drewN | apply below_drew1 | refine below_set ?_ GE283.out | refine below_set ?_ GE284.out | refine below_set ?_ GE286.out | refine below_set ?_ GE287.out | refine below_set ?_ GE288.out | refine below_set ?_ GE289.out | refine below_set ?_ GE292.out | refine below_set ?_ GE293.out) | exact HB.out)⟩
        · replace c135 := Bool.eq_false_iff.mpr c135
          subst c135
          have H1 : ((order_Compare.f kj6 0 0 (⟨#[]⟩ : ByteArray) ([] : List ByteArray) ([] : List (S30)) 3 a0_0 (⟨#[]⟩ : ByteArray) ([] : List ByteArray) ([] : List (S30))).bind fun t297 => (if t297 = (-1) then ((order_Compare.f kj6 1 0 (⟨#[]⟩ : ByteArray) ([] : List ByteArray) ([] : List (S30)) 3 a0_0 (⟨#[]⟩ : ByteArray) ([] : List ByteArray) ([] : List (S30))).bind fun t298 => (if t298 = (-1) then ((order_Compare.f kj6 2 0 (⟨#[]⟩ : ByteArray) ([] : List ByteArray) ([] : List (S30)) 4 0 t290 ([] : List ByteArray) ([] : List (S30))).bind fun t299 => (some (t299 == (-1)))) else (some false))) else (some false))) = some r := by rw [if_neg (show ¬ (false = true) by decide)] at H; exact H
          clear H
          have H := H1
          clear H1
          replace H := Option.bind_eq_some_iff.mp H
          obtain ⟨t297, A1360, H⟩ := H
          replace H : (if t297 = (-1) then ((order_Compare.f kj6 1 0 (⟨#[]⟩ : ByteArray) ([] : List ByteArray) ([] : List (S30)) 3 a0_0 (⟨#[]⟩ : ByteArray) ([] : List ByteArray) ([] : List (S30))).bind fun t298 => (if t298 = (-1) then ((order_Compare.f kj6 2 0 (⟨#[]⟩ : ByteArray) ([] : List ByteArray) ([] : List (S30)) 4 0 t290 ([] : List ByteArray) ([] : List (S30))).bind fun t299 => (some (t299 == (-1)))) else (some false))) else (some false)) = some r := H
          have A136 := Aside0.mk A1360
          clear A1360
          by_cases c137 : t297 = (-1)
          · rw [if_pos c137] at H
            have c137b0 : (t297 == (-1)) = true := beq_iff_eq.mpr c137
            have c137b1 : (t297 != (-1)) = false := bne_eq_false_iff_eq.mpr c137
            clear c137
            replace H := Option.bind_eq_some_iff.mp H
            obtain ⟨t298, A1380, H⟩ := H
            replace H : (if t298 = (-1) then ((order_Compare.f kj6 2 0 (⟨#[]⟩ : ByteArray) ([] : List ByteArray) ([] : List (S30)) 4 0 t290 ([] : List ByteArray) ([] : List (S30))).bind fun t299 => (some (t299 == (-1)))) else (some false)) = some r := H
            have A138 := Aside0.mk A1380
            clear A1380
            by_cases c139 : t298 = (-1)
            · rw [if_pos c139] at H
              have c139b0 : (t298 == (-1)) = true := beq_iff_eq.mpr c139
              have c139b1 : (t298 != (-1)) = false := bne_eq_false_iff_eq.mpr c139
              clear c139
              replace H := Option.bind_eq_some_iff.mp H
              obtain ⟨t299, A1400, H⟩ := H
              replace H : (some (t299 == (-1))) = some r := H
              have A140 := Aside0.mk A1400
              clear A1400
              obtain rfl := Option.some.inj H
              have hnb141 := NB288_283.out
              have hnc141 := NB283_288.out
              have hnb142 := NB288_284.out
              have hnc142 := NB284_288.out
              have hnb143 := NB288_286.out
              have hnc143 := NB286_288.out
              have hnb144 := NB288_287.out
              have hnc144 := NB287_288.out
              have hnb145 := NB288_289.out
              have hnc145 := NB289_288.out
              have hnb146 := NB288_292.out
              have hnc146 := NB292_288.out
              have hnb147 := NB288_293.out
              have hnc147 := NB293_288.out
              have hcz148_0 : wc.cell? ⟨gb288, 0, none⟩ = some (.int .i64 3) := (blk_cell BK288.out 0).trans rfl
              have hcz148_1 : wc.cell? ⟨gb288, 1, none⟩ = some (.int .i64 a0_0) := (blk_cell BK288.out 1).trans rfl
              have hcz148_2 : wc.cell? ⟨gb288, 2, none⟩ = some (.string (⟨#[]⟩ : ByteArray)) := (blk_cell BK288.out 2).trans rfl
              have hcz148_3 : wc.cell? ⟨gb288, 3, none⟩ = some (.slice none 0 0) := (blk_cell BK288.out 3).trans rfl
              have hcz148_4 : wc.cell? ⟨gb288, 4, none⟩ = some (.slice none 0 0) := (blk_cell BK288.out 4).trans rfl
              have hfz148_0 := blk_frozen BK288.out 0
              have hfz148_1 := blk_frozen BK288.out 1
              have hfz148_2 := blk_frozen BK288.out 2
              have hfz148_3 := blk_frozen BK288.out 3
              have hfz148_4 := blk_frozen BK288.out 4
              go_wp2_with (first | ((with_reducible refine gate_callee (f := 17) rfl ?_); refine goesL_ (some 63) rfl rfl Tryd.func17 (by kernel_rfl) rfl #[.agg #[.int .i64 0, .int .i64 0, .string (⟨#[]⟩ : ByteArray), .slice none 0 0, .slice none 0 0], .agg #[.int .i64 3, .int .i64 a0_0, .string (⟨#[]⟩ : ByteArray), .slice none 0 0, .slice none 0 0]] rfl (by (try simp only [List.map_toArray, List.map_cons, List.map_nil]); first | done | rfl | (simp only [List.length_drop, List.length_take]; rfl)) ?_; (refine (order_Compare.calls kj6 0 0 (⟨#[]⟩ : ByteArray) _ _ ([] : List ByteArray) _ _ ([] : List (S30)) 3 a0_0 (⟨#[]⟩ : ByteArray) _ _ ([] : List ByteArray) _ _ ([] : List (S30)) t297 _ ?side1 ?side2 ?side3 ?side4 ?side5 ?side6 ?side7 ?side8 ?side9 A136.out).mono ?_); (case side1 => exact Kd.C_nil _ _); (case side2 => exact Nat.le_refl _); (case side3 => exact Kd.C_nil _ _); (case side4 => exact Nat.le_refl _); (case side5 => exact Kd.C_nil _ _); (case side6 => exact Nat.le_refl _); (case side7 => exact Kd.C_nil _ _); (case side8 => exact Nat.le_refl _); (case side9 => first | exact HT.out | (refine tabs_below HT.out ?_; repeat (first | exact HB.out | (with_reducible first | apply below_alloc | apply pw_below_drewN | apply below_drew1 | exact Below.refl _ _) | (refine below_set ?_ (Aside0.out (by assumption)))))); rintro e w149 ⟨rfl, hb⟩; refine ⟨_, rfl, ?_⟩; have n0_ := Aside0.mk (blk_below (g := gb283) (o := .cells #[.int .i64 a0_0, .int .i64 a0_1] 35 (0, 0)) (by (with_reducible repeat (first | refine blk_drewN ?_ _ | refine blk_drew ?_ | refine blk_alloc ?_ _)); exact BK283.out) hb); have n1_ := Aside0.mk (blk_below (g := gb284) (o := .cells #[.int .u8 a1_0, .int .u8 a1_1, .int .u8 a1_2, .int .u8 a1_3, .int .u8 a1_4, .int .u8 a1_5] 37 (0, 0)) (by (with_reducible repeat (first | refine blk_drewN ?_ _ | refine blk_drew ?_ | refine blk_alloc ?_ _)); exact BK284.out) hb); have n2_ := Aside0.mk (blk_below (g := gb286) (o := .cells #[.int .u8 a1_0, .int .u8 a1_1, .int .u8 a1_2] 36 (0, 0)) (by (with_reducible repeat (first | refine blk_drewN ?_ _ | refine blk_drew ?_ | refine blk_alloc ?_ _)); exact BK286.out) hb); have n3_ := Aside0.mk (blk_below (g := gb287) (o := .cells #[.int .u8 a1_3, .int .u8 a1_4, .int .u8 a1_5] 36 (0, 0)) (by (with_reducible repeat (first | refine blk_drewN ?_ _ | refine blk_drew ?_ | refine blk_alloc ?_ _)); exact BK287.out) hb); have n4_ := Aside0.mk (blk_below (g := gb288) (o := .cells #[.int .i64 3, .int .i64 a0_0, .string (⟨#[]⟩ : ByteArray), .slice none 0 0, .slice none 0 0] 30 (0, 0)) (by (with_reducible repeat (first | refine blk_drewN ?_ _ | refine blk_drew ?_ | refine blk_alloc ?_ _)); exact BK288.out) hb); have n5_ := Aside0.mk (blk_below (g := gb289) (o := .cells #[.int .i64 3, .int .i64 a0_1, .string (⟨#[]⟩ : ByteArray), .slice none 0 0, .slice none 0 0] 30 (0, 0)) (by (with_reducible repeat (first | refine blk_drewN ?_ _ | refine blk_drew ?_ | refine blk_alloc ?_ _)); exact BK289.out) hb); have n6_ := Aside0.mk (blk_below (g := gb292) (o := .cells #[.int .i64 4, .int .i64 0, .string t290, .slice none 0 0, .slice none 0 0] 30 (0, 0)) (by (with_reducible repeat (first | refine blk_drewN ?_ _ | refine blk_drew ?_ | refine blk_alloc ?_ _)); exact BK292.out) hb); have n7_ := Aside0.mk (blk_below (g := gb293) (o := .cells #[.int .i64 4, .int .i64 0, .string t291, .slice none 0 0, .slice none 0 0] 30 (0, 0)) (by (with_reducible repeat (first | refine blk_drewN ?_ _ | refine blk_drew ?_ | refine blk_alloc ?_ _)); exact BK293.out) hb); have n8_ := Aside0.mk (below_step (by repeat (first | (with_reducible first | exact HB.out | apply below_alloc | apply pw_below_drewN | apply below_drew1 | refine below_set ?_ GE283.out | refine below_set ?_ GE284.out | refine below_set ?_ GE286.out | refine below_set ?_ GE287.out | refine below_set ?_ GE288.out | refine below_set ?_ GE289.out | refine below_set ?_ GE292.out | refine below_set ?_ GE293.out) | exact HB.out)) hb); clear BK283; clear BK284; clear BK286; clear BK287; clear BK288; clear BK289; clear BK292; clear BK293; clear HB; have BK283 := n0_; have BK284 := n1_; have BK286 := n2_; have BK287 := n3_; have BK288 := n4_; have BK289 := n5_; have BK292 := n6_; have BK293 := n7_; have HB := n8_; clear n0_ n1_ n2_ n3_ n4_ n5_ n6_ n7_ n8_; (try clear hb); (try clear hb2); (try clear hk); (try clear hi); (try clear A136); have hcz150_0 : w149.cell? ⟨gb288, 0, none⟩ = some (.int .i64 3) := (blk_cell BK288.out 0).trans rfl; have hcz150_1 : w149.cell? ⟨gb288, 1, none⟩ = some (.int .i64 a0_0) := (blk_cell BK288.out 1).trans rfl; have hcz150_2 : w149.cell? ⟨gb288, 2, none⟩ = some (.string (⟨#[]⟩ : ByteArray)) := (blk_cell BK288.out 2).trans rfl; have hcz150_3 : w149.cell? ⟨gb288, 3, none⟩ = some (.slice none 0 0) := (blk_cell BK288.out 3).trans rfl; have hcz150_4 : w149.cell? ⟨gb288, 4, none⟩ = some (.slice none 0 0) := (blk_cell BK288.out 4).trans rfl; have hfz150_0 := blk_frozen BK288.out 0; have hfz150_1 := blk_frozen BK288.out 1; have hfz150_2 := blk_frozen BK288.out 2; have hfz150_3 := blk_frozen BK288.out 3; have hfz150_4 := blk_frozen BK288.out 4) | (go_at_call 17; (refine (order_Compare.calls kj6 1 0 (⟨#[]⟩ : ByteArray) _ _ ([] : List ByteArray) _ _ ([] : List (S30)) 3 a0_0 (⟨#[]⟩ : ByteArray) _ _ ([] : List ByteArray) _ _ ([] : List (S30)) t298 _ ?side1 ?side2 ?side3 ?side4 ?side5 ?side6 ?side7 ?side8 ?side9 A138.out).mono ?_); (case side1 => exact Kd.C_nil _ _); (case side2 => exact Nat.le_refl _); (case side3 => exact Kd.C_nil _ _); (case side4 => exact Nat.le_refl _); (case side5 => exact Kd.C_nil _ _); (case side6 => exact Nat.le_refl _); (case side7 => exact Kd.C_nil _ _); (case side8 => exact Nat.le_refl _); (case side9 => first | exact HT.out | (refine tabs_below HT.out ?_; repeat (first | exact HB.out | (with_reducible first | apply below_alloc | apply pw_below_drewN | apply below_drew1 | exact Below.refl _ _) | (refine below_set ?_ (Aside0.out (by assumption)))))); rintro e w151 ⟨rfl, hb⟩; have n0_ := Aside0.mk (blk_below (g := gb283) (o := .cells #[.int .i64 a0_0, .int .i64 a0_1] 35 (0, 0)) (by (with_reducible repeat (first | refine blk_drewN ?_ _ | refine blk_drew ?_ | refine blk_alloc ?_ _)); exact BK283.out) hb); have n1_ := Aside0.mk (blk_below (g := gb284) (o := .cells #[.int .u8 a1_0, .int .u8 a1_1, .int .u8 a1_2, .int .u8 a1_3, .int .u8 a1_4, .int .u8 a1_5] 37 (0, 0)) (by (with_reducible repeat (first | refine blk_drewN ?_ _ | refine blk_drew ?_ | refine blk_alloc ?_ _)); exact BK284.out) hb); have n2_ := Aside0.mk (blk_below (g := gb286) (o := .cells #[.int .u8 a1_0, .int .u8 a1_1, .int .u8 a1_2] 36 (0, 0)) (by (with_reducible repeat (first | refine blk_drewN ?_ _ | refine blk_drew ?_ | refine blk_alloc ?_ _)); exact BK286.out) hb); have n3_ := Aside0.mk (blk_below (g := gb287) (o := .cells #[.int .u8 a1_3, .int .u8 a1_4, .int .u8 a1_5] 36 (0, 0)) (by (with_reducible repeat (first | refine blk_drewN ?_ _ | refine blk_drew ?_ | refine blk_alloc ?_ _)); exact BK287.out) hb); have n4_ := Aside0.mk (blk_below (g := gb288) (o := .cells #[.int .i64 3, .int .i64 a0_0, .string (⟨#[]⟩ : ByteArray), .slice none 0 0, .slice none 0 0] 30 (0, 0)) (by (with_reducible repeat (first | refine blk_drewN ?_ _ | refine blk_drew ?_ | refine blk_alloc ?_ _)); exact BK288.out) hb); have n5_ := Aside0.mk (blk_below (g := gb289) (o := .cells #[.int .i64 3, .int .i64 a0_1, .string (⟨#[]⟩ : ByteArray), .slice none 0 0, .slice none 0 0] 30 (0, 0)) (by (with_reducible repeat (first | refine blk_drewN ?_ _ | refine blk_drew ?_ | refine blk_alloc ?_ _)); exact BK289.out) hb); have n6_ := Aside0.mk (blk_below (g := gb292) (o := .cells #[.int .i64 4, .int .i64 0, .string t290, .slice none 0 0, .slice none 0 0] 30 (0, 0)) (by (with_reducible repeat (first | refine blk_drewN ?_ _ | refine blk_drew ?_ | refine blk_alloc ?_ _)); exact BK292.out) hb); have n7_ := Aside0.mk (blk_below (g := gb293) (o := .cells #[.int .i64 4, .int .i64 0, .string t291, .slice none 0 0, .slice none 0 0] 30 (0, 0)) (by (with_reducible repeat (first | refine blk_drewN ?_ _ | refine blk_drew ?_ | refine blk_alloc ?_ _)); exact BK293.out) hb); have n8_ := Aside0.mk (below_step (by repeat (first | (with_reducible first | exact HB.out | apply below_alloc | apply pw_below_drewN | apply below_drew1 | refine below_set ?_ GE283.out | refine below_set ?_ GE284.out | refine below_set ?_ GE286.out | refine below_set ?_ GE287.out | refine below_set ?_ GE288.out | refine below_set ?_ GE289.out | refine below_set ?_ GE292.out | refine below_set ?_ GE293.out) | exact HB.out)) hb); clear BK283; clear BK284; clear BK286; clear BK287; clear BK288; clear BK289; clear BK292; clear BK293; clear HB; have BK283 := n0_; have BK284 := n1_; have BK286 := n2_; have BK287 := n3_; have BK288 := n4_; have BK289 := n5_; have BK292 := n6_; have BK293 := n7_; have HB := n8_; clear n0_ n1_ n2_ n3_ n4_ n5_ n6_ n7_ n8_; (try clear hb); (try clear hb2); (try clear hk); (try clear hi); (try clear A138); have hnb152 := NB292_283.out; have hnc152 := NB283_292.out; have hnb153 := NB292_284.out; have hnc153 := NB284_292.out; have hnb154 := NB292_286.out; have hnc154 := NB286_292.out; have hnb155 := NB292_287.out; have hnc155 := NB287_292.out; have hnb156 := NB292_289.out; have hnc156 := NB289_292.out; have hnb157 := NB292_293.out; have hnc157 := NB293_292.out; have hcz158_0 : w151.cell? ⟨gb292, 0, none⟩ = some (.int .i64 4) := (blk_cell BK292.out 0).trans rfl; have hcz158_1 : w151.cell? ⟨gb292, 1, none⟩ = some (.int .i64 0) := (blk_cell BK292.out 1).trans rfl; have hcz158_2 : w151.cell? ⟨gb292, 2, none⟩ = some (.string t290) := (blk_cell BK292.out 2).trans rfl; have hcz158_3 : w151.cell? ⟨gb292, 3, none⟩ = some (.slice none 0 0) := (blk_cell BK292.out 3).trans rfl; have hcz158_4 : w151.cell? ⟨gb292, 4, none⟩ = some (.slice none 0 0) := (blk_cell BK292.out 4).trans rfl; have hfz158_0 := blk_frozen BK292.out 0; have hfz158_1 := blk_frozen BK292.out 1; have hfz158_2 := blk_frozen BK292.out 2; have hfz158_3 := blk_frozen BK292.out 3; have hfz158_4 := blk_frozen BK292.out 4) | (go_at_call 17; (refine (order_Compare.calls kj6 2 0 (⟨#[]⟩ : ByteArray) _ _ ([] : List ByteArray) _ _ ([] : List (S30)) 4 0 t290 _ _ ([] : List ByteArray) _ _ ([] : List (S30)) t299 _ ?side1 ?side2 ?side3 ?side4 ?side5 ?side6 ?side7 ?side8 ?side9 A140.out).mono ?_); (case side1 => exact Kd.C_nil _ _); (case side2 => exact Nat.le_refl _); (case side3 => exact Kd.C_nil _ _); (case side4 => exact Nat.le_refl _); (case side5 => exact Kd.C_nil _ _); (case side6 => exact Nat.le_refl _); (case side7 => exact Kd.C_nil _ _); (case side8 => exact Nat.le_refl _); (case side9 => first | exact HT.out | (refine tabs_below HT.out ?_; repeat (first | exact HB.out | (with_reducible first | apply below_alloc | apply pw_below_drewN | apply below_drew1 | exact Below.refl _ _) | (refine below_set ?_ (Aside0.out (by assumption)))))); rintro e w159 ⟨rfl, hb⟩; have n0_ := Aside0.mk (blk_below (g := gb283) (o := .cells #[.int .i64 a0_0, .int .i64 a0_1] 35 (0, 0)) (by (with_reducible repeat (first | refine blk_drewN ?_ _ | refine blk_drew ?_ | refine blk_alloc ?_ _)); exact BK283.out) hb); have n1_ := Aside0.mk (blk_below (g := gb284) (o := .cells #[.int .u8 a1_0, .int .u8 a1_1, .int .u8 a1_2, .int .u8 a1_3, .int .u8 a1_4, .int .u8 a1_5] 37 (0, 0)) (by (with_reducible repeat (first | refine blk_drewN ?_ _ | refine blk_drew ?_ | refine blk_alloc ?_ _)); exact BK284.out) hb); have n2_ := Aside0.mk (blk_below (g := gb286) (o := .cells #[.int .u8 a1_0, .int .u8 a1_1, .int .u8 a1_2] 36 (0, 0)) (by (with_reducible repeat (first | refine blk_drewN ?_ _ | refine blk_drew ?_ | refine blk_alloc ?_ _)); exact BK286.out) hb); have n3_ := Aside0.mk (blk_below (g := gb287) (o := .cells #[.int .u8 a1_3, .int .u8 a1_4, .int .u8 a1_5] 36 (0, 0)) (by (with_reducible repeat (first | refine blk_drewN ?_ _ | refine blk_drew ?_ | refine blk_alloc ?_ _)); exact BK287.out) hb); have n4_ := Aside0.mk (blk_below (g := gb288) (o := .cells #[.int .i64 3, .int .i64 a0_0, .string (⟨#[]⟩ : ByteArray), .slice none 0 0, .slice none 0 0] 30 (0, 0)) (by (with_reducible repeat (first | refine blk_drewN ?_ _ | refine blk_drew ?_ | refine blk_alloc ?_ _)); exact BK288.out) hb); have n5_ := Aside0.mk (blk_below (g := gb289) (o := .cells #[.int .i64 3, .int .i64 a0_1, .string (⟨#[]⟩ : ByteArray), .slice none 0 0, .slice none 0 0] 30 (0, 0)) (by (with_reducible repeat (first | refine blk_drewN ?_ _ | refine blk_drew ?_ | refine blk_alloc ?_ _)); exact BK289.out) hb); have n6_ := Aside0.mk (blk_below (g := gb292) (o := .cells #[.int .i64 4, .int .i64 0, .string t290, .slice none 0 0, .slice none 0 0] 30 (0, 0)) (by (with_reducible repeat (first | refine blk_drewN ?_ _ | refine blk_drew ?_ | refine blk_alloc ?_ _)); exact BK292.out) hb); have n7_ := Aside0.mk (blk_below (g := gb293) (o := .cells #[.int .i64 4, .int .i64 0, .string t291, .slice none 0 0, .slice none 0 0] 30 (0, 0)) (by (with_reducible repeat (first | refine blk_drewN ?_ _ | refine blk_drew ?_ | refine blk_alloc ?_ _)); exact BK293.out) hb); have n8_ := Aside0.mk (below_step (by repeat (first | (with_reducible first | exact HB.out | apply below_alloc | apply pw_below_drewN | apply below_drew1 | refine below_set ?_ GE283.out | refine below_set ?_ GE284.out | refine below_set ?_ GE286.out | refine below_set ?_ GE287.out | refine below_set ?_ GE288.out | refine below_set ?_ GE289.out | refine below_set ?_ GE292.out | refine below_set ?_ GE293.out) | exact HB.out)) hb); clear BK283; clear BK284; clear BK286; clear BK287; clear BK288; clear BK289; clear BK292; clear BK293; clear HB; have BK283 := n0_; have BK284 := n1_; have BK286 := n2_; have BK287 := n3_; have BK288 := n4_; have BK289 := n5_; have BK292 := n6_; have BK293 := n7_; have HB := n8_; clear n0_ n1_ n2_ n3_ n4_ n5_ n6_ n7_ n8_; (try clear hb); (try clear hb2); (try clear hk); (try clear hi); (try clear A140)))
              go_ret
              exact ⟨by first | rfl | (simp [errW_none, errW_some] <;> rfl) | (simp [*, errW_none, errW_some] <;> rfl), by repeat (first | (with_reducible first | exact HB.out | apply below_alloc | apply pw_below_drewN | apply below_drew1 | refine below_set ?_ GE283.out | refine below_set ?_ GE284.out | refine below_set ?_ GE286.out | refine below_set ?_ GE287.out | refine below_set ?_ GE288.out | refine below_set ?_ GE289.out | refine below_set ?_ GE292.out | refine below_set ?_ GE293.out) | exact HB.out)⟩
            · rw [if_neg c139] at H
              have c139b0 : (t298 == (-1)) = false := beq_eq_false_iff_ne.mpr c139
              have c139b1 : (t298 != (-1)) = true := bne_iff_ne.mpr c139
              obtain rfl := Option.some.inj H
              have hnb160 := NB288_283.out
              have hnc160 := NB283_288.out
              have hnb161 := NB288_284.out
              have hnc161 := NB284_288.out
              have hnb162 := NB288_286.out
              have hnc162 := NB286_288.out
              have hnb163 := NB288_287.out
              have hnc163 := NB287_288.out
              have hnb164 := NB288_289.out
              have hnc164 := NB289_288.out
              have hnb165 := NB288_292.out
              have hnc165 := NB292_288.out
              have hnb166 := NB288_293.out
              have hnc166 := NB293_288.out
              have hcz167_0 : wc.cell? ⟨gb288, 0, none⟩ = some (.int .i64 3) := (blk_cell BK288.out 0).trans rfl
              have hcz167_1 : wc.cell? ⟨gb288, 1, none⟩ = some (.int .i64 a0_0) := (blk_cell BK288.out 1).trans rfl
              have hcz167_2 : wc.cell? ⟨gb288, 2, none⟩ = some (.string (⟨#[]⟩ : ByteArray)) := (blk_cell BK288.out 2).trans rfl
              have hcz167_3 : wc.cell? ⟨gb288, 3, none⟩ = some (.slice none 0 0) := (blk_cell BK288.out 3).trans rfl
              have hcz167_4 : wc.cell? ⟨gb288, 4, none⟩ = some (.slice none 0 0) := (blk_cell BK288.out 4).trans rfl
              have hfz167_0 := blk_frozen BK288.out 0
              have hfz167_1 := blk_frozen BK288.out 1
              have hfz167_2 := blk_frozen BK288.out 2
              have hfz167_3 := blk_frozen BK288.out 3
              have hfz167_4 := blk_frozen BK288.out 4
              go_wp2_with (first | ((with_reducible refine gate_callee (f := 17) rfl ?_); refine goesL_ (some 63) rfl rfl Tryd.func17 (by kernel_rfl) rfl #[.agg #[.int .i64 0, .int .i64 0, .string (⟨#[]⟩ : ByteArray), .slice none 0 0, .slice none 0 0], .agg #[.int .i64 3, .int .i64 a0_0, .string (⟨#[]⟩ : ByteArray), .slice none 0 0, .slice none 0 0]] rfl (by (try simp only [List.map_toArray, List.map_cons, List.map_nil]); first | done | rfl | (simp only [List.length_drop, List.length_take]; rfl)) ?_; (refine (order_Compare.calls kj6 0 0 (⟨#[]⟩ : ByteArray) _ _ ([] : List ByteArray) _ _ ([] : List (S30)) 3 a0_0 (⟨#[]⟩ : ByteArray) _ _ ([] : List ByteArray) _ _ ([] : List (S30)) t297 _ ?side1 ?side2 ?side3 ?side4 ?side5 ?side6 ?side7 ?side8 ?side9 A136.out).mono ?_); (case side1 => exact Kd.C_nil _ _); (case side2 => exact Nat.le_refl _); (case side3 => exact Kd.C_nil _ _); (case side4 => exact Nat.le_refl _); (case side5 => exact Kd.C_nil _ _); (case side6 => exact Nat.le_refl _); (case side7 => exact Kd.C_nil _ _); (case side8 => exact Nat.le_refl _); (case side9 => first | exact HT.out | (refine tabs_below HT.out ?_; repeat (first | exact HB.out | (with_reducible first | apply below_alloc | apply pw_below_drewN | apply below_drew1 | exact Below.refl _ _) | (refine below_set ?_ (Aside0.out (by assumption)))))); rintro e w168 ⟨rfl, hb⟩; refine ⟨_, rfl, ?_⟩; have n0_ := Aside0.mk (blk_below (g := gb283) (o := .cells #[.int .i64 a0_0, .int .i64 a0_1] 35 (0, 0)) (by (with_reducible repeat (first | refine blk_drewN ?_ _ | refine blk_drew ?_ | refine blk_alloc ?_ _)); exact BK283.out) hb); have n1_ := Aside0.mk (blk_below (g := gb284) (o := .cells #[.int .u8 a1_0, .int .u8 a1_1, .int .u8 a1_2, .int .u8 a1_3, .int .u8 a1_4, .int .u8 a1_5] 37 (0, 0)) (by (with_reducible repeat (first | refine blk_drewN ?_ _ | refine blk_drew ?_ | refine blk_alloc ?_ _)); exact BK284.out) hb); have n2_ := Aside0.mk (blk_below (g := gb286) (o := .cells #[.int .u8 a1_0, .int .u8 a1_1, .int .u8 a1_2] 36 (0, 0)) (by (with_reducible repeat (first | refine blk_drewN ?_ _ | refine blk_drew ?_ | refine blk_alloc ?_ _)); exact BK286.out) hb); have n3_ := Aside0.mk (blk_below (g := gb287) (o := .cells #[.int .u8 a1_3, .int .u8 a1_4, .int .u8 a1_5] 36 (0, 0)) (by (with_reducible repeat (first | refine blk_drewN ?_ _ | refine blk_drew ?_ | refine blk_alloc ?_ _)); exact BK287.out) hb); have n4_ := Aside0.mk (blk_below (g := gb288) (o := .cells #[.int .i64 3, .int .i64 a0_0, .string (⟨#[]⟩ : ByteArray), .slice none 0 0, .slice none 0 0] 30 (0, 0)) (by (with_reducible repeat (first | refine blk_drewN ?_ _ | refine blk_drew ?_ | refine blk_alloc ?_ _)); exact BK288.out) hb); have n5_ := Aside0.mk (blk_below (g := gb289) (o := .cells #[.int .i64 3, .int .i64 a0_1, .string (⟨#[]⟩ : ByteArray), .slice none 0 0, .slice none 0 0] 30 (0, 0)) (by (with_reducible repeat (first | refine blk_drewN ?_ _ | refine blk_drew ?_ | refine blk_alloc ?_ _)); exact BK289.out) hb); have n6_ := Aside0.mk (blk_below (g := gb292) (o := .cells #[.int .i64 4, .int .i64 0, .string t290, .slice none 0 0, .slice none 0 0] 30 (0, 0)) (by (with_reducible repeat (first | refine blk_drewN ?_ _ | refine blk_drew ?_ | refine blk_alloc ?_ _)); exact BK292.out) hb); have n7_ := Aside0.mk (blk_below (g := gb293) (o := .cells #[.int .i64 4, .int .i64 0, .string t291, .slice none 0 0, .slice none 0 0] 30 (0, 0)) (by (with_reducible repeat (first | refine blk_drewN ?_ _ | refine blk_drew ?_ | refine blk_alloc ?_ _)); exact BK293.out) hb); have n8_ := Aside0.mk (below_step (by repeat (first | (with_reducible first | exact HB.out | apply below_alloc | apply pw_below_drewN | apply below_drew1 | refine below_set ?_ GE283.out | refine below_set ?_ GE284.out | refine below_set ?_ GE286.out | refine below_set ?_ GE287.out | refine below_set ?_ GE288.out | refine below_set ?_ GE289.out | refine below_set ?_ GE292.out | refine below_set ?_ GE293.out) | exact HB.out)) hb); clear BK283; clear BK284; clear BK286; clear BK287; clear BK288; clear BK289; clear BK292; clear BK293; clear HB; have BK283 := n0_; have BK284 := n1_; have BK286 := n2_; have BK287 := n3_; have BK288 := n4_; have BK289 := n5_; have BK292 := n6_; have BK293 := n7_; have HB := n8_; clear n0_ n1_ n2_ n3_ n4_ n5_ n6_ n7_ n8_; (try clear hb); (try clear hb2); (try clear hk); (try clear hi); (try clear A136); have hcz169_0 : w168.cell? ⟨gb288, 0, none⟩ = some (.int .i64 3) := (blk_cell BK288.out 0).trans rfl; have hcz169_1 : w168.cell? ⟨gb288, 1, none⟩ = some (.int .i64 a0_0) := (blk_cell BK288.out 1).trans rfl; have hcz169_2 : w168.cell? ⟨gb288, 2, none⟩ = some (.string (⟨#[]⟩ : ByteArray)) := (blk_cell BK288.out 2).trans rfl; have hcz169_3 : w168.cell? ⟨gb288, 3, none⟩ = some (.slice none 0 0) := (blk_cell BK288.out 3).trans rfl; have hcz169_4 : w168.cell? ⟨gb288, 4, none⟩ = some (.slice none 0 0) := (blk_cell BK288.out 4).trans rfl; have hfz169_0 := blk_frozen BK288.out 0; have hfz169_1 := blk_frozen BK288.out 1; have hfz169_2 := blk_frozen BK288.out 2; have hfz169_3 := blk_frozen BK288.out 3; have hfz169_4 := blk_frozen BK288.out 4) | (go_at_call 17; (refine (order_Compare.calls kj6 1 0 (⟨#[]⟩ : ByteArray) _ _ ([] : List ByteArray) _ _ ([] : List (S30)) 3 a0_0 (⟨#[]⟩ : ByteArray) _ _ ([] : List ByteArray) _ _ ([] : List (S30)) t298 _ ?side1 ?side2 ?side3 ?side4 ?side5 ?side6 ?side7 ?side8 ?side9 A138.out).mono ?_); (case side1 => exact Kd.C_nil _ _); (case side2 => exact Nat.le_refl _); (case side3 => exact Kd.C_nil _ _); (case side4 => exact Nat.le_refl _); (case side5 => exact Kd.C_nil _ _); (case side6 => exact Nat.le_refl _); (case side7 => exact Kd.C_nil _ _); (case side8 => exact Nat.le_refl _); (case side9 => first | exact HT.out | (refine tabs_below HT.out ?_; repeat (first | exact HB.out | (with_reducible first | apply below_alloc | apply pw_below_drewN | apply below_drew1 | exact Below.refl _ _) | (refine below_set ?_ (Aside0.out (by assumption)))))); rintro e w170 ⟨rfl, hb⟩; have n0_ := Aside0.mk (blk_below (g := gb283) (o := .cells #[.int .i64 a0_0, .int .i64 a0_1] 35 (0, 0)) (by (with_reducible repeat (first | refine blk_drewN ?_ _ | refine blk_drew ?_ | refine blk_alloc ?_ _)); exact BK283.out) hb); have n1_ := Aside0.mk (blk_below (g := gb284) (o := .cells #[.int .u8 a1_0, .int .u8 a1_1, .int .u8 a1_2, .int .u8 a1_3, .int .u8 a1_4, .int .u8 a1_5] 37 (0, 0)) (by (with_reducible repeat (first | refine blk_drewN ?_ _ | refine blk_drew ?_ | refine blk_alloc ?_ _)); exact BK284.out) hb); have n2_ := Aside0.mk (blk_below (g := gb286) (o := .cells #[.int .u8 a1_0, .int .u8 a1_1, .int .u8 a1_2] 36 (0, 0)) (by (with_reducible repeat (first | refine blk_drewN ?_ _ | refine blk_drew ?_ | refine blk_alloc ?_ _)); exact BK286.out) hb); have n3_ := Aside0.mk (blk_below (g := gb287) (o := .cells #[.int .u8 a1_3, .int .u8 a1_4, .int .u8 a1_5] 36 (0, 0)) (by (with_reducible repeat (first | refine blk_drewN ?_ _ | refine blk_drew ?_ | refine blk_alloc ?_ _)); exact BK287.out) hb); have n4_ := Aside0.mk (blk_below (g := gb288) (o := .cells #[.int .i64 3, .int .i64 a0_0, .string (⟨#[]⟩ : ByteArray), .slice none 0 0, .slice none 0 0] 30 (0, 0)) (by (with_reducible repeat (first | refine blk_drewN ?_ _ | refine blk_drew ?_ | refine blk_alloc ?_ _)); exact BK288.out) hb); have n5_ := Aside0.mk (blk_below (g := gb289) (o := .cells #[.int .i64 3, .int .i64 a0_1, .string (⟨#[]⟩ : ByteArray), .slice none 0 0, .slice none 0 0] 30 (0, 0)) (by (with_reducible repeat (first | refine blk_drewN ?_ _ | refine blk_drew ?_ | refine blk_alloc ?_ _)); exact BK289.out) hb); have n6_ := Aside0.mk (blk_below (g := gb292) (o := .cells #[.int .i64 4, .int .i64 0, .string t290, .slice none 0 0, .slice none 0 0] 30 (0, 0)) (by (with_reducible repeat (first | refine blk_drewN ?_ _ | refine blk_drew ?_ | refine blk_alloc ?_ _)); exact BK292.out) hb); have n7_ := Aside0.mk (blk_below (g := gb293) (o := .cells #[.int .i64 4, .int .i64 0, .string t291, .slice none 0 0, .slice none 0 0] 30 (0, 0)) (by (with_reducible repeat (first | refine blk_drewN ?_ _ | refine blk_drew ?_ | refine blk_alloc ?_ _)); exact BK293.out) hb); have n8_ := Aside0.mk (below_step (by repeat (first | (with_reducible first | exact HB.out | apply below_alloc | apply pw_below_drewN | apply below_drew1 | refine below_set ?_ GE283.out | refine below_set ?_ GE284.out | refine below_set ?_ GE286.out | refine below_set ?_ GE287.out | refine below_set ?_ GE288.out | refine below_set ?_ GE289.out | refine below_set ?_ GE292.out | refine below_set ?_ GE293.out) | exact HB.out)) hb); clear BK283; clear BK284; clear BK286; clear BK287; clear BK288; clear BK289; clear BK292; clear BK293; clear HB; have BK283 := n0_; have BK284 := n1_; have BK286 := n2_; have BK287 := n3_; have BK288 := n4_; have BK289 := n5_; have BK292 := n6_; have BK293 := n7_; have HB := n8_; clear n0_ n1_ n2_ n3_ n4_ n5_ n6_ n7_ n8_; (try clear hb); (try clear hb2); (try clear hk); (try clear hi); (try clear A138)))
              go_ret
              exact ⟨by first | rfl | (simp [errW_none, errW_some] <;> rfl) | (simp [*, errW_none, errW_some] <;> rfl), by repeat (first | (with_reducible first | exact HB.out | apply below_alloc | apply pw_below_drewN | apply below_drew1 | refine below_set ?_ GE283.out | refine below_set ?_ GE284.out | refine below_set ?_ GE286.out | refine below_set ?_ GE287.out | refine below_set ?_ GE288.out | refine below_set ?_ GE289.out | refine below_set ?_ GE292.out | refine below_set ?_ GE293.out) | exact HB.out)⟩
          · rw [if_neg c137] at H
            have c137b0 : (t297 == (-1)) = false := beq_eq_false_iff_ne.mpr c137
            have c137b1 : (t297 != (-1)) = true := bne_iff_ne.mpr c137
            obtain rfl := Option.some.inj H
            have hnb171 := NB288_283.out
            have hnc171 := NB283_288.out
            have hnb172 := NB288_284.out
            have hnc172 := NB284_288.out
            have hnb173 := NB288_286.out
            have hnc173 := NB286_288.out
            have hnb174 := NB288_287.out
            have hnc174 := NB287_288.out
            have hnb175 := NB288_289.out
            have hnc175 := NB289_288.out
            have hnb176 := NB288_292.out
            have hnc176 := NB292_288.out
            have hnb177 := NB288_293.out
            have hnc177 := NB293_288.out
            have hcz178_0 : wc.cell? ⟨gb288, 0, none⟩ = some (.int .i64 3) := (blk_cell BK288.out 0).trans rfl
            have hcz178_1 : wc.cell? ⟨gb288, 1, none⟩ = some (.int .i64 a0_0) := (blk_cell BK288.out 1).trans rfl
            have hcz178_2 : wc.cell? ⟨gb288, 2, none⟩ = some (.string (⟨#[]⟩ : ByteArray)) := (blk_cell BK288.out 2).trans rfl
            have hcz178_3 : wc.cell? ⟨gb288, 3, none⟩ = some (.slice none 0 0) := (blk_cell BK288.out 3).trans rfl
            have hcz178_4 : wc.cell? ⟨gb288, 4, none⟩ = some (.slice none 0 0) := (blk_cell BK288.out 4).trans rfl
            have hfz178_0 := blk_frozen BK288.out 0
            have hfz178_1 := blk_frozen BK288.out 1
            have hfz178_2 := blk_frozen BK288.out 2
            have hfz178_3 := blk_frozen BK288.out 3
            have hfz178_4 := blk_frozen BK288.out 4
            go_wp2_with (first | ((with_reducible refine gate_callee (f := 17) rfl ?_); refine goesL_ (some 63) rfl rfl Tryd.func17 (by kernel_rfl) rfl #[.agg #[.int .i64 0, .int .i64 0, .string (⟨#[]⟩ : ByteArray), .slice none 0 0, .slice none 0 0], .agg #[.int .i64 3, .int .i64 a0_0, .string (⟨#[]⟩ : ByteArray), .slice none 0 0, .slice none 0 0]] rfl (by (try simp only [List.map_toArray, List.map_cons, List.map_nil]); first | done | rfl | (simp only [List.length_drop, List.length_take]; rfl)) ?_; (refine (order_Compare.calls kj6 0 0 (⟨#[]⟩ : ByteArray) _ _ ([] : List ByteArray) _ _ ([] : List (S30)) 3 a0_0 (⟨#[]⟩ : ByteArray) _ _ ([] : List ByteArray) _ _ ([] : List (S30)) t297 _ ?side1 ?side2 ?side3 ?side4 ?side5 ?side6 ?side7 ?side8 ?side9 A136.out).mono ?_); (case side1 => exact Kd.C_nil _ _); (case side2 => exact Nat.le_refl _); (case side3 => exact Kd.C_nil _ _); (case side4 => exact Nat.le_refl _); (case side5 => exact Kd.C_nil _ _); (case side6 => exact Nat.le_refl _); (case side7 => exact Kd.C_nil _ _); (case side8 => exact Nat.le_refl _); (case side9 => first | exact HT.out | (refine tabs_below HT.out ?_; repeat (first | exact HB.out | (with_reducible first | apply below_alloc | apply pw_below_drewN | apply below_drew1 | exact Below.refl _ _) | (refine below_set ?_ (Aside0.out (by assumption)))))); rintro e w179 ⟨rfl, hb⟩; refine ⟨_, rfl, ?_⟩; have n0_ := Aside0.mk (blk_below (g := gb283) (o := .cells #[.int .i64 a0_0, .int .i64 a0_1] 35 (0, 0)) (by (with_reducible repeat (first | refine blk_drewN ?_ _ | refine blk_drew ?_ | refine blk_alloc ?_ _)); exact BK283.out) hb); have n1_ := Aside0.mk (blk_below (g := gb284) (o := .cells #[.int .u8 a1_0, .int .u8 a1_1, .int .u8 a1_2, .int .u8 a1_3, .int .u8 a1_4, .int .u8 a1_5] 37 (0, 0)) (by (with_reducible repeat (first | refine blk_drewN ?_ _ | refine blk_drew ?_ | refine blk_alloc ?_ _)); exact BK284.out) hb); have n2_ := Aside0.mk (blk_below (g := gb286) (o := .cells #[.int .u8 a1_0, .int .u8 a1_1, .int .u8 a1_2] 36 (0, 0)) (by (with_reducible repeat (first | refine blk_drewN ?_ _ | refine blk_drew ?_ | refine blk_alloc ?_ _)); exact BK286.out) hb); have n3_ := Aside0.mk (blk_below (g := gb287) (o := .cells #[.int .u8 a1_3, .int .u8 a1_4, .int .u8 a1_5] 36 (0, 0)) (by (with_reducible repeat (first | refine blk_drewN ?_ _ | refine blk_drew ?_ | refine blk_alloc ?_ _)); exact BK287.out) hb); have n4_ := Aside0.mk (blk_below (g := gb288) (o := .cells #[.int .i64 3, .int .i64 a0_0, .string (⟨#[]⟩ : ByteArray), .slice none 0 0, .slice none 0 0] 30 (0, 0)) (by (with_reducible repeat (first | refine blk_drewN ?_ _ | refine blk_drew ?_ | refine blk_alloc ?_ _)); exact BK288.out) hb); have n5_ := Aside0.mk (blk_below (g := gb289) (o := .cells #[.int .i64 3, .int .i64 a0_1, .string (⟨#[]⟩ : ByteArray), .slice none 0 0, .slice none 0 0] 30 (0, 0)) (by (with_reducible repeat (first | refine blk_drewN ?_ _ | refine blk_drew ?_ | refine blk_alloc ?_ _)); exact BK289.out) hb); have n6_ := Aside0.mk (blk_below (g := gb292) (o := .cells #[.int .i64 4, .int .i64 0, .string t290, .slice none 0 0, .slice none 0 0] 30 (0, 0)) (by (with_reducible repeat (first | refine blk_drewN ?_ _ | refine blk_drew ?_ | refine blk_alloc ?_ _)); exact BK292.out) hb); have n7_ := Aside0.mk (blk_below (g := gb293) (o := .cells #[.int .i64 4, .int .i64 0, .string t291, .slice none 0 0, .slice none 0 0] 30 (0, 0)) (by (with_reducible repeat (first | refine blk_drewN ?_ _ | refine blk_drew ?_ | refine blk_alloc ?_ _)); exact BK293.out) hb); have n8_ := Aside0.mk (below_step (by repeat (first | (with_reducible first | exact HB.out | apply below_alloc | apply pw_below_drewN | apply below_drew1 | refine below_set ?_ GE283.out | refine below_set ?_ GE284.out | refine below_set ?_ GE286.out | refine below_set ?_ GE287.out | refine below_set ?_ GE288.out | refine below_set ?_ GE289.out | refine below_set ?_ GE292.out | refine below_set ?_ GE293.out) | exact HB.out)) hb); clear BK283; clear BK284; clear BK286; clear BK287; clear BK288; clear BK289; clear BK292; clear BK293; clear HB; have BK283 := n0_; have BK284 := n1_; have BK286 := n2_; have BK287 := n3_; have BK288 := n4_; have BK289 := n5_; have BK292 := n6_; have BK293 := n7_; have HB := n8_; clear n0_ n1_ n2_ n3_ n4_ n5_ n6_ n7_ n8_; (try clear hb); (try clear hb2); (try clear hk); (try clear hi); (try clear A136)))
            go_ret
            exact ⟨by first | rfl | (simp [errW_none, errW_some] <;> rfl) | (simp [*, errW_none, errW_some] <;> rfl), by repeat (first | (with_reducible first | exact HB.out | apply below_alloc | apply pw_below_drewN | apply below_drew1 | refine below_set ?_ GE283.out | refine below_set ?_ GE284.out | refine below_set ?_ GE286.out | refine below_set ?_ GE287.out | refine below_set ?_ GE288.out | refine below_set ?_ GE289.out | refine below_set ?_ GE292.out | refine below_set ?_ GE293.out) | exact HB.out)⟩
  · replace c4 := Bool.eq_false_iff.mpr c4
    subst c4
    have H1 : (some false) = some r := by rw [if_neg (show ¬ (false = true) by decide)] at H; exact H
    clear H
    have H := H1
    clear H1
    obtain rfl := Option.some.inj H
    go_enter Tryd.func7, Tryd.ntmps7
    go_wp2_with (first | ((with_reducible refine gate_dst (N := 2) rfl ?_); refine box_event ?hg (N := 2) ?hd (cs := #[.int .i64 a0_0, .int .i64 a0_1]) (t := 35) ?hr ?_; (case hd => rfl); (case hg => rfl); (case hr => first | (go_simp; done) | (go_simp; rfl)); intro gb283 hg w180 hbox hb; have n0_ := Aside0.mk (below_step (by repeat (first | (with_reducible first | exact HB.out | apply below_alloc | apply pw_below_drewN | apply below_drew1) | exact HB.out)) hb); have n1_ := Aside0.mk (hbox); have n2_ := Aside0.mk ((by rw [hg]; exact (below_size (by repeat (first | (with_reducible first | exact HB.out | apply below_alloc | apply pw_below_drewN | apply below_drew1) | exact HB.out))) : w.heap.size ≤ gb283)); have n3_ := Aside0.mk ((by rw [hg]; exact (below_size (by repeat (first | (with_reducible first | exact HB.out | apply below_alloc | apply pw_below_drewN | apply below_drew1) | exact HB.out))) : w.heap.size ≤ gb283)); clear HB; have HB := n0_; have BK283 := n1_; have GW283 := n2_; have GE283 := n3_; clear n0_ n1_ n2_ n3_; clear hb hbox hg) | ((with_reducible refine gate_dst (N := 3) rfl ?_); refine box_event ?hg (N := 3) ?hd (cs := #[.int .u8 a1_0, .int .u8 a1_1, .int .u8 a1_2, .int .u8 a1_3, .int .u8 a1_4, .int .u8 a1_5]) (t := 37) ?hr ?_; (case hd => rfl); (case hg => rfl); (case hr => first | (go_simp; done) | (go_simp; rfl)); intro gb284 hg w181 hbox hb; have n0_ := Aside0.mk (blk_below (g := gb283) (o := .cells #[.int .i64 a0_0, .int .i64 a0_1] 35 (0, 0)) (by (with_reducible repeat (first | refine blk_drewN ?_ _ | refine blk_drew ?_ | refine blk_alloc ?_ _)); exact BK283.out) hb); have n1_ := Aside0.mk (below_step (by repeat (first | (with_reducible first | exact HB.out | apply below_alloc | apply pw_below_drewN | apply below_drew1 | refine below_set ?_ GE283.out) | exact HB.out)) hb); have n2_ := Aside0.mk (hbox); have n3_ := Aside0.mk ((by rw [hg]; exact (below_size (by repeat (first | (with_reducible first | exact HB.out | apply below_alloc | apply pw_below_drewN | apply below_drew1 | refine below_set ?_ GE283.out) | exact HB.out))) : w.heap.size ≤ gb284)); have n4_ := Aside0.mk ((by rw [hg]; exact (below_size (by repeat (first | (with_reducible first | exact HB.out | apply below_alloc | apply pw_below_drewN | apply below_drew1 | refine below_set ?_ GE283.out) | exact HB.out))) : w.heap.size ≤ gb284)); have n5_ := Aside0.mk ((by rw [hg]; exact Nat.ne_of_lt (blk_lt (g := gb283) (o := .cells #[.int .i64 a0_0, .int .i64 a0_1] 35 (0, 0)) (by (with_reducible repeat (first | refine blk_drewN ?_ _ | refine blk_drew ?_ | refine blk_alloc ?_ _)); exact BK283.out)) : gb283 ≠ gb284)); have n6_ := Aside0.mk ((by rw [hg]; exact Nat.ne_of_gt (blk_lt (g := gb283) (o := .cells #[.int .i64 a0_0, .int .i64 a0_1] 35 (0, 0)) (by (with_reducible repeat (first | refine blk_drewN ?_ _ | refine blk_drew ?_ | refine blk_alloc ?_ _)); exact BK283.out)) : gb284 ≠ gb283)); clear BK283; clear HB; have BK283 := n0_; have HB := n1_; have BK284 := n2_; have GW284 := n3_; have GE284 := n4_; have NB283_284 := n5_; have NB284_283 := n6_; clear n0_ n1_ n2_ n3_ n4_ n5_ n6_; clear hb hbox hg) | ((with_reducible refine gate_callee (f := 9) rfl ?_); refine goesL_ (some 15) rfl rfl Tryd.func9 (by kernel_rfl) rfl #[] rfl (by (try simp only [List.map_toArray, List.map_cons, List.map_nil]); first | done | rfl | (simp only [List.length_drop, List.length_take]; rfl)) ?_; (with_reducible refine (munimentlaw03_awake.calls k  false _ ?side1 A3.out).mono ?_); (case side1 => first | exact HT.out | (refine tabs_below HT.out ?_; repeat (first | exact HB.out | (with_reducible first | apply below_alloc | apply pw_below_drewN | apply below_drew1 | exact Below.refl _ _) | (refine below_set ?_ (Aside0.out (by assumption)))))); rintro e w182 ⟨rfl, hb⟩; refine ⟨_, rfl, ?_⟩; have n0_ := Aside0.mk (blk_below (g := gb283) (o := .cells #[.int .i64 a0_0, .int .i64 a0_1] 35 (0, 0)) (by (with_reducible repeat (first | refine blk_drewN ?_ _ | refine blk_drew ?_ | refine blk_alloc ?_ _)); exact BK283.out) hb); have n1_ := Aside0.mk (blk_below (g := gb284) (o := .cells #[.int .u8 a1_0, .int .u8 a1_1, .int .u8 a1_2, .int .u8 a1_3, .int .u8 a1_4, .int .u8 a1_5] 37 (0, 0)) (by (with_reducible repeat (first | refine blk_drewN ?_ _ | refine blk_drew ?_ | refine blk_alloc ?_ _)); exact BK284.out) hb); have n2_ := Aside0.mk (below_step (by repeat (first | (with_reducible first | exact HB.out | apply below_alloc | apply pw_below_drewN | apply below_drew1 | refine below_set ?_ GE283.out | refine below_set ?_ GE284.out) | exact HB.out)) hb); clear BK283; clear BK284; clear HB; have BK283 := n0_; have BK284 := n1_; have HB := n2_; clear n0_ n1_ n2_; (try clear hb); (try clear hb2); (try clear hk); (try clear hi); (try clear A3)))
    go_ret
    exact ⟨by first | rfl | (simp [errW_none, errW_some] <;> rfl) | (simp [*, errW_none, errW_some] <;> rfl), by repeat (first | (with_reducible first | exact HB.out | apply below_alloc | apply pw_below_drewN | apply below_drew1 | refine below_set ?_ GE283.out | refine below_set ?_ GE284.out) | exact HB.out)⟩
end Go.Proofs.YtegcbfgoomopdaaDoor.PO
