-- Written by a program of this session (wip/tools/patch_print.py) over the translation. Not trusted: Lean checks it.
import Derived.Test.YtpbcjhckhocgeaaPSx0
namespace Go.Proofs.Ytpbcjhckhocgeaa.PS
open Go.RowKit Go.Proofs.YtpbcjhckhocgeaaW.PrintWords Go.Proofs.YtpbcjhckhocgeaaW.PrintLast Go.Proofs.YtpbcjhckhocgeaaW.PrintMore
attribute [local go_sem] max2_int min2_int max_two min_two max_three min_three max_four min_four   -- for this text's walks alone
set_option linter.unusedVariables false
set_option linter.unusedSimpArgs false

/-! ### munimentref05_Read: function 18 -/
mutual
def munimentref05_Read.l0 : Nat → List Int → Int → Int → List Int → Int → Option (Int × List Int × Int × Int)
  | 0, _, _, _, _, _ => none
  | k + 1, x0, x5, x270000, x270001, x270002 => if (wrap64 (x5 + 1)) ≥ (x0.length : Int) then (munimentref05_Read.j1 k x0 x5 true x270000 x270001 x270002) else (munimentref05_Read.j1 k x0 x5 (decide ((x270001.length : Int) > 200)) x270000 x270001 x270002)
def munimentref05_Read.j1 : Nat → List Int → Int → Bool → Int → List Int → Int → Option (Int × List Int × Int × Int)
  | 0, _, _, _, _, _, _ => none
  | k + 1, x0, x5, x27, x270000, x270001, x270002 => if x27 = true then (some (0, ([] : List Int), 0, 11)) else (if 0 ≤ x5 then (if x5 < (x0.length : Int) then (if (rd x0 x5) = 0 then (if 0 ≤ (wrap64 (x5 + 1)) then (if (wrap64 (x5 + 1)) < (x0.length : Int) then (if (rd x0 (wrap64 (x5 + 1))) = 0 then (if (x0.length : Int) = (wrap64 (x5 + 10)) then (munimentref05_Read.j2 k x0 x5 (decide ((x270001.length : Int) > 200)) x270000 x270001 x270002) else (munimentref05_Read.j2 k x0 x5 true x270000 x270001 x270002)) else (if (rd x0 (wrap64 (x5 + 1))) = 255 then (if x270001.length < 140737488355328 then (munimentref05_Read.l0 k x0 (wrap64 (x5 + 2)) x270000 (x270001 ++ [0]) x270002) else (none)) else (some (0, ([] : List Int), 0, 11)))) else (none)) else (none)) else (if x270001.length < 140737488355328 then (munimentref05_Read.l0 k x0 (wrap64 (x5 + 1)) x270000 (x270001 ++ [rd x0 x5]) x270002) else (none))) else (none)) else (none))
def munimentref05_Read.j2 : Nat → List Int → Int → Bool → Int → List Int → Int → Option (Int × List Int × Int × Int)
  | 0, _, _, _, _, _, _ => none
  | k + 1, x0, x5, x75, x270000, x270001, x270002 => if x75 = true then (some (0, ([] : List Int), 0, 11)) else (munimentref05_Read.l1 k x0 0 (wrap64 (x5 + 2)) x270000 x270001 x270002)
def munimentref05_Read.l1 : Nat → List Int → Int → Int → Int → List Int → Int → Option (Int × List Int × Int × Int)
  | 0, _, _, _, _, _, _ => none
  | k + 1, x0, x6, x7, x270000, x270001, x270002 => if x7 < (x0.length : Int) then (if 0 ≤ x7 then (munimentref05_Read.l1 k x0 (IntKind.u64.wrap ((IntKind.u64.wrap (x6 * 256)) + (IntKind.u64.wrap (rd x0 x7)))) (wrap64 (x7 + 1)) x270000 x270001 x270002) else (none)) else (some (x270000, x270001, IntKind.u64.wrap (18446744073709551615 - x6), 0))
end
def munimentref05_Read.f (k : Nat) (l0 : List Int) : Option (Int × List Int × Int × Int) := if (l0.length : Int) = 0 then (some (0, ([] : List Int), 0, 11)) else (if 0 < (l0.length : Int) then (munimentref05_Read.l0 k l0 1 (wrap64 (rd l0 0)) ([] : List Int) 0) else (none))
theorem munimentref05_Read.mono_l : ∀ k, (∀ y0 y1 y2 y3 y4, LeO (munimentref05_Read.l0 k y0 y1 y2 y3 y4) (munimentref05_Read.l0 (k + 1) y0 y1 y2 y3 y4)) ∧ (∀ y0 y1 y2 y3 y4 y5, LeO (munimentref05_Read.j1 k y0 y1 y2 y3 y4 y5) (munimentref05_Read.j1 (k + 1) y0 y1 y2 y3 y4 y5)) ∧ (∀ y0 y1 y2 y3 y4 y5, LeO (munimentref05_Read.j2 k y0 y1 y2 y3 y4 y5) (munimentref05_Read.j2 (k + 1) y0 y1 y2 y3 y4 y5)) ∧ (∀ y0 y1 y2 y3 y4 y5, LeO (munimentref05_Read.l1 k y0 y1 y2 y3 y4 y5) (munimentref05_Read.l1 (k + 1) y0 y1 y2 y3 y4 y5))
  | 0 => ⟨fun _ _ _ _ _ r h => by simp [munimentref05_Read.l0] at h, fun _ _ _ _ _ _ r h => by simp [munimentref05_Read.j1] at h, fun _ _ _ _ _ _ r h => by simp [munimentref05_Read.j2] at h, fun _ _ _ _ _ _ r h => by simp [munimentref05_Read.l1] at h⟩
  | k + 1 => by
    obtain ⟨ih0, ih1, ih2, ih3⟩ := munimentref05_Read.mono_l k
    refine ⟨?_, ?_, ?_, ?_⟩
    · intro y0 y1 y2 y3 y4
      unfold munimentref05_Read.l0
      repeat' first
      | (with_reducible exact ih0 _ _ _ _ _)
      | (with_reducible exact ih1 _ _ _ _ _ _)
      | (with_reducible exact ih2 _ _ _ _ _ _)
      | (with_reducible exact ih3 _ _ _ _ _ _)
      | (with_reducible exact LeO.refl _)
      | (with_reducible exact LeO.none _)
      | (with_reducible refine LeO.ite ?_ ?_)
      | (with_reducible refine LeO.bind ?_ (fun _ => ?_))
      | exact ih0 _ _ _ _ _
      | exact ih1 _ _ _ _ _ _
      | exact ih2 _ _ _ _ _ _
      | exact ih3 _ _ _ _ _ _
      | exact LeO.none _
      | refine LeO.ite ?_ ?_
      | refine LeO.bind ?_ (fun _ => ?_)
    · intro y0 y1 y2 y3 y4 y5
      unfold munimentref05_Read.j1
      repeat' first
      | (with_reducible exact ih0 _ _ _ _ _)
      | (with_reducible exact ih1 _ _ _ _ _ _)
      | (with_reducible exact ih2 _ _ _ _ _ _)
      | (with_reducible exact ih3 _ _ _ _ _ _)
      | (with_reducible exact LeO.refl _)
      | (with_reducible exact LeO.none _)
      | (with_reducible refine LeO.ite ?_ ?_)
      | (with_reducible refine LeO.bind ?_ (fun _ => ?_))
      | exact ih0 _ _ _ _ _
      | exact ih1 _ _ _ _ _ _
      | exact ih2 _ _ _ _ _ _
      | exact ih3 _ _ _ _ _ _
      | exact LeO.none _
      | refine LeO.ite ?_ ?_
      | refine LeO.bind ?_ (fun _ => ?_)
    · intro y0 y1 y2 y3 y4 y5
      unfold munimentref05_Read.j2
      repeat' first
      | (with_reducible exact ih0 _ _ _ _ _)
      | (with_reducible exact ih1 _ _ _ _ _ _)
      | (with_reducible exact ih2 _ _ _ _ _ _)
      | (with_reducible exact ih3 _ _ _ _ _ _)
      | (with_reducible exact LeO.refl _)
      | (with_reducible exact LeO.none _)
      | (with_reducible refine LeO.ite ?_ ?_)
      | (with_reducible refine LeO.bind ?_ (fun _ => ?_))
      | exact ih0 _ _ _ _ _
      | exact ih1 _ _ _ _ _ _
      | exact ih2 _ _ _ _ _ _
      | exact ih3 _ _ _ _ _ _
      | exact LeO.none _
      | refine LeO.ite ?_ ?_
      | refine LeO.bind ?_ (fun _ => ?_)
    · intro y0 y1 y2 y3 y4 y5
      unfold munimentref05_Read.l1
      repeat' first
      | (with_reducible exact ih0 _ _ _ _ _)
      | (with_reducible exact ih1 _ _ _ _ _ _)
      | (with_reducible exact ih2 _ _ _ _ _ _)
      | (with_reducible exact ih3 _ _ _ _ _ _)
      | (with_reducible exact LeO.refl _)
      | (with_reducible exact LeO.none _)
      | (with_reducible refine LeO.ite ?_ ?_)
      | (with_reducible refine LeO.bind ?_ (fun _ => ?_))
      | exact ih0 _ _ _ _ _
      | exact ih1 _ _ _ _ _ _
      | exact ih2 _ _ _ _ _ _
      | exact ih3 _ _ _ _ _ _
      | exact LeO.none _
      | refine LeO.ite ?_ ?_
      | refine LeO.bind ?_ (fun _ => ?_)
theorem munimentref05_Read.mono : ∀ a0 k, LeO (munimentref05_Read.f k a0) (munimentref05_Read.f (k + 1) a0) := by
  intro a0 k
  obtain ⟨ih0, ih1, ih2, ih3⟩ := munimentref05_Read.mono_l k
  unfold munimentref05_Read.f
  repeat' first
      | (with_reducible exact ih0 _ _ _ _ _)
      | (with_reducible exact ih1 _ _ _ _ _ _)
      | (with_reducible exact ih2 _ _ _ _ _ _)
      | (with_reducible exact ih3 _ _ _ _ _ _)
      | (with_reducible exact LeO.refl _)
      | (with_reducible exact LeO.none _)
      | (with_reducible refine LeO.ite ?_ ?_)
      | (with_reducible refine LeO.bind ?_ (fun _ => ?_))
      | exact ih0 _ _ _ _ _
      | exact ih1 _ _ _ _ _ _
      | exact ih2 _ _ _ _ _ _
      | exact ih3 _ _ _ _ _ _
      | exact LeO.none _
      | refine LeO.ite ?_ ?_
      | refine LeO.bind ?_ (fun _ => ?_)
def munimentref05_Read.T9 : Bool × List (List Nat × List Nat) := (true, [([], []), ([0], [0]), ([], []), ([], []), ([2, 3], [2, 3]), ([4], [4]), ([5], [5]), ([1, 6], [1, 6]), ([0, 1, 2, 3, 4, 5, 6, 7], []), ([8, 7, 7, 0, 1, 2, 3, 4, 5, 6, 7], [7, 8])])
def munimentref05_Read.B9 : List Nat := [0, 1, 0, 0, 12, 28, 60, 127, 255, 511]
theorem munimentref05_Read.tab9 : rtab .any (opsOf Try.f18 9) = munimentref05_Read.T9 := by kernel_rfl
theorem munimentref05_Read.bits9 : waitsOk munimentref05_Read.T9.2 munimentref05_Read.B9 = true := by kernel_rfl
set_option maxHeartbeats 8000000 in
set_option maxRecDepth 100000 in
theorem munimentref05_Read.calls (k : Nat) (A0 : Option Addr) (c0 : Nat) (l0 : List Int) (r1 : Int) (r2 : List Int) (r3 : Int) (r4 : Int) (w : World) (hr0 : Kd.C (Kd.int .u8) w A0 l0.length l0) (hc0 : l0.length ≤ c0) (h : munimentref05_Read.f k l0 = some (r1, r2, r3, r4)) :
    Calls Try.prog 18 #[.slice A0 l0.length c0] w fun e w' => ∃ v1_ : Value, e = .returned (.tuple #[.agg #[.int .i64 r1, v1_, .int .u64 r3], .int .i64 r4]) ∧ Kd.R (Kd.int .u8) 5 w' w.heap.size (fun _ => True) v1_ r2 ∧ Below w.heap.size w w' := by
  have hu31 := Try.underlying31
  have HR0 := Aside0.mk hr0
  have HC0 := Aside0.mk hc0
  clear hr0 hc0
  have HB := Aside0.mk (Below.refl w.heap.size w)
  have H : (if (l0.length : Int) = 0 then (some (0, ([] : List Int), 0, 11)) else (if 0 < (l0.length : Int) then (munimentref05_Read.l0 k l0 1 (wrap64 (rd l0 0)) ([] : List Int) 0) else (none))) = some (r1, r2, r3, r4) := h
  clear h
  by_cases c2 : (l0.length : Int) = 0
  · rw [if_pos c2] at H
    have c2b0 : ((l0.length : Int) == 0) = true := beq_iff_eq.mpr c2
    have c2b1 : ((l0.length : Int) != 0) = false := bne_eq_false_iff_eq.mpr c2
    clear c2
    simp only [Option.some.injEq, Prod.mk.injEq] at H
    obtain ⟨rfl, rfl, rfl, rfl⟩ := H
    go_enter Try.func18, Try.ntmps18
    go_wp2_with (first | ((with_reducible refine gate_dst (N := 2) rfl ?_); (try (refine gate_guard (by rfl) ?_; dsimp only)); refine box_event ?hg (N := 2) ?hd (cs := #[.int .i64 0, .slice none 0 0, .int .u64 0]) (t := 31) ?hr ?_; (case hd => rfl); (case hg => rfl); (case hr => first | (go_simp; done) | (go_simp; rfl)); intro gb268 hg w3 hbox hb; have n0_ := Aside0.mk (below_step (by repeat (first | (with_reducible first | exact HB.out | apply below_alloc | apply pw_below_drewN | apply below_drew1) | exact HB.out)) hb); have n1_ := Aside0.mk (hbox); have n2_ := Aside0.mk ((by rw [hg]; exact (below_size (by repeat (first | (with_reducible first | exact HB.out | apply below_alloc | apply pw_below_drewN | apply below_drew1) | exact HB.out))) : w.heap.size ≤ gb268)); have n3_ := Aside0.mk ((by rw [hg]; exact (below_size (by repeat (first | (with_reducible first | exact HB.out | apply below_alloc | apply pw_below_drewN | apply below_drew1) | exact HB.out))) : w.heap.size ≤ gb268)); clear HB; have HB := n0_; have BK268 := n1_; have GW268 := n2_; have GE268 := n3_; clear n0_ n1_ n2_ n3_; clear hb hbox hg) | ((with_reducible refine gate_dst (N := 4) rfl ?_); (try (refine gate_guard (by rfl) ?_; dsimp only)); refine box_event ?hg (N := 4) ?hd (cs := #[.int .i64 0, .slice none 0 0, .int .u64 0]) (t := 31) ?hr ?_; (case hd => rfl); (case hg => rfl); (case hr => first | (go_simp; done) | (go_simp; rfl)); intro gb269 hg w4 hbox hb; have n0_ := Aside0.mk (blk_below (g := gb268) (o := .cells #[.int .i64 0, .slice none 0 0, .int .u64 0] 31 (0, 0)) (by (with_reducible repeat (first | refine blk_drewN ?_ _ | refine blk_drew ?_ | refine blk_alloc ?_ _)); exact BK268.out) hb); have n1_ := Aside0.mk (below_step (by repeat (first | (with_reducible first | exact HB.out | apply below_alloc | apply pw_below_drewN | apply below_drew1 | refine below_set ?_ GE268.out) | exact HB.out)) hb); have n2_ := Aside0.mk (hbox); have n3_ := Aside0.mk ((by rw [hg]; exact (below_size (by repeat (first | (with_reducible first | exact HB.out | apply below_alloc | apply pw_below_drewN | apply below_drew1 | refine below_set ?_ GE268.out) | exact HB.out))) : w.heap.size ≤ gb269)); have n4_ := Aside0.mk ((by rw [hg]; exact (below_size (by repeat (first | (with_reducible first | exact HB.out | apply below_alloc | apply pw_below_drewN | apply below_drew1 | refine below_set ?_ GE268.out) | exact HB.out))) : w.heap.size ≤ gb269)); have n5_ := Aside0.mk ((by rw [hg]; exact Nat.ne_of_lt (blk_lt (g := gb268) (o := .cells #[.int .i64 0, .slice none 0 0, .int .u64 0] 31 (0, 0)) (by (with_reducible repeat (first | refine blk_drewN ?_ _ | refine blk_drew ?_ | refine blk_alloc ?_ _)); exact BK268.out)) : gb268 ≠ gb269)); have n6_ := Aside0.mk ((by rw [hg]; exact Nat.ne_of_gt (blk_lt (g := gb268) (o := .cells #[.int .i64 0, .slice none 0 0, .int .u64 0] 31 (0, 0)) (by (with_reducible repeat (first | refine blk_drewN ?_ _ | refine blk_drew ?_ | refine blk_alloc ?_ _)); exact BK268.out)) : gb269 ≠ gb268)); clear BK268; clear HB; have BK268 := n0_; have HB := n1_; have BK269 := n2_; have GW269 := n3_; have GE269 := n4_; have NB268_269 := n5_; have NB269_268 := n6_; clear n0_ n1_ n2_ n3_ n4_ n5_ n6_; clear hb hbox hg; have hnb5 := NB269_268.out; have hnc5 := NB268_269.out; have hcz6_0 : w4.cell? ⟨gb269, 0, none⟩ = some (.int .i64 0) := (blk_cell BK269.out 0).trans rfl; have hcz6_1 : w4.cell? ⟨gb269, 1, none⟩ = some (.slice none 0 0) := (blk_cell BK269.out 1).trans rfl; have hcz6_2 : w4.cell? ⟨gb269, 2, none⟩ = some (.int .u64 0) := (blk_cell BK269.out 2).trans rfl; have hfz6_0 := blk_frozen BK269.out 0; have hfz6_1 := blk_frozen BK269.out 1; have hfz6_2 := blk_frozen BK269.out 2; have hcz7_0 : w4.cell? ⟨gb268, 0, none⟩ = some (.int .i64 0) := (blk_cell BK268.out 0).trans rfl; have hcz7_1 : w4.cell? ⟨gb268, 1, none⟩ = some (.slice none 0 0) := (blk_cell BK268.out 1).trans rfl; have hcz7_2 : w4.cell? ⟨gb268, 2, none⟩ = some (.int .u64 0) := (blk_cell BK268.out 2).trans rfl; have hfz7_0 := blk_frozen BK268.out 0; have hfz7_1 := blk_frozen BK268.out 1; have hfz7_2 := blk_frozen BK268.out 2))
    refine bodyPost_ret (results_ct rfl _ _ gb268 31 #[.int .i64 0, .slice none 0 0, .int .u64 0] (0, 0) _ rfl (by (with_reducible repeat (first | refine blk_drewN ?_ _ | refine blk_drew ?_ | refine blk_alloc ?_ _)); refine blk_put (cs := #[.int .i64 0, .slice none 0 0, .int .u64 0]) ?_ 2 _ rfl; (with_reducible repeat (first | refine blk_drewN ?_ _ | refine blk_drew ?_ | refine blk_alloc ?_ _)); refine blk_put (cs := #[.int .i64 0, .slice none 0 0, .int .u64 0]) ?_ 1 _ rfl; (with_reducible repeat (first | refine blk_drewN ?_ _ | refine blk_drew ?_ | refine blk_alloc ?_ _)); refine blk_put (cs := #[.int .i64 0, .slice none 0 0, .int .u64 0]) ?_ 0 _ rfl; (with_reducible repeat (first | refine blk_drewN ?_ _ | refine blk_drew ?_ | refine blk_alloc ?_ _)); exact BK268.out) Try.underlying31 rfl (by kernel_rfl)) rfl ?_
    exact ⟨_, by first | rfl | (simp [errW_none, errW_some] <;> rfl) | (simp [*, errW_none, errW_some] <;> rfl), by first | exact Kd.R_nil _ _ _ _ _ | exact Kd.N_nil _ _ _ _ _ | exact Kd.V_nil _ _ _ _ _ | exact Kd.Q_nil _ _ _ _ _ | exact Kd.S_nil _ _ _ _ _, by repeat (first | (with_reducible first | exact HB.out | apply below_alloc | apply pw_below_drewN | apply below_drew1 | refine below_set ?_ GE268.out | refine below_set ?_ GE269.out) | exact HB.out)⟩
  · rw [if_neg c2] at H
    have c2b0 : ((l0.length : Int) == 0) = false := beq_eq_false_iff_ne.mpr c2
    have c2b1 : ((l0.length : Int) != 0) = true := bne_iff_ne.mpr c2
    have c2b2 : ¬ (l0 = []) := fun h_ => c2 (by rw [h_]; rfl)
    by_cases c8 : 0 < (l0.length : Int)
    · rw [if_pos c8] at H
      have c8b0 : decide (0 < (l0.length : Int)) = true := decide_eq_true c8
      have c8b1 : decide (0 < l0.length) = true := decide_eq_true (by omega)
      clear c8
      have H' := Aside0.mk H
      clear H
      go_enter Try.func18, Try.ntmps18
      go_wp2_with (first | ((with_reducible refine gate_dst (N := 2) rfl ?_); (try (refine gate_guard (by rfl) ?_; dsimp only)); refine box_event ?hg (N := 2) ?hd (cs := #[.int .i64 0, .slice none 0 0, .int .u64 0]) (t := 31) ?hr ?_; (case hd => rfl); (case hg => rfl); (case hr => first | (go_simp; done) | (go_simp; rfl)); intro gb268 hg w9 hbox hb; have n0_ := Aside0.mk (below_step (by repeat (first | (with_reducible first | exact HB.out | apply below_alloc | apply pw_below_drewN | apply below_drew1) | exact HB.out)) hb); have n1_ := Aside0.mk (hbox); have n2_ := Aside0.mk ((by rw [hg]; exact (below_size (by repeat (first | (with_reducible first | exact HB.out | apply below_alloc | apply pw_below_drewN | apply below_drew1) | exact HB.out))) : w.heap.size ≤ gb268)); have n3_ := Aside0.mk ((by rw [hg]; exact (below_size (by repeat (first | (with_reducible first | exact HB.out | apply below_alloc | apply pw_below_drewN | apply below_drew1) | exact HB.out))) : w.heap.size ≤ gb268)); clear HB; have HB := n0_; have BK268 := n1_; have GW268 := n2_; have GE268 := n3_; clear n0_ n1_ n2_ n3_; clear hb hbox hg) | ((with_reducible refine gate_dst (N := 4) rfl ?_); (try (refine gate_guard (by rfl) ?_; dsimp only)); refine box_event ?hg (N := 4) ?hd (cs := #[.int .i64 0, .slice none 0 0, .int .u64 0]) (t := 31) ?hr ?_; (case hd => rfl); (case hg => rfl); (case hr => first | (go_simp; done) | (go_simp; rfl)); intro gb269 hg w10 hbox hb; have n0_ := Aside0.mk (blk_below (g := gb268) (o := .cells #[.int .i64 0, .slice none 0 0, .int .u64 0] 31 (0, 0)) (by (with_reducible repeat (first | refine blk_drewN ?_ _ | refine blk_drew ?_ | refine blk_alloc ?_ _)); exact BK268.out) hb); have n1_ := Aside0.mk (below_step (by repeat (first | (with_reducible first | exact HB.out | apply below_alloc | apply pw_below_drewN | apply below_drew1 | refine below_set ?_ GE268.out) | exact HB.out)) hb); have n2_ := Aside0.mk (hbox); have n3_ := Aside0.mk ((by rw [hg]; exact (below_size (by repeat (first | (with_reducible first | exact HB.out | apply below_alloc | apply pw_below_drewN | apply below_drew1 | refine below_set ?_ GE268.out) | exact HB.out))) : w.heap.size ≤ gb269)); have n4_ := Aside0.mk ((by rw [hg]; exact (below_size (by repeat (first | (with_reducible first | exact HB.out | apply below_alloc | apply pw_below_drewN | apply below_drew1 | refine below_set ?_ GE268.out) | exact HB.out))) : w.heap.size ≤ gb269)); have n5_ := Aside0.mk ((by rw [hg]; exact Nat.ne_of_lt (blk_lt (g := gb268) (o := .cells #[.int .i64 0, .slice none 0 0, .int .u64 0] 31 (0, 0)) (by (with_reducible repeat (first | refine blk_drewN ?_ _ | refine blk_drew ?_ | refine blk_alloc ?_ _)); exact BK268.out)) : gb268 ≠ gb269)); have n6_ := Aside0.mk ((by rw [hg]; exact Nat.ne_of_gt (blk_lt (g := gb268) (o := .cells #[.int .i64 0, .slice none 0 0, .int .u64 0] 31 (0, 0)) (by (with_reducible repeat (first | refine blk_drewN ?_ _ | refine blk_drew ?_ | refine blk_alloc ?_ _)); exact BK268.out)) : gb269 ≠ gb268)); clear BK268; clear HB; have BK268 := n0_; have HB := n1_; have BK269 := n2_; have GW269 := n3_; have GE269 := n4_; have NB268_269 := n5_; have NB269_268 := n6_; clear n0_ n1_ n2_ n3_ n4_ n5_ n6_; clear hb hbox hg; have p270 : 0 ≤ (0 : Int) := (by omega); have q270 : 0 < (l0.length : Int) := of_decide_eq_true (by first | (with_reducible assumption) | assumption); obtain ⟨ad270, e270, hx270_0⟩ := Kd.at_int HR0.out 0 p270 q270; cases e270; have qi270 : (0 < l0.length) = True := eq_true (by omega); (try rw [show ((0 : Int)).toNat = 0 from rfl] at hx270_0); (try rw [Addr.add_zero'] at hx270_0); replace hx270_0 := (HB.out.cell (World.block_lt_of_cell? w _ hx270_0)).trans hx270_0; replace p270 := eq_true p270; replace q270 := eq_true q270; have hnb11 := NB269_268.out; have hnc11 := NB268_269.out; have hcz12_0 : w10.cell? ⟨gb269, 0, none⟩ = some (.int .i64 0) := (blk_cell BK269.out 0).trans rfl; have hcz12_1 : w10.cell? ⟨gb269, 1, none⟩ = some (.slice none 0 0) := (blk_cell BK269.out 1).trans rfl; have hcz12_2 : w10.cell? ⟨gb269, 2, none⟩ = some (.int .u64 0) := (blk_cell BK269.out 2).trans rfl; have hfz12_0 := blk_frozen BK269.out 0; have hfz12_1 := blk_frozen BK269.out 1; have hfz12_2 := blk_frozen BK269.out 2))
      go_loopg [5] k (fun kq v5 w' => ∃ (x5_1 : Int) (x269000_1 : Int) (x269002_1 : Int) (x270001_1 : List Int) (u270001 : Value), v5 = .int .i64 x5_1 ∧ Aside0 (munimentref05_Read.l0 kq l0 x5_1 (wrap64 (rd l0 0)) x270001_1 0 = some (r1, r2, r3, r4)) ∧ Aside0 (kq ≤ k) ∧ Aside0 (Kd.R (Kd.int .u8) 5 w' w.heap.size (fun _ => True) u270001 x270001_1) ∧ Aside0 (w'.heap[gb268]? = some (.cells #[.int .i64 x269000_1, (.slice none 0 0), .int .u64 x269002_1] 31 (0, 0))) ∧ Aside0 (w'.heap[gb269]? = some (.cells #[.int .i64 (wrap64 (rd l0 0)), u270001, .int .u64 0] 31 (0, 0))) ∧ Aside0 (Below w.heap.size w w'))
      case atStart => exact ⟨(1), (0), (0), (([] : List Int)), (.slice none 0 0), (by first | rfl | (simp; done) | (simp [*]; done)), H', ⟨Nat.le_refl _⟩, ⟨by first | exact Kd.R_nil _ _ _ _ _ | exact Kd.N_nil _ _ _ _ _ | exact Kd.V_nil _ _ _ _ _ | exact Kd.Q_nil _ _ _ _ _ | exact Kd.S_nil _ _ _ _ _⟩, ⟨by (with_reducible repeat (first | refine blk_drewN ?_ _ | refine blk_drew ?_ | refine blk_alloc ?_ _)); refine blk_far ?_ NB268_269.out _; (with_reducible repeat (first | refine blk_drewN ?_ _ | refine blk_drew ?_ | refine blk_alloc ?_ _)); exact BK268.out⟩, ⟨by (with_reducible repeat (first | refine blk_drewN ?_ _ | refine blk_drew ?_ | refine blk_alloc ?_ _)); refine blk_put (cs := #[.int .i64 0, .slice none 0 0, .int .u64 0]) ?_ 0 _ rfl; (with_reducible repeat (first | refine blk_drewN ?_ _ | refine blk_drew ?_ | refine blk_alloc ?_ _)); exact BK269.out⟩, ⟨by repeat (first | (with_reducible first | exact HB.out | apply below_alloc | apply pw_below_drewN | apply below_drew1 | refine below_set ?_ GE268.out | refine below_set ?_ GE269.out) | exact HB.out)⟩⟩
      case round =>
        clear H'
        try clear c1
        try clear c2
        try clear c2b0
        try clear c2b1
        try clear c2b2
        try clear p2
        try clear q2
        try clear hx2
        try clear qi2
        try clear c5
        try clear p6
        try clear c8
        try clear c8b0
        try clear c8b1
        try clear c11
        try clear hcz12_0
        try clear hcz12_1
        try clear hcz12_2
        try clear hcz6_0
        try clear hcz6_1
        try clear hcz6_2
        try clear hcz7_0
        try clear hcz7_1
        try clear hcz7_2
        try clear hfz12_0
        try clear hfz12_1
        try clear hfz12_2
        try clear hfz6_0
        try clear hfz6_1
        try clear hfz6_2
        try clear hfz7_0
        try clear hfz7_1
        try clear hfz7_2
        try clear hx270_0
        try clear p270
        try clear q270
        obtain ⟨x5_1, x269000_1, x269002_1, x270001_1, u270001, rfl, HA, HK1, HO_270001, BK268, BK269, HB⟩ := hrel
        cases gk with
        | zero => exact absurd HA.out (by simp [munimentref05_Read.l0])
        | succ k1 =>
          have H := HA.out
          clear HA
          simp only [munimentref05_Read.l0] at H
          have HC13 := Aside0.mk H
          clear H
          go_upto_region 6 with (fail)
          go_cut [27] (fun v27 wc => ∃ (kq : Nat) (x27_12 : Bool), v27 = .bool x27_12 ∧ Aside0 (munimentref05_Read.j1 kq l0 x5_1 x27_12 (wrap64 (rd l0 0)) x270001_1 0 = some (r1, r2, r3, r4)) ∧ Aside0 (kq ≤ k1) ∧ Aside0 (Kd.R (Kd.int .u8) 5 wc w.heap.size (fun _ => True) u270001 x270001_1) ∧ Aside0 (wc.heap[gb268]? = some (.cells #[.int .i64 x269000_1, (.slice none 0 0), .int .u64 x269002_1] 31 (0, 0))) ∧ Aside0 (wc.heap[gb269]? = some (.cells #[.int .i64 (wrap64 (rd l0 0)), u270001, .int .u64 0] 31 (0, 0))) ∧ Aside0 (Below w.heap.size w wc))
          case first =>
            have H := HC13.out
            clear HC13
            by_cases c14 : (wrap64 (x5_1 + 1)) ≥ (l0.length : Int)
            · rw [if_pos c14] at H
              have c14b0 : decide ((l0.length : Int) ≤ (wrap64 (x5_1 + 1))) = true := decide_eq_true c14
              clear c14
              (first | rw [c14b0] | (simp only [i64_w, i32_w]; rw [c14b0]) | skip)
              have H' := Aside0.mk H
              clear H
              go_wp2
              go_meet
              case rel => exact ⟨_, (true), (by first | rfl | (simp; done) | (simp [*]; done)), H', ⟨by have := HK1.out; first | omega | exact Nat.le_refl _⟩, ⟨by (with_reducible repeat (first | apply Kd.R_alloc | apply Kd.R_drewN | apply Kd.R_drew)); exact HO_270001.out⟩, ⟨by (with_reducible repeat (first | refine blk_drewN ?_ _ | refine blk_drew ?_ | refine blk_alloc ?_ _)); exact BK268.out⟩, ⟨by (with_reducible repeat (first | refine blk_drewN ?_ _ | refine blk_drew ?_ | refine blk_alloc ?_ _)); exact BK269.out⟩, ⟨by repeat (first | (with_reducible first | exact HB.out | apply below_alloc | apply pw_below_drewN | apply below_drew1 | refine below_set ?_ GE268.out | refine below_set ?_ GE269.out) | exact HB.out)⟩⟩
            · rw [if_neg c14] at H
              have c14b0 : decide ((l0.length : Int) ≤ (wrap64 (x5_1 + 1))) = false := decide_eq_false c14
              clear c14
              (first | rw [c14b0] | (simp only [i64_w, i32_w]; rw [c14b0]) | skip)
              have H' := Aside0.mk H
              clear H
              have hnb15 := NB269_268.out
              have hnc15 := NB268_269.out
              have hcz16_0 : wr.cell? ⟨gb269, 0, none⟩ = some (.int .i64 (wrap64 (rd l0 0))) := (blk_cell BK269.out 0).trans rfl
              have hcz16_1 : wr.cell? ⟨gb269, 1, none⟩ = some (u270001) := (blk_cell BK269.out 1).trans rfl
              have hcz16_2 : wr.cell? ⟨gb269, 2, none⟩ = some (.int .u64 0) := (blk_cell BK269.out 2).trans rfl
              have hfz16_0 := blk_frozen BK269.out 0
              have hfz16_1 := blk_frozen BK269.out 1
              have hfz16_2 := blk_frozen BK269.out 2
              obtain ⟨Ao17, co17, eo17⟩ := Kd.R_slice HO_270001.out
              subst eo17
              go_wp2
              go_meet
              case rel => exact ⟨_, (decide ((x270001_1.length : Int) > 200)), (by first | rfl | (simp; done) | (simp [*]; done)), H', ⟨by have := HK1.out; first | omega | exact Nat.le_refl _⟩, ⟨by (with_reducible repeat (first | apply Kd.R_alloc | apply Kd.R_drewN | apply Kd.R_drew)); exact HO_270001.out⟩, ⟨by (with_reducible repeat (first | refine blk_drewN ?_ _ | refine blk_drew ?_ | refine blk_alloc ?_ _)); exact BK268.out⟩, ⟨by (with_reducible repeat (first | refine blk_drewN ?_ _ | refine blk_drew ?_ | refine blk_alloc ?_ _)); exact BK269.out⟩, ⟨by repeat (first | (with_reducible first | exact HB.out | apply below_alloc | apply pw_below_drewN | apply below_drew1 | refine below_set ?_ GE268.out | refine below_set ?_ GE269.out) | exact HB.out)⟩⟩
          case rest =>
            clear HC13
            try clear c1
            try clear c2
            try clear c2b0
            try clear c2b1
            try clear c2b2
            try clear p2
            try clear q2
            try clear hx2
            try clear qi2
            try clear c5
            try clear p6
            try clear c8
            try clear c8b0
            try clear c8b1
            try clear c11
            try clear c14
            try clear c14b0
            try clear c15
            try clear hcz12_0
            try clear hcz12_1
            try clear hcz12_2
            try clear hcz16_0
            try clear hcz16_1
            try clear hcz16_2
            try clear hcz6_0
            try clear hcz6_1
            try clear hcz6_2
            try clear hcz7_0
            try clear hcz7_1
            try clear hcz7_2
            try clear hfz12_0
            try clear hfz12_1
            try clear hfz12_2
            try clear hfz16_0
            try clear hfz16_1
            try clear hfz16_2
            try clear hfz6_0
            try clear hfz6_1
            try clear hfz6_2
            try clear hfz7_0
            try clear hfz7_1
            try clear hfz7_2
            try clear hx270_0
            try clear p2
            try clear p270
            try clear p6
            try clear q2
            try clear q270
            obtain ⟨kq, x27_12, rfl, HA, HJ12, HO_270001, BK268, BK269, HB⟩ := hcut
            cases kq with
            | zero => exact absurd HA.out (by simp [munimentref05_Read.j1])
            | succ kj12 =>
              have H := HA.out
              clear HA
              simp only [munimentref05_Read.j1] at H
              by_cases c18 : x27_12 = true
              · subst c18
                have H1 : (some (0, ([] : List Int), 0, 11)) = some (r1, r2, r3, r4) := by rw [if_pos rfl] at H; exact H
                clear H
                have H := H1
                clear H1
                simp only [Option.some.injEq, Prod.mk.injEq] at H
                obtain ⟨rfl, rfl, rfl, rfl⟩ := H
                have hnb19 := NB268_269.out
                have hnc19 := NB269_268.out
                have hcz20_0 : wc.cell? ⟨gb268, 0, none⟩ = some (.int .i64 x269000_1) := (blk_cell BK268.out 0).trans rfl
                have hcz20_1 : wc.cell? ⟨gb268, 1, none⟩ = some (.slice none 0 0) := (blk_cell BK268.out 1).trans rfl
                have hcz20_2 : wc.cell? ⟨gb268, 2, none⟩ = some (.int .u64 x269002_1) := (blk_cell BK268.out 2).trans rfl
                have hfz20_0 := blk_frozen BK268.out 0
                have hfz20_1 := blk_frozen BK268.out 1
                have hfz20_2 := blk_frozen BK268.out 2
                go_wp2
                refine bodyPost_ret (results_ct rfl _ _ gb268 31 #[.int .i64 0, .slice none 0 0, .int .u64 0] (0, 0) _ rfl (by (with_reducible repeat (first | refine blk_drewN ?_ _ | refine blk_drew ?_ | refine blk_alloc ?_ _)); refine blk_put (cs := #[.int .i64 0, .slice none 0 0, .int .u64 x269002_1]) ?_ 2 _ rfl; (with_reducible repeat (first | refine blk_drewN ?_ _ | refine blk_drew ?_ | refine blk_alloc ?_ _)); refine blk_put (cs := #[.int .i64 0, .slice none 0 0, .int .u64 x269002_1]) ?_ 1 _ rfl; (with_reducible repeat (first | refine blk_drewN ?_ _ | refine blk_drew ?_ | refine blk_alloc ?_ _)); refine blk_put (cs := #[.int .i64 x269000_1, .slice none 0 0, .int .u64 x269002_1]) ?_ 0 _ rfl; (with_reducible repeat (first | refine blk_drewN ?_ _ | refine blk_drew ?_ | refine blk_alloc ?_ _)); exact BK268.out) Try.underlying31 rfl (by kernel_rfl)) rfl ?_
                exact ⟨_, by first | rfl | (simp [errW_none, errW_some] <;> rfl) | (simp [*, errW_none, errW_some] <;> rfl), by first | exact Kd.R_nil _ _ _ _ _ | exact Kd.N_nil _ _ _ _ _ | exact Kd.V_nil _ _ _ _ _ | exact Kd.Q_nil _ _ _ _ _ | exact Kd.S_nil _ _ _ _ _, by repeat (first | (with_reducible first | exact HB.out | apply below_alloc | apply pw_below_drewN | apply below_drew1 | refine below_set ?_ GE268.out | refine below_set ?_ GE269.out) | exact HB.out)⟩
              · replace c18 := Bool.eq_false_iff.mpr c18
                subst c18
                have H1 : (if 0 ≤ x5_1 then (if x5_1 < (l0.length : Int) then (if (rd l0 x5_1) = 0 then (if 0 ≤ (wrap64 (x5_1 + 1)) then (if (wrap64 (x5_1 + 1)) < (l0.length : Int) then (if (rd l0 (wrap64 (x5_1 + 1))) = 0 then (if (l0.length : Int) = (wrap64 (x5_1 + 10)) then (munimentref05_Read.j2 kj12 l0 x5_1 (decide ((x270001_1.length : Int) > 200)) (wrap64 (rd l0 0)) x270001_1 0) else (munimentref05_Read.j2 kj12 l0 x5_1 true (wrap64 (rd l0 0)) x270001_1 0)) else (if (rd l0 (wrap64 (x5_1 + 1))) = 255 then (if x270001_1.length < 140737488355328 then (munimentref05_Read.l0 kj12 l0 (wrap64 (x5_1 + 2)) (wrap64 (rd l0 0)) (x270001_1 ++ [0]) 0) else (none)) else (some (0, ([] : List Int), 0, 11)))) else (none)) else (none)) else (if x270001_1.length < 140737488355328 then (munimentref05_Read.l0 kj12 l0 (wrap64 (x5_1 + 1)) (wrap64 (rd l0 0)) (x270001_1 ++ [rd l0 x5_1]) 0) else (none))) else (none)) else (none)) = some (r1, r2, r3, r4) := by rw [if_neg (show ¬ (false = true) by decide)] at H; exact H
                clear H
                have H := H1
                clear H1
                by_cases c21 : 0 ≤ x5_1
                · rw [if_pos c21] at H
                  have c21b0 : decide (0 ≤ x5_1) = true := decide_eq_true c21
                  clear c21
                  by_cases c22 : x5_1 < (l0.length : Int)
                  · rw [if_pos c22] at H
                    have c22b0 : decide (x5_1 < (l0.length : Int)) = true := decide_eq_true c22
                    clear c22
                    by_cases c23 : (rd l0 x5_1) = 0
                    · rw [if_pos c23] at H
                      have c23b0 : ((rd l0 x5_1) == 0) = true := beq_iff_eq.mpr c23
                      have c23b1 : ((rd l0 x5_1) != 0) = false := bne_eq_false_iff_eq.mpr c23
                      clear c23
                      obtain ⟨ji24, hji24⟩ : ∃ j_ : Int, (wrap64 (x5_1 + 1)) = j_ := ⟨_, rfl⟩
                      replace H : (if 0 ≤ (ji24) then (if (ji24) < (l0.length : Int) then (if (rd l0 (ji24)) = 0 then (if (l0.length : Int) = (wrap64 (x5_1 + 10)) then (munimentref05_Read.j2 kj12 l0 x5_1 (decide ((x270001_1.length : Int) > 200)) (wrap64 (rd l0 0)) x270001_1 0) else (munimentref05_Read.j2 kj12 l0 x5_1 true (wrap64 (rd l0 0)) x270001_1 0)) else (if (rd l0 (ji24)) = 255 then (if x270001_1.length < 140737488355328 then (munimentref05_Read.l0 kj12 l0 (wrap64 (x5_1 + 2)) (wrap64 (rd l0 0)) (x270001_1 ++ [0]) 0) else (none)) else (some (0, ([] : List Int), 0, 11)))) else (none)) else (none)) = some (r1, r2, r3, r4) := by first | (rw [hji24] at H; exact H) | (simp only [hji24] at H ⊢; exact H)
                      have hji24w : (IntKind.i64.wrap (x5_1 + 1)) = ji24 := (i64_w _).trans hji24
                      by_cases c25 : 0 ≤ (ji24)
                      · rw [if_pos c25] at H
                        have c25b0 : decide (0 ≤ (ji24)) = true := decide_eq_true c25
                        clear c25
                        by_cases c26 : (ji24) < (l0.length : Int)
                        · rw [if_pos c26] at H
                          have c26b0 : decide ((ji24) < (l0.length : Int)) = true := decide_eq_true c26
                          clear c26
                          by_cases c27 : (rd l0 (ji24)) = 0
                          · rw [if_pos c27] at H
                            have c27b0 : ((rd l0 (ji24)) == 0) = true := beq_iff_eq.mpr c27
                            have c27b1 : ((rd l0 (ji24)) != 0) = false := bne_eq_false_iff_eq.mpr c27
                            clear c27
                            have HC28 := Aside0.mk H
                            clear H
                            have p271 : 0 ≤ (x5_1 : Int) := of_decide_eq_true (by first | (with_reducible assumption) | assumption)
                            have q271 : x5_1 < (l0.length : Int) := of_decide_eq_true (by first | (with_reducible assumption) | assumption)
                            obtain ⟨ad271, e271, hx271_0⟩ := Kd.at_int HR0.out x5_1 p271 q271
                            obtain rfl : ad270 = ad271 := (by injection e271)
                            replace hx271_0 := (HB.out.cell (World.block_lt_of_cell? w _ hx271_0)).trans hx271_0
                            replace p271 := eq_true p271
                            replace q271 := eq_true q271
                            have p276 : 0 ≤ ((ji24) : Int) := of_decide_eq_true (by first | (with_reducible assumption) | assumption)
                            have q276 : (ji24) < (l0.length : Int) := of_decide_eq_true (by first | (with_reducible assumption) | assumption)
                            obtain ⟨ad276, e276, hx276_0⟩ := Kd.at_int HR0.out (ji24) p276 q276
                            obtain rfl : ad270 = ad276 := (by injection e276)
                            replace hx276_0 := (HB.out.cell (World.block_lt_of_cell? w _ hx276_0)).trans hx276_0
                            replace p276 := eq_true p276
                            replace q276 := eq_true q276
                            go_upto_region 16 with (fail)
                            go_cut [75] (fun v75 wc => ∃ (kq : Nat) (x75_27 : Bool), v75 = .bool x75_27 ∧ Aside0 (munimentref05_Read.j2 kq l0 x5_1 x75_27 (wrap64 (rd l0 0)) x270001_1 0 = some (r1, r2, r3, r4)) ∧ Aside0 (kq ≤ kj12) ∧ Aside0 (Kd.R (Kd.int .u8) 5 wc w.heap.size (fun _ => True) u270001 x270001_1) ∧ Aside0 (wc.heap[gb268]? = some (.cells #[.int .i64 x269000_1, (.slice none 0 0), .int .u64 x269002_1] 31 (0, 0))) ∧ Aside0 (wc.heap[gb269]? = some (.cells #[.int .i64 (wrap64 (rd l0 0)), u270001, .int .u64 0] 31 (0, 0))) ∧ Aside0 (Below w.heap.size w wc))
                            case first =>
                              have H := HC28.out
                              clear HC28
                              by_cases c29 : (l0.length : Int) = (wrap64 (x5_1 + 10))
                              · rw [if_pos c29] at H
                                have c29b0 : ((l0.length : Int) == (wrap64 (x5_1 + 10))) = true := beq_iff_eq.mpr c29
                                have c29b1 : ((l0.length : Int) != (wrap64 (x5_1 + 10))) = false := bne_eq_false_iff_eq.mpr c29
                                clear c29
                                (first | rw [c29b0] | (simp only [i64_w, i32_w]; rw [c29b0]) | skip)
                                have H' := Aside0.mk H
                                clear H
                                have hnb30 := NB269_268.out
                                have hnc30 := NB268_269.out
                                have hcz31_0 : wc.cell? ⟨gb269, 0, none⟩ = some (.int .i64 (wrap64 (rd l0 0))) := (blk_cell BK269.out 0).trans rfl
                                have hcz31_1 : wc.cell? ⟨gb269, 1, none⟩ = some (u270001) := (blk_cell BK269.out 1).trans rfl
                                have hcz31_2 : wc.cell? ⟨gb269, 2, none⟩ = some (.int .u64 0) := (blk_cell BK269.out 2).trans rfl
                                have hfz31_0 := blk_frozen BK269.out 0
                                have hfz31_1 := blk_frozen BK269.out 1
                                have hfz31_2 := blk_frozen BK269.out 2
                                obtain ⟨Ao32, co32, eo32⟩ := Kd.R_slice HO_270001.out
                                subst eo32
                                go_wp2
                                go_meet
                                case rel => exact ⟨_, (decide ((x270001_1.length : Int) > 200)), (by first | rfl | (simp; done) | (simp [*]; done)), H', ⟨by have := HK1.out; have := HJ12.out; first | omega | exact Nat.le_refl _⟩, ⟨by (with_reducible repeat (first | apply Kd.R_alloc | apply Kd.R_drewN | apply Kd.R_drew)); exact HO_270001.out⟩, ⟨by (with_reducible repeat (first | refine blk_drewN ?_ _ | refine blk_drew ?_ | refine blk_alloc ?_ _)); exact BK268.out⟩, ⟨by (with_reducible repeat (first | refine blk_drewN ?_ _ | refine blk_drew ?_ | refine blk_alloc ?_ _)); exact BK269.out⟩, ⟨by repeat (first | (with_reducible first | exact HB.out | apply below_alloc | apply pw_below_drewN | apply below_drew1 | refine below_set ?_ GE268.out | refine below_set ?_ GE269.out) | exact HB.out)⟩⟩
                              · rw [if_neg c29] at H
                                have c29b0 : ((l0.length : Int) == (wrap64 (x5_1 + 10))) = false := beq_eq_false_iff_ne.mpr c29
                                have c29b1 : ((l0.length : Int) != (wrap64 (x5_1 + 10))) = true := bne_iff_ne.mpr c29
                                (first | rw [c29b0] | (simp only [i64_w, i32_w]; rw [c29b0]) | skip)
                                have H' := Aside0.mk H
                                clear H
                                go_wp2
                                go_meet
                                case rel => exact ⟨_, (true), (by first | rfl | (simp; done) | (simp [*]; done)), H', ⟨by have := HK1.out; have := HJ12.out; first | omega | exact Nat.le_refl _⟩, ⟨by (with_reducible repeat (first | apply Kd.R_alloc | apply Kd.R_drewN | apply Kd.R_drew)); exact HO_270001.out⟩, ⟨by (with_reducible repeat (first | refine blk_drewN ?_ _ | refine blk_drew ?_ | refine blk_alloc ?_ _)); exact BK268.out⟩, ⟨by (with_reducible repeat (first | refine blk_drewN ?_ _ | refine blk_drew ?_ | refine blk_alloc ?_ _)); exact BK269.out⟩, ⟨by repeat (first | (with_reducible first | exact HB.out | apply below_alloc | apply pw_below_drewN | apply below_drew1 | refine below_set ?_ GE268.out | refine below_set ?_ GE269.out) | exact HB.out)⟩⟩
                            case rest =>
                              clear HC28
                              try clear c1
                              try clear c2
                              try clear c2b0
                              try clear c2b1
                              try clear c2b2
                              try clear p2
                              try clear q2
                              try clear hx2
                              try clear qi2
                              try clear c3
                              try clear c5
                              try clear p6
                              try clear c8
                              try clear c8b0
                              try clear c8b1
                              try clear c11
                              try clear c14
                              try clear c14b0
                              try clear c15
                              try clear c18
                              try clear c19
                              try clear c21
                              try clear c21b0
                              try clear c22
                              try clear c22b0
                              try clear c23
                              try clear c23b0
                              try clear c23b1
                              try clear c25
                              try clear c25b0
                              try clear c26
                              try clear c26b0
                              try clear c27
                              try clear c27b0
                              try clear c27b1
                              try clear p27
                              try clear q27
                              try clear hx27
                              try clear qi27
                              try clear c29
                              try clear c29b0
                              try clear c29b1
                              try clear c30
                              try clear hcz12_0
                              try clear hcz12_1
                              try clear hcz12_2
                              try clear hcz16_0
                              try clear hcz16_1
                              try clear hcz16_2
                              try clear hcz20_0
                              try clear hcz20_1
                              try clear hcz20_2
                              try clear hcz31_0
                              try clear hcz31_1
                              try clear hcz31_2
                              try clear hcz6_0
                              try clear hcz6_1
                              try clear hcz6_2
                              try clear hcz7_0
                              try clear hcz7_1
                              try clear hcz7_2
                              try clear hfz12_0
                              try clear hfz12_1
                              try clear hfz12_2
                              try clear hfz16_0
                              try clear hfz16_1
                              try clear hfz16_2
                              try clear hfz20_0
                              try clear hfz20_1
                              try clear hfz20_2
                              try clear hfz31_0
                              try clear hfz31_1
                              try clear hfz31_2
                              try clear hfz6_0
                              try clear hfz6_1
                              try clear hfz6_2
                              try clear hfz7_0
                              try clear hfz7_1
                              try clear hfz7_2
                              try clear hx270_0
                              try clear hx271_0
                              try clear hx276_0
                              try clear p2
                              try clear p270
                              try clear p271
                              try clear p276
                              try clear p6
                              try clear q2
                              try clear q270
                              try clear q271
                              try clear q276
                              obtain ⟨kq, x75_27, rfl, HA, HJ27, HO_270001, BK268, BK269, HB⟩ := hcut
                              cases kq with
                              | zero => exact absurd HA.out (by simp [munimentref05_Read.j2])
                              | succ kj27 =>
                                have H := HA.out
                                clear HA
                                simp only [munimentref05_Read.j2] at H
                                by_cases c33 : x75_27 = true
                                · subst c33
                                  have H1 : (some (0, ([] : List Int), 0, 11)) = some (r1, r2, r3, r4) := by rw [if_pos rfl] at H; exact H
                                  clear H
                                  have H := H1
                                  clear H1
                                  simp only [Option.some.injEq, Prod.mk.injEq] at H
                                  obtain ⟨rfl, rfl, rfl, rfl⟩ := H
                                  have hnb34 := NB268_269.out
                                  have hnc34 := NB269_268.out
                                  have hcz35_0 : wc.cell? ⟨gb268, 0, none⟩ = some (.int .i64 x269000_1) := (blk_cell BK268.out 0).trans rfl
                                  have hcz35_1 : wc.cell? ⟨gb268, 1, none⟩ = some (.slice none 0 0) := (blk_cell BK268.out 1).trans rfl
                                  have hcz35_2 : wc.cell? ⟨gb268, 2, none⟩ = some (.int .u64 x269002_1) := (blk_cell BK268.out 2).trans rfl
                                  have hfz35_0 := blk_frozen BK268.out 0
                                  have hfz35_1 := blk_frozen BK268.out 1
                                  have hfz35_2 := blk_frozen BK268.out 2
                                  go_wp2
                                  refine bodyPost_ret (results_ct rfl _ _ gb268 31 #[.int .i64 0, .slice none 0 0, .int .u64 0] (0, 0) _ rfl (by (with_reducible repeat (first | refine blk_drewN ?_ _ | refine blk_drew ?_ | refine blk_alloc ?_ _)); refine blk_put (cs := #[.int .i64 0, .slice none 0 0, .int .u64 x269002_1]) ?_ 2 _ rfl; (with_reducible repeat (first | refine blk_drewN ?_ _ | refine blk_drew ?_ | refine blk_alloc ?_ _)); refine blk_put (cs := #[.int .i64 0, .slice none 0 0, .int .u64 x269002_1]) ?_ 1 _ rfl; (with_reducible repeat (first | refine blk_drewN ?_ _ | refine blk_drew ?_ | refine blk_alloc ?_ _)); refine blk_put (cs := #[.int .i64 x269000_1, .slice none 0 0, .int .u64 x269002_1]) ?_ 0 _ rfl; (with_reducible repeat (first | refine blk_drewN ?_ _ | refine blk_drew ?_ | refine blk_alloc ?_ _)); exact BK268.out) Try.underlying31 rfl (by kernel_rfl)) rfl ?_
                                  exact ⟨_, by first | rfl | (simp [errW_none, errW_some] <;> rfl) | (simp only [← hji24]; first | rfl | (simp [errW_none, errW_some] <;> rfl)) | (simp [*, errW_none, errW_some] <;> rfl), by first | exact Kd.R_nil _ _ _ _ _ | exact Kd.N_nil _ _ _ _ _ | exact Kd.V_nil _ _ _ _ _ | exact Kd.Q_nil _ _ _ _ _ | exact Kd.S_nil _ _ _ _ _, by repeat (first | (with_reducible first | exact HB.out | apply below_alloc | apply pw_below_drewN | apply below_drew1 | refine below_set ?_ GE268.out | refine below_set ?_ GE269.out) | exact HB.out)⟩
                                · replace c33 := Bool.eq_false_iff.mpr c33
                                  subst c33
                                  have H1 : (munimentref05_Read.l1 kj27 l0 0 (wrap64 (x5_1 + 2)) (wrap64 (rd l0 0)) x270001_1 0) = some (r1, r2, r3, r4) := by rw [if_neg (show ¬ (false = true) by decide)] at H; exact H
                                  clear H
                                  have H := H1
                                  clear H1
                                  have H' := Aside0.mk H
                                  clear H
                                  go_wp2
                                  go_loopg [6, 7] kj27 (fun kq v6 v7 w' => ∃ (x6_4 : Int) (x7_4 : Int), v6 = .int .u64 x6_4 ∧ v7 = .int .i64 x7_4 ∧ Aside0 (munimentref05_Read.l1 kq l0 x6_4 x7_4 (wrap64 (rd l0 0)) x270001_1 0 = some (r1, r2, r3, r4)) ∧ Aside0 (kq ≤ kj27) ∧ Aside0 (Kd.R (Kd.int .u8) 5 w' w.heap.size (fun _ => True) u270001 x270001_1) ∧ Aside0 (w'.heap[gb268]? = some (.cells #[.int .i64 x269000_1, (.slice none 0 0), .int .u64 x269002_1] 31 (0, 0))) ∧ Aside0 (w'.heap[gb269]? = some (.cells #[.int .i64 (wrap64 (rd l0 0)), u270001, .int .u64 0] 31 (0, 0))) ∧ Aside0 (Below w.heap.size w w'))
                                  case atStart => exact ⟨(0), (wrap64 (x5_1 + 2)), (by first | rfl | (simp; done) | (simp [*]; done)), (by first | rfl | (simp; done) | (simp [*]; done)), H', ⟨Nat.le_refl _⟩, ⟨by (with_reducible repeat (first | apply Kd.R_alloc | apply Kd.R_drewN | apply Kd.R_drew)); exact HO_270001.out⟩, ⟨by (with_reducible repeat (first | refine blk_drewN ?_ _ | refine blk_drew ?_ | refine blk_alloc ?_ _)); exact BK268.out⟩, ⟨by (with_reducible repeat (first | refine blk_drewN ?_ _ | refine blk_drew ?_ | refine blk_alloc ?_ _)); exact BK269.out⟩, ⟨by repeat (first | (with_reducible first | exact HB.out | apply below_alloc | apply pw_below_drewN | apply below_drew1 | refine below_set ?_ GE268.out | refine below_set ?_ GE269.out) | exact HB.out)⟩⟩
                                  case round =>
                                    clear H'
                                    try clear c1
                                    try clear c2
                                    try clear c2b0
                                    try clear c2b1
                                    try clear c2b2
                                    try clear p2
                                    try clear q2
                                    try clear hx2
                                    try clear qi2
                                    try clear c3
                                    try clear c5
                                    try clear p6
                                    try clear c8
                                    try clear c8b0
                                    try clear c8b1
                                    try clear c11
                                    try clear c14
                                    try clear c14b0
                                    try clear c15
                                    try clear c18
                                    try clear c19
                                    try clear c21
                                    try clear c21b0
                                    try clear c22
                                    try clear c22b0
                                    try clear c23
                                    try clear c23b0
                                    try clear c23b1
                                    try clear c25
                                    try clear c25b0
                                    try clear c26
                                    try clear c26b0
                                    try clear c27
                                    try clear c27b0
                                    try clear c27b1
                                    try clear p27
                                    try clear q27
                                    try clear hx27
                                    try clear qi27
                                    try clear c29
                                    try clear c29b0
                                    try clear c29b1
                                    try clear c30
                                    try clear c33
                                    try clear c34
                                    try clear hcz12_0
                                    try clear hcz12_1
                                    try clear hcz12_2
                                    try clear hcz16_0
                                    try clear hcz16_1
                                    try clear hcz16_2
                                    try clear hcz20_0
                                    try clear hcz20_1
                                    try clear hcz20_2
                                    try clear hcz31_0
                                    try clear hcz31_1
                                    try clear hcz31_2
                                    try clear hcz35_0
                                    try clear hcz35_1
                                    try clear hcz35_2
                                    try clear hcz6_0
                                    try clear hcz6_1
                                    try clear hcz6_2
                                    try clear hcz7_0
                                    try clear hcz7_1
                                    try clear hcz7_2
                                    try clear hfz12_0
                                    try clear hfz12_1
                                    try clear hfz12_2
                                    try clear hfz16_0
                                    try clear hfz16_1
                                    try clear hfz16_2
                                    try clear hfz20_0
                                    try clear hfz20_1
                                    try clear hfz20_2
                                    try clear hfz31_0
                                    try clear hfz31_1
                                    try clear hfz31_2
                                    try clear hfz35_0
                                    try clear hfz35_1
                                    try clear hfz35_2
                                    try clear hfz6_0
                                    try clear hfz6_1
                                    try clear hfz6_2
                                    try clear hfz7_0
                                    try clear hfz7_1
                                    try clear hfz7_2
                                    try clear hx270_0
                                    try clear hx271_0
                                    try clear hx276_0
                                    try clear p2
                                    try clear p27
                                    try clear p270
                                    try clear p271
                                    try clear p276
                                    try clear p6
                                    try clear q2
                                    try clear q27
                                    try clear q270
                                    try clear q271
                                    try clear q276
                                    obtain ⟨x6_4, x7_4, rfl, rfl, HA, HK4, HO_270001, BK268, BK269, HB⟩ := hrel
                                    cases gk with
                                    | zero => exact absurd HA.out (by simp [munimentref05_Read.l1])
                                    | succ k4 =>
                                      have H := HA.out
                                      clear HA
                                      simp only [munimentref05_Read.l1] at H
                                      by_cases c36 : x7_4 < (l0.length : Int)
                                      · rw [if_pos c36] at H
                                        have c36b0 : decide (x7_4 < (l0.length : Int)) = true := decide_eq_true c36
                                        clear c36
                                        by_cases c37 : 0 ≤ x7_4
                                        · rw [if_pos c37] at H
                                          have c37b0 : decide (0 ≤ x7_4) = true := decide_eq_true c37
                                          clear c37
                                          have H' := Aside0.mk H
                                          clear H
                                          have p281 : 0 ≤ (x7_4 : Int) := of_decide_eq_true (by first | (with_reducible assumption) | assumption)
                                          have q281 : x7_4 < (l0.length : Int) := of_decide_eq_true (by first | (with_reducible assumption) | assumption)
                                          obtain ⟨ad281, e281, hx281_0⟩ := Kd.at_int HR0.out x7_4 p281 q281
                                          obtain rfl : ad270 = ad281 := (by injection e281)
                                          replace hx281_0 := (HB.out.cell (World.block_lt_of_cell? w _ hx281_0)).trans hx281_0
                                          replace p281 := eq_true p281
                                          replace q281 := eq_true q281
                                          go_wp2
                                          go_roundg k4
                                          case measure => have := HK1.out; have := HJ12.out; have := HJ27.out; have := HK4.out; omega
                                          case rel => exact ⟨(IntKind.u64.wrap ((IntKind.u64.wrap (x6_4 * 256)) + (IntKind.u64.wrap (rd l0 x7_4)))), (wrap64 (x7_4 + 1)), (by first | rfl | (simp; done) | (simp [*]; done)), (by first | rfl | (simp; done) | (simp [*]; done)), H', ⟨by have := HK1.out; have := HJ12.out; have := HJ27.out; have := HK4.out; omega⟩, ⟨by (with_reducible repeat (first | apply Kd.R_alloc | apply Kd.R_drewN | apply Kd.R_drew)); exact HO_270001.out⟩, ⟨by (with_reducible repeat (first | refine blk_drewN ?_ _ | refine blk_drew ?_ | refine blk_alloc ?_ _)); exact BK268.out⟩, ⟨by (with_reducible repeat (first | refine blk_drewN ?_ _ | refine blk_drew ?_ | refine blk_alloc ?_ _)); exact BK269.out⟩, ⟨by repeat (first | (with_reducible first | exact HB.out | apply below_alloc | apply pw_below_drewN | apply below_drew1 | refine below_set ?_ GE268.out | refine below_set ?_ GE269.out) | exact HB.out)⟩⟩
                                        · rw [if_neg c37] at H
                                          exact absurd H (by simp)
                                      · rw [if_neg c36] at H
                                        have c36b0 : decide (x7_4 < (l0.length : Int)) = false := decide_eq_false c36
                                        clear c36
                                        simp only [Option.some.injEq, Prod.mk.injEq] at H
                                        obtain ⟨rfl, rfl, rfl, rfl⟩ := H
                                        have hnb38 := NB269_268.out
                                        have hnc38 := NB268_269.out
                                        have hcz39_0 : wr.cell? ⟨gb269, 0, none⟩ = some (.int .i64 (wrap64 (rd l0 0))) := (blk_cell BK269.out 0).trans rfl
                                        have hcz39_1 : wr.cell? ⟨gb269, 1, none⟩ = some (u270001) := (blk_cell BK269.out 1).trans rfl
                                        have hcz39_2 : wr.cell? ⟨gb269, 2, none⟩ = some (.int .u64 0) := (blk_cell BK269.out 2).trans rfl
                                        have hfz39_0 := blk_frozen BK269.out 0
                                        have hfz39_1 := blk_frozen BK269.out 1
                                        have hfz39_2 := blk_frozen BK269.out 2
                                        have hcz40_0 : wr.cell? ⟨gb268, 0, none⟩ = some (.int .i64 x269000_1) := (blk_cell BK268.out 0).trans rfl
                                        have hcz40_1 : wr.cell? ⟨gb268, 1, none⟩ = some (.slice none 0 0) := (blk_cell BK268.out 1).trans rfl
                                        have hcz40_2 : wr.cell? ⟨gb268, 2, none⟩ = some (.int .u64 x269002_1) := (blk_cell BK268.out 2).trans rfl
                                        have hfz40_0 := blk_frozen BK268.out 0
                                        have hfz40_1 := blk_frozen BK268.out 1
                                        have hfz40_2 := blk_frozen BK268.out 2
                                        obtain ⟨Ao41, co41, eo41⟩ := Kd.R_slice HO_270001.out
                                        subst eo41
                                        go_wp2
                                        refine bodyPost_ret (results_ct rfl _ _ gb268 31 #[.int .i64 (wrap64 (rd l0 0)), .slice Ao41 x270001_1.length co41, .int .u64 (IntKind.u64.wrap (18446744073709551615 - x6_4))] (0, 0) _ rfl (by (with_reducible repeat (first | refine blk_drewN ?_ _ | refine blk_drew ?_ | refine blk_alloc ?_ _)); refine blk_put (cs := #[.int .i64 (wrap64 (rd l0 0)), .slice Ao41 x270001_1.length co41, .int .u64 x269002_1]) ?_ 2 _ rfl; (with_reducible repeat (first | refine blk_drewN ?_ _ | refine blk_drew ?_ | refine blk_alloc ?_ _)); refine blk_put (cs := #[.int .i64 (wrap64 (rd l0 0)), .slice none 0 0, .int .u64 x269002_1]) ?_ 1 _ rfl; (with_reducible repeat (first | refine blk_drewN ?_ _ | refine blk_drew ?_ | refine blk_alloc ?_ _)); refine blk_put (cs := #[.int .i64 x269000_1, .slice none 0 0, .int .u64 x269002_1]) ?_ 0 _ rfl; (with_reducible repeat (first | refine blk_drewN ?_ _ | refine blk_drew ?_ | refine blk_alloc ?_ _)); refine blk_far ?_ NB268_269.out _; (with_reducible repeat (first | refine blk_drewN ?_ _ | refine blk_drew ?_ | refine blk_alloc ?_ _)); exact BK268.out) Try.underlying31 rfl (by kernel_rfl)) rfl ?_
                                        exact ⟨_, by first | rfl | (simp [errW_none, errW_some] <;> rfl) | (simp only [← hji24]; first | rfl | (simp [errW_none, errW_some] <;> rfl)) | (simp [*, errW_none, errW_some] <;> rfl), by (with_reducible repeat (first | apply Kd.R_alloc | apply Kd.R_drewN | apply Kd.R_drew)); exact Kd.R_mono (Kd.R_far (p := ⟨gb268, 2, none⟩) (Kd.R_far (p := ⟨gb268, 1, none⟩) (Kd.R_far (p := ⟨gb268, 0, none⟩) (Kd.R_far (p := ⟨gb269, 2, none⟩) (Kd.R_types (Kd.R_types HO_270001.out BK269.out (by decide)) BK268.out (by decide)) (fun _ hk => hk.1.2) (.int .u64 (IntKind.u64.wrap (18446744073709551615 - x6_4)))) (fun _ hk => hk.2) (.int .i64 (wrap64 (rd l0 0)))) (fun _ hk => hk.2) (.slice Ao41 x270001_1.length co41)) (fun _ hk => hk.2) (.int .u64 (IntKind.u64.wrap (18446744073709551615 - x6_4)))) (fun _ hk => trivial), by repeat (first | (with_reducible first | exact HB.out | apply below_alloc | apply pw_below_drewN | apply below_drew1 | refine below_set ?_ GE268.out | refine below_set ?_ GE269.out) | exact HB.out)⟩
                          · rw [if_neg c27] at H
                            have c27b0 : ((rd l0 (ji24)) == 0) = false := beq_eq_false_iff_ne.mpr c27
                            have c27b1 : ((rd l0 (ji24)) != 0) = true := bne_iff_ne.mpr c27
                            by_cases c42 : (rd l0 (ji24)) = 255
                            · rw [if_pos c42] at H
                              have c42b0 : ((rd l0 (ji24)) == 255) = true := beq_iff_eq.mpr c42
                              have c42b1 : ((rd l0 (ji24)) != 255) = false := bne_eq_false_iff_eq.mpr c42
                              clear c42
                              by_cases c43 : x270001_1.length < 140737488355328
                              · rw [if_pos c43] at H
                                have LMc43 := Aside0.mk c43
                                clear c43
                                obtain ⟨y278, hy278⟩ : ∃ y_ : List Int, y_ = (x270001_1 ++ [0]) := ⟨_, rfl⟩
                                replace H : (munimentref05_Read.l0 kj12 l0 (wrap64 (x5_1 + 2)) (wrap64 (rd l0 0)) y278 0) = some (r1, r2, r3, r4) := by first | (rw [hy278]; with_reducible exact H) | (have H2_ := (Option.bind_some _ _).symm.trans H; rw [hy278]; with_reducible exact H2_) | (have H2_ := (Option.bind_some _ _).symm.trans H; with_reducible exact H2_) | with_reducible exact H | (rw [hy278]; exact H) | exact H
                                have Ny278 := Aside0.mk hy278
                                clear hy278
                                have H' := Aside0.mk H
                                clear H
                                have p271 : 0 ≤ (x5_1 : Int) := of_decide_eq_true (by first | (with_reducible assumption) | assumption)
                                have q271 : x5_1 < (l0.length : Int) := of_decide_eq_true (by first | (with_reducible assumption) | assumption)
                                obtain ⟨ad271, e271, hx271_0⟩ := Kd.at_int HR0.out x5_1 p271 q271
                                obtain rfl : ad270 = ad271 := (by injection e271)
                                replace hx271_0 := (HB.out.cell (World.block_lt_of_cell? w _ hx271_0)).trans hx271_0
                                replace p271 := eq_true p271
                                replace q271 := eq_true q271
                                have p276 : 0 ≤ ((ji24) : Int) := of_decide_eq_true (by first | (with_reducible assumption) | assumption)
                                have q276 : (ji24) < (l0.length : Int) := of_decide_eq_true (by first | (with_reducible assumption) | assumption)
                                obtain ⟨ad276, e276, hx276_0⟩ := Kd.at_int HR0.out (ji24) p276 q276
                                obtain rfl : ad270 = ad276 := (by injection e276)
                                replace hx276_0 := (HB.out.cell (World.block_lt_of_cell? w _ hx276_0)).trans hx276_0
                                replace p276 := eq_true p276
                                replace q276 := eq_true q276
                                have p277 : 0 ≤ ((ji24) : Int) := of_decide_eq_true (by first | (with_reducible assumption) | assumption)
                                have q277 : (ji24) < (l0.length : Int) := of_decide_eq_true (by first | (with_reducible assumption) | assumption)
                                obtain ⟨ad277, e277, hx277_0⟩ := Kd.at_int HR0.out (ji24) p277 q277
                                obtain rfl : ad270 = ad277 := (by injection e277)
                                replace hx277_0 := (HB.out.cell (World.block_lt_of_cell? w _ hx277_0)).trans hx277_0
                                replace p277 := eq_true p277
                                replace q277 := eq_true q277
                                have hnb44 := NB269_268.out
                                have hnc44 := NB268_269.out
                                have hcz45_0 : wc.cell? ⟨gb269, 0, none⟩ = some (.int .i64 (wrap64 (rd l0 0))) := (blk_cell BK269.out 0).trans rfl
                                have hcz45_1 : wc.cell? ⟨gb269, 1, none⟩ = some (u270001) := (blk_cell BK269.out 1).trans rfl
                                have hcz45_2 : wc.cell? ⟨gb269, 2, none⟩ = some (.int .u64 0) := (blk_cell BK269.out 2).trans rfl
                                have hfz45_0 := blk_frozen BK269.out 0
                                have hfz45_1 := blk_frozen BK269.out 1
                                have hfz45_2 := blk_frozen BK269.out 2
                                go_wp2_with (first | ((with_reducible refine gate_builtin (b := .append) (xs := #[.tmp 59, .tmp 60]) rfl ?_); (try (refine gate_guard (by rfl) ?_; dsimp only)); at_builtin; refine Kd.R_append (Kd.int .u8) (w0 := w) w.heap.size rfl (.tmp 59) (.tmp 60) 22 5 (.int .u8 0) 1 rfl Try.underlying22 info5 rfl (by decide) (by omega) u270001 x270001_1 0 [.int .u8 0] (fun _ => True) (fun _ => False) rfl rfl ?aP (fun _ hk => hk.elim) ?aF ?aO ?aB ?aS ?aL ?_; (case aP => exact rfl); (case aB => exact (by repeat (first | (with_reducible first | exact HB.out | apply below_alloc | apply pw_below_drewN | apply below_drew1 | refine below_set ?_ GE268.out | refine below_set ?_ GE269.out) | exact HB.out))); (case aF => exact (fun _ _ => trivial)); (case aO => exact (by (with_reducible repeat (first | apply Kd.R_alloc | apply Kd.R_drewN | apply Kd.R_drew)); exact HO_270001.out)); (case aS => exact (below_size (by repeat (first | (with_reducible first | exact HB.out | apply below_alloc | apply pw_below_drewN | apply below_drew1 | refine below_set ?_ GE268.out | refine below_set ?_ GE269.out) | exact HB.out)))); (case aL => have := LMc43.out; omega); intro v279 w46 ho hb hg hat; rw [← Ny278.out] at ho; have n0_ := Aside0.mk (blk_grown (g := gb268) (o := .cells #[.int .i64 x269000_1, .slice none 0 0, .int .u64 x269002_1] 31 (0, 0)) (by (with_reducible repeat (first | refine blk_drewN ?_ _ | refine blk_drew ?_ | refine blk_alloc ?_ _)); exact BK268.out) hg (Kd.R_ne HO_270001.out BK268.out (by decide))); have n1_ := Aside0.mk (blk_grown (g := gb269) (o := .cells #[.int .i64 (wrap64 (rd l0 0)), u270001, .int .u64 0] 31 (0, 0)) (by (with_reducible repeat (first | refine blk_drewN ?_ _ | refine blk_drew ?_ | refine blk_alloc ?_ _)); exact BK269.out) hg (Kd.R_ne HO_270001.out BK269.out (by decide))); have n2_ := Aside0.mk (hb); have n3_ := Aside0.mk (ho); clear BK268; clear BK269; clear HB; clear HO_270001; have BK268 := n0_; have BK269 := n1_; have HB := n2_; have HO280 := n3_; clear n0_ n1_ n2_ n3_; clear ho hb hg hat; obtain ⟨Ao47, co47, eo47⟩ := Kd.R_slice HO280.out; subst eo47; have hcz48_0 : w46.cell? ⟨gb269, 0, none⟩ = some (.int .i64 (wrap64 (rd l0 0))) := (blk_cell BK269.out 0).trans rfl; have hcz48_1 : w46.cell? ⟨gb269, 1, none⟩ = some (u270001) := (blk_cell BK269.out 1).trans rfl; have hcz48_2 : w46.cell? ⟨gb269, 2, none⟩ = some (.int .u64 0) := (blk_cell BK269.out 2).trans rfl; have hfz48_0 := blk_frozen BK269.out 0; have hfz48_1 := blk_frozen BK269.out 1; have hfz48_2 := blk_frozen BK269.out 2))
                                go_roundg kj12
                                case measure => have := HK1.out; have := HJ12.out; omega
                                case rel => exact ⟨(wrap64 (x5_1 + 2)), (x269000_1), (x269002_1), (y278), (.slice Ao47 y278.length co47), (by first | rfl | (simp; done) | (simp [*]; done)), H', ⟨by have := HK1.out; have := HJ12.out; omega⟩, ⟨by (with_reducible repeat (first | apply Kd.R_alloc | apply Kd.R_drewN | apply Kd.R_drew)); exact Kd.R_mono (Kd.R_far (p := ⟨gb269, 1, none⟩) (Kd.R_types HO280.out BK269.out (by decide)) (fun _ hk => hk.2) (.slice Ao47 y278.length co47)) (fun _ hk => trivial)⟩, ⟨by (with_reducible repeat (first | refine blk_drewN ?_ _ | refine blk_drew ?_ | refine blk_alloc ?_ _)); refine blk_far ?_ NB268_269.out _; (with_reducible repeat (first | refine blk_drewN ?_ _ | refine blk_drew ?_ | refine blk_alloc ?_ _)); exact BK268.out⟩, ⟨by (with_reducible repeat (first | refine blk_drewN ?_ _ | refine blk_drew ?_ | refine blk_alloc ?_ _)); refine blk_put (cs := #[.int .i64 (wrap64 (rd l0 0)), u270001, .int .u64 0]) ?_ 1 _ rfl; (with_reducible repeat (first | refine blk_drewN ?_ _ | refine blk_drew ?_ | refine blk_alloc ?_ _)); exact BK269.out⟩, ⟨by repeat (first | (with_reducible first | exact HB.out | apply below_alloc | apply pw_below_drewN | apply below_drew1 | refine below_set ?_ GE268.out | refine below_set ?_ GE269.out) | exact HB.out)⟩⟩
                              · rw [if_neg c43] at H
                                exact absurd H (by simp)
                            · rw [if_neg c42] at H
                              have c42b0 : ((rd l0 (ji24)) == 255) = false := beq_eq_false_iff_ne.mpr c42
                              have c42b1 : ((rd l0 (ji24)) != 255) = true := bne_iff_ne.mpr c42
                              simp only [Option.some.injEq, Prod.mk.injEq] at H
                              obtain ⟨rfl, rfl, rfl, rfl⟩ := H
                              have p271 : 0 ≤ (x5_1 : Int) := of_decide_eq_true (by first | (with_reducible assumption) | assumption)
                              have q271 : x5_1 < (l0.length : Int) := of_decide_eq_true (by first | (with_reducible assumption) | assumption)
                              obtain ⟨ad271, e271, hx271_0⟩ := Kd.at_int HR0.out x5_1 p271 q271
                              obtain rfl : ad270 = ad271 := (by injection e271)
                              replace hx271_0 := (HB.out.cell (World.block_lt_of_cell? w _ hx271_0)).trans hx271_0
                              replace p271 := eq_true p271
                              replace q271 := eq_true q271
                              have p276 : 0 ≤ ((ji24) : Int) := of_decide_eq_true (by first | (with_reducible assumption) | assumption)
                              have q276 : (ji24) < (l0.length : Int) := of_decide_eq_true (by first | (with_reducible assumption) | assumption)
                              obtain ⟨ad276, e276, hx276_0⟩ := Kd.at_int HR0.out (ji24) p276 q276
                              obtain rfl : ad270 = ad276 := (by injection e276)
                              replace hx276_0 := (HB.out.cell (World.block_lt_of_cell? w _ hx276_0)).trans hx276_0
                              replace p276 := eq_true p276
                              replace q276 := eq_true q276
                              have p277 : 0 ≤ ((ji24) : Int) := of_decide_eq_true (by first | (with_reducible assumption) | assumption)
                              have q277 : (ji24) < (l0.length : Int) := of_decide_eq_true (by first | (with_reducible assumption) | assumption)
                              obtain ⟨ad277, e277, hx277_0⟩ := Kd.at_int HR0.out (ji24) p277 q277
                              obtain rfl : ad270 = ad277 := (by injection e277)
                              replace hx277_0 := (HB.out.cell (World.block_lt_of_cell? w _ hx277_0)).trans hx277_0
                              replace p277 := eq_true p277
                              replace q277 := eq_true q277
                              have hnb49 := NB268_269.out
                              have hnc49 := NB269_268.out
                              have hcz50_0 : wc.cell? ⟨gb268, 0, none⟩ = some (.int .i64 x269000_1) := (blk_cell BK268.out 0).trans rfl
                              have hcz50_1 : wc.cell? ⟨gb268, 1, none⟩ = some (.slice none 0 0) := (blk_cell BK268.out 1).trans rfl
                              have hcz50_2 : wc.cell? ⟨gb268, 2, none⟩ = some (.int .u64 x269002_1) := (blk_cell BK268.out 2).trans rfl
                              have hfz50_0 := blk_frozen BK268.out 0
                              have hfz50_1 := blk_frozen BK268.out 1
                              have hfz50_2 := blk_frozen BK268.out 2
                              go_wp2
                              refine bodyPost_ret (results_ct rfl _ _ gb268 31 #[.int .i64 0, .slice none 0 0, .int .u64 0] (0, 0) _ rfl (by (with_reducible repeat (first | refine blk_drewN ?_ _ | refine blk_drew ?_ | refine blk_alloc ?_ _)); refine blk_put (cs := #[.int .i64 0, .slice none 0 0, .int .u64 x269002_1]) ?_ 2 _ rfl; (with_reducible repeat (first | refine blk_drewN ?_ _ | refine blk_drew ?_ | refine blk_alloc ?_ _)); refine blk_put (cs := #[.int .i64 0, .slice none 0 0, .int .u64 x269002_1]) ?_ 1 _ rfl; (with_reducible repeat (first | refine blk_drewN ?_ _ | refine blk_drew ?_ | refine blk_alloc ?_ _)); refine blk_put (cs := #[.int .i64 x269000_1, .slice none 0 0, .int .u64 x269002_1]) ?_ 0 _ rfl; (with_reducible repeat (first | refine blk_drewN ?_ _ | refine blk_drew ?_ | refine blk_alloc ?_ _)); exact BK268.out) Try.underlying31 rfl (by kernel_rfl)) rfl ?_
                              exact ⟨_, by first | rfl | (simp [errW_none, errW_some] <;> rfl) | (simp only [← hji24]; first | rfl | (simp [errW_none, errW_some] <;> rfl)) | (simp [*, errW_none, errW_some] <;> rfl), by first | exact Kd.R_nil _ _ _ _ _ | exact Kd.N_nil _ _ _ _ _ | exact Kd.V_nil _ _ _ _ _ | exact Kd.Q_nil _ _ _ _ _ | exact Kd.S_nil _ _ _ _ _, by repeat (first | (with_reducible first | exact HB.out | apply below_alloc | apply pw_below_drewN | apply below_drew1 | refine below_set ?_ GE268.out | refine below_set ?_ GE269.out) | exact HB.out)⟩
                        · rw [if_neg c26] at H
                          exact absurd H (by simp)
                      · rw [if_neg c25] at H
                        exact absurd H (by simp)
                    · rw [if_neg c23] at H
                      have c23b0 : ((rd l0 x5_1) == 0) = false := beq_eq_false_iff_ne.mpr c23
                      have c23b1 : ((rd l0 x5_1) != 0) = true := bne_iff_ne.mpr c23
                      by_cases c51 : x270001_1.length < 140737488355328
                      · rw [if_pos c51] at H
                        have LMc51 := Aside0.mk c51
                        clear c51
                        obtain ⟨y273, hy273⟩ : ∃ y_ : List Int, y_ = (x270001_1 ++ [rd l0 x5_1]) := ⟨_, rfl⟩
                        replace H : (munimentref05_Read.l0 kj12 l0 (wrap64 (x5_1 + 1)) (wrap64 (rd l0 0)) y273 0) = some (r1, r2, r3, r4) := by first | (rw [hy273]; with_reducible exact H) | (have H2_ := (Option.bind_some _ _).symm.trans H; rw [hy273]; with_reducible exact H2_) | (have H2_ := (Option.bind_some _ _).symm.trans H; with_reducible exact H2_) | with_reducible exact H | (rw [hy273]; exact H) | exact H
                        have Ny273 := Aside0.mk hy273
                        clear hy273
                        have H' := Aside0.mk H
                        clear H
                        have p271 : 0 ≤ (x5_1 : Int) := of_decide_eq_true (by first | (with_reducible assumption) | assumption)
                        have q271 : x5_1 < (l0.length : Int) := of_decide_eq_true (by first | (with_reducible assumption) | assumption)
                        obtain ⟨ad271, e271, hx271_0⟩ := Kd.at_int HR0.out x5_1 p271 q271
                        obtain rfl : ad270 = ad271 := (by injection e271)
                        replace hx271_0 := (HB.out.cell (World.block_lt_of_cell? w _ hx271_0)).trans hx271_0
                        replace p271 := eq_true p271
                        replace q271 := eq_true q271
                        try go_wp2
                        have n0_ := Aside0.mk (Kd.R_drew HO_270001.out)
                        have n1_ := Aside0.mk (blk_drew BK268.out)
                        have n2_ := Aside0.mk (blk_drew BK269.out)
                        have n3_ := Aside0.mk (below_drew1 HB.out)
                        clear HO_270001
                        clear BK268
                        clear BK269
                        clear HB
                        have HO_270001 := n0_
                        have BK268 := n1_
                        have BK269 := n2_
                        have HB := n3_
                        clear n0_ n1_ n2_ n3_
                        have p272 : 0 ≤ (x5_1 : Int) := of_decide_eq_true (by first | (with_reducible assumption) | assumption)
                        have q272 : x5_1 < (l0.length : Int) := of_decide_eq_true (by first | (with_reducible assumption) | assumption)
                        obtain ⟨ad272, e272, hx272_0⟩ := Kd.at_int HR0.out x5_1 p272 q272
                        have hw272_0 := hx272_0
                        obtain rfl : ad270 = ad272 := (by injection e272)
                        replace hx272_0 := (HB.out.cell (World.block_lt_of_cell? w _ hx272_0)).trans hx272_0
                        replace p272 := eq_true p272
                        replace q272 := eq_true q272
                        refine start_ (n := 10) (S := fun w' => w'.cell? ⟨gb269, 0, none⟩ = some (.int .i64 (wrap64 (rd l0 0))) ∧ w'.cell? ⟨gb269, 1, none⟩ = some (u270001) ∧ w'.cell? ⟨gb269, 2, none⟩ = some (.int .u64 0) ∧ w'.cell? (ad270.add (x5_1).toNat) = some (.int .u8 (rd l0 x5_1))) (ds := [9]) #[false, false, false, false, false, false, false, false, false, false] (by kernel_rfl) rfl rfl ⟨(blk_cell BK269.out 0).trans rfl, (blk_cell BK269.out 1).trans rfl, (blk_cell BK269.out 2).trans rfl, ((HB.out.cell (World.block_lt_of_cell? w _ hw272_0)).trans hw272_0)⟩ (fun hHeld => ?_); refine with_tabW munimentref05_Read.tab9 munimentref05_Read.bits9 (fun HT_ HW_ => ?_)
                        generalize wc.drew = w52 at HO_270001 BK268 BK269 HB hx272_0 hHeld ⊢
                        refine pure_ (i := 0) (N := some 34) (v := ?_) (a' := ?_) #[true, false, false, false, false, false, false, false, false, false] rfl rfl (any_of HT_.out (by kernel_rfl)) (fun _ _ _ h => h) (Or.inl ⟨by rfl, ?_⟩) ?_ ?_
                        rotate_left
                        · intro w'
                          go_simp
                          with_reducible rfl
                        rotate_left
                        · simp only [Act.put, List.setIfInBounds_toArray, List.set_cons_zero, List.set_cons_succ, i64_w, i32_w]
                          rfl
                        refine pure_ (i := 2) (N := some 36) (v := ?_) (a' := ?_) #[true, false, true, false, false, false, false, false, false, false] rfl rfl (any_of HT_.out (by kernel_rfl)) (fun _ _ _ h => h) (Or.inl ⟨by rfl, ?_⟩) ?_ ?_
                        rotate_left
                        · intro w'
                          go_simp
                          with_reducible rfl
                        rotate_left
                        · simp only [Act.put, List.setIfInBounds_toArray, List.set_cons_zero, List.set_cons_succ, i64_w, i32_w]
                          rfl
                        refine pure_ (i := 3) (N := some 37) (v := ?_) (a' := ?_) #[true, false, true, true, false, false, false, false, false, false] rfl rfl (any_of HT_.out (by kernel_rfl)) (fun _ _ _ h => h) (Or.inl ⟨by rfl, ?_⟩) ?_ ?_
                        rotate_left
                        · intro w'
                          go_simp
                          with_reducible rfl
                        rotate_left
                        · simp only [Act.put, List.setIfInBounds_toArray, List.set_cons_zero, List.set_cons_succ, i64_w, i32_w]
                          rfl
                        refine pure_ (i := 4) (N := some 38) (v := ?_) (a' := ?_) #[true, false, true, true, true, false, false, false, false, false] rfl rfl (any_of HT_.out (by kernel_rfl)) (fun _ _ _ h => h) (Or.inl ⟨by rfl, ?_⟩) ?_ ?_
                        rotate_left
                        · intro w'
                          go_simp
                          with_reducible rfl
                        rotate_left
                        · simp only [Act.put, List.setIfInBounds_toArray, List.set_cons_zero, List.set_cons_succ, i64_w, i32_w]
                          rfl
                        refine take_ (i := 1) (N := some 35) (v := ?_) (a' := ?_) #[true, true, true, true, true, false, false, false, false, false] rfl rfl (take_ofW HT_.out HW_.out (by kernel_rfl)) (fun _ _ _ h => h) (Or.inl ⟨by rfl, ?_⟩) hHeld ?_ ?_
                        rotate_left
                        · rintro w' ⟨s0, s1, s2, s3⟩
                          go_simp
                          with_reducible rfl
                        rotate_left
                        · simp only [Act.put, List.setIfInBounds_toArray, List.set_cons_zero, List.set_cons_succ, i64_w, i32_w]
                          rfl
                        refine take_ (i := 5) (N := some 39) (v := ?_) (a' := ?_) #[true, true, true, true, true, true, false, false, false, false] rfl rfl (take_ofW HT_.out HW_.out (by kernel_rfl)) (fun _ _ _ h => h) (Or.inl ⟨by rfl, ?_⟩) hHeld ?_ ?_
                        rotate_left
                        · rintro w' ⟨s0, s1, s2, s3⟩
                          go_simp
                          with_reducible rfl
                        rotate_left
                        · simp only [Act.put, List.setIfInBounds_toArray, List.set_cons_zero, List.set_cons_succ, i64_w, i32_w]
                          rfl
                        refine one_ (i := 6) (N := some 40) #[true, true, true, true, true, true, true, false, false, false] rfl rfl (one_of HT_.out (by kernel_rfl)) (by decide) (fun K hK => ?_)
                        refine value_ (w1 := ?_) (v := ?_) (by rfl) rfl ?_ ?_
                        rotate_left 2
                        · go_simp
                          constructor
                          · rfl
                          · rfl
                        refine hK.out _ _ ⟨(blk_cell (blk_alloc BK269.out _) 0).trans rfl, (blk_cell (blk_alloc BK269.out _) 1).trans rfl, (blk_cell (blk_alloc BK269.out _) 2).trans rfl, (World.cell?_alloc_lt _ _ _ (World.block_lt_of_cell? _ _ (((HB.out.cell (World.block_lt_of_cell? w _ hw272_0)).trans hw272_0)))).trans (((HB.out.cell (World.block_lt_of_cell? w _ hw272_0)).trans hw272_0))⟩ (fun hHeld => ?_)
                        clear hK K
                        refine norm_ (a' := ?_) ?_ ?_
                        rotate_left
                        · show Act.put _ (some 40) _ = _
                          simp only [Act.put, List.setIfInBounds_toArray, List.set_cons_zero, List.set_cons_succ, i64_w, i32_w]
                          rfl
                        refine one_ (i := 7) (N := some 41) #[true, true, true, true, true, true, true, true, false, false] rfl rfl (one_of HT_.out (by kernel_rfl)) (by decide) (fun K hK => ?_)
                        refine Kd.R_append_step (Kd.int .u8) (w0 := w) w.heap.size (by rfl) (.tmp 35) (.tmp 40) 22 5 (.int .u8 0) 1 rfl Try.underlying22 info5 rfl (by decide) (by omega) u270001 x270001_1 (rd l0 x5_1) [.int .u8 (rd l0 x5_1)] (fun _ => True) (fun _ => False) rfl rfl ?aP (fun _ hk => hk.elim) ?aF ?aO ?aB ?aS ?aL ?_
                        (case aP => exact rfl)
                        (case aB => exact (by repeat (first | (with_reducible first | exact HB.out | apply below_alloc | apply pw_below_drewN | apply below_drew1 | refine below_set ?_ GE268.out | refine below_set ?_ GE269.out) | exact HB.out)))
                        (case aF => exact (fun _ _ => trivial))
                        (case aO => exact (by (with_reducible repeat (first | apply Kd.R_alloc | apply Kd.R_drewN | apply Kd.R_drew)); exact HO_270001.out))
                        (case aS => exact (below_size (by repeat (first | (with_reducible first | exact HB.out | apply below_alloc | apply pw_below_drewN | apply below_drew1 | refine below_set ?_ GE268.out | refine below_set ?_ GE269.out) | exact HB.out))))
                        (case aL => have := LMc51.out; omega)
                        intro v274 w53 ho hb hg hat
                        rw [← Ny273.out] at ho
                        have n0_ := Aside0.mk (blk_grown (g := gb268) (o := .cells #[.int .i64 x269000_1, .slice none 0 0, .int .u64 x269002_1] 31 (0, 0)) (by (with_reducible repeat (first | refine blk_drewN ?_ _ | refine blk_drew ?_ | refine blk_alloc ?_ _)); exact BK268.out) hg (Kd.R_ne HO_270001.out BK268.out (by decide)))
                        have n1_ := Aside0.mk (blk_grown (g := gb269) (o := .cells #[.int .i64 (wrap64 (rd l0 0)), u270001, .int .u64 0] 31 (0, 0)) (by (with_reducible repeat (first | refine blk_drewN ?_ _ | refine blk_drew ?_ | refine blk_alloc ?_ _)); exact BK269.out) hg (Kd.R_ne HO_270001.out BK269.out (by decide)))
                        have n2_ := Aside0.mk (hb)
                        have n3_ := Aside0.mk (ho)
                        clear BK268
                        clear BK269
                        clear HB
                        clear HO_270001
                        have BK268 := n0_
                        have BK269 := n1_
                        have HB := n2_
                        have HO275 := n3_
                        clear n0_ n1_ n2_ n3_
                        clear ho hb hg hat
                        obtain ⟨Ao54, co54, eo54⟩ := Kd.R_slice HO275.out
                        (first | subst eo54 | (injection eo54 with f1_ f2_ f3_; have f4_ := f1_.symm; have f5_ := f3_.symm; clear f1_ f2_ f3_; subst f4_; subst f5_))
                        refine hK.out _ _ ⟨(blk_cell BK269.out 0).trans rfl, (blk_cell BK269.out 1).trans rfl, (blk_cell BK269.out 2).trans rfl, ((HB.out.cell (World.block_lt_of_cell? w _ hw272_0)).trans hw272_0)⟩ (fun hHeld => ?_)
                        clear hK K
                        refine norm_ (a' := ?_) ?_ ?_
                        rotate_left
                        · show Act.put _ (some 41) _ = _
                          simp only [Act.put, List.setIfInBounds_toArray, List.set_cons_zero, List.set_cons_succ, i64_w, i32_w]
                          rfl
                        refine pure_ (i := 8) (N := some 42) (v := ?_) (a' := ?_) #[true, true, true, true, true, true, true, true, true, false] rfl rfl (any_of HT_.out (by kernel_rfl)) (fun _ _ _ h => h) (Or.inl ⟨by rfl, ?_⟩) ?_ ?_
                        rotate_left
                        · intro w'
                          go_simp
                          with_reducible rfl
                        rotate_left
                        · simp only [Act.put, List.setIfInBounds_toArray, List.set_cons_zero, List.set_cons_succ, i64_w, i32_w]
                          rfl
                        refine last_ (i := 9) (N := none) #[true, true, true, true, true, true, true, true, true, true] rfl rfl (one_of HT_.out (by kernel_rfl)) (by decide) (fun K hK => ?_)
                        have hs55 : w53.cell? ⟨gb269, 1, none⟩ = some (u270001) := (blk_cell BK269.out 1).trans rfl
                        have hfs55 := blk_frozen BK269.out 1
                        have hns55_0 := NB268_269.out
                        have hms55_0 := NB269_268.out
                        refine skip_ (w1 := ?_) (by rfl) rfl ?_ ?_
                        rotate_left
                        · go_simp
                          rfl
                        refine hK.out _ _ ?_
                        clear hK K
                        refine done_ (done_of HT_.out (by kernel_rfl)) ?_
                        try go_wp2
                        go_roundg kj12
                        case measure => have := HK1.out; have := HJ12.out; omega
                        case rel => exact ⟨(wrap64 (x5_1 + 1)), (x269000_1), (x269002_1), (y273), (.slice Ao54 y273.length co54), (by first | rfl | (simp; done) | (simp [*]; done)), H', ⟨by have := HK1.out; have := HJ12.out; omega⟩, ⟨by (with_reducible repeat (first | apply Kd.R_alloc | apply Kd.R_drewN | apply Kd.R_drew)); exact Kd.R_mono (Kd.R_far (p := ⟨gb269, 1, none⟩) (Kd.R_types HO275.out BK269.out (by decide)) (fun _ hk => hk.2) (.slice Ao54 y273.length co54)) (fun _ hk => trivial)⟩, ⟨by (with_reducible repeat (first | refine blk_drewN ?_ _ | refine blk_drew ?_ | refine blk_alloc ?_ _)); refine blk_far ?_ NB268_269.out _; (with_reducible repeat (first | refine blk_drewN ?_ _ | refine blk_drew ?_ | refine blk_alloc ?_ _)); exact BK268.out⟩, ⟨by (with_reducible repeat (first | refine blk_drewN ?_ _ | refine blk_drew ?_ | refine blk_alloc ?_ _)); refine blk_put (cs := #[.int .i64 (wrap64 (rd l0 0)), u270001, .int .u64 0]) ?_ 1 _ rfl; (with_reducible repeat (first | refine blk_drewN ?_ _ | refine blk_drew ?_ | refine blk_alloc ?_ _)); exact BK269.out⟩, ⟨by repeat (first | (with_reducible first | exact HB.out | apply below_alloc | apply pw_below_drewN | apply below_drew1 | refine below_set ?_ GE268.out | refine below_set ?_ GE269.out) | exact HB.out)⟩⟩
                      · rw [if_neg c51] at H
                        exact absurd H (by simp)
                  · rw [if_neg c22] at H
                    exact absurd H (by simp)
                · rw [if_neg c21] at H
                  exact absurd H (by simp)
    · rw [if_neg c8] at H
      exact absurd H (by simp)

end Go.Proofs.Ytpbcjhckhocgeaa.PS
