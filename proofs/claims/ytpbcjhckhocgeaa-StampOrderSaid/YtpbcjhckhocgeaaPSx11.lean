-- Written by a program of this session (wip/tools/patch_print.py) over the translation. Not trusted: Lean checks it.
import Derived.Test.YtpbcjhckhocgeaaPSx0
import Derived.Test.YtpbcjhckhocgeaaPSx3
import Derived.Test.YtpbcjhckhocgeaaPSx4
import Derived.Test.YtpbcjhckhocgeaaPSx7
import Derived.Test.YtpbcjhckhocgeaaPSx8
import Derived.Test.YtpbcjhckhocgeaaPSx9
import Derived.Test.YtpbcjhckhocgeaaPSx10
namespace Go.Proofs.Ytpbcjhckhocgeaa.PS
open Go.RowKit Go.Proofs.YtpbcjhckhocgeaaW.PrintWords Go.Proofs.YtpbcjhckhocgeaaW.PrintLast Go.Proofs.YtpbcjhckhocgeaaW.PrintMore
attribute [local go_sem] max2_int min2_int max_two min_two max_three min_three max_four min_four   -- for this text's walks alone
set_option linter.unusedVariables false
set_option linter.unusedSimpArgs false

/-! ### munimentlaw05_StampSpans: function 4 -/
mutual
def munimentlaw05_StampSpans.j0 : Nat → Int → List Int → Bool → Int → List Int → Int → Option (Bool)
  | 0, _, _, _, _, _, _ => none
  | k + 1, x0, x1, x24, x200000, x200001, x200002 => if x24 = true then ((munimentlaw05_awake.f k).bind fun t201 => (some t201)) else ((stamp_First.f k x0 x1).bind fun t202 => ((stamp_Behind.f k x0 x1).bind fun t205 => ((munimentref05_First.f k x0 x1).bind fun t208 => ((munimentref04_Same.f k t202 t208).bind fun t211 => (if t211 = true then ((munimentref05_Behind.f k x0 x1).bind fun t212 => ((munimentref04_Same.f k t205 t212).bind fun t215 => (munimentlaw05_StampSpans.j1 k x0 x1 t202 t205 (!t215) x200000 x200001 x200002))) else (munimentlaw05_StampSpans.j1 k x0 x1 t202 t205 true x200000 x200001 x200002))))))
def munimentlaw05_StampSpans.j1 : Nat → Int → List Int → List Int → List Int → Bool → Int → List Int → Int → Option (Bool)
  | 0, _, _, _, _, _, _, _, _ => none
  | k + 1, x0, x1, x7, x8, x45, x200000, x200001, x200002 => if x45 = true then (some false) else ((stamp_Write.f k x200000 x200001 x200002).bind fun bt216 => (if bt216.2 = 0 then (munimentlaw05_StampSpans.j2 k x0 x1 x7 x8 bt216.1 ((x7.length : Int) == 0) x200000 x200001 x200002) else (munimentlaw05_StampSpans.j2 k x0 x1 x7 x8 bt216.1 true x200000 x200001 x200002)))
def munimentlaw05_StampSpans.j2 : Nat → Int → List Int → List Int → List Int → List Int → Bool → Int → List Int → Int → Option (Bool)
  | 0, _, _, _, _, _, _, _, _, _ => none
  | k + 1, x0, x1, x7, x8, x9, x57, x200000, x200001, x200002 => if x57 = true then (some true) else ((munimentref04_Less.f k x9 x7).bind fun t220 => (if t220 = true then (if x200000 = x0 then ((munimentref04_Same.f k x200001 x1).bind fun t221 => (some (false == t221))) else (some (false == false))) else ((munimentref04_Less.f k x9 x8).bind fun t222 => (if x200000 = x0 then ((munimentref04_Same.f k x200001 x1).bind fun t223 => (some (t222 == t223))) else (some (t222 == false))))))
end
def munimentlaw05_StampSpans.f (k : Nat) (a0 : Int) (l1 : List Int) (a2_0 : Int) (l2_1 : List Int) (a2_2 : Int) : Option (Bool) := (munimentlaw05_awake.f k).bind fun t200 => (if t200 = true then (if (l1.length : Int) > 1000 then (munimentlaw05_StampSpans.j0 k a0 l1 true a2_0 l2_1 a2_2) else (munimentlaw05_StampSpans.j0 k a0 l1 (decide ((l2_1.length : Int) > 1000)) a2_0 l2_1 a2_2)) else (munimentlaw05_StampSpans.j0 k a0 l1 true a2_0 l2_1 a2_2))
theorem munimentlaw05_StampSpans.mono_l : ∀ k, (∀ y0 y1 y2 y3 y4 y5, LeO (munimentlaw05_StampSpans.j0 k y0 y1 y2 y3 y4 y5) (munimentlaw05_StampSpans.j0 (k + 1) y0 y1 y2 y3 y4 y5)) ∧ (∀ y0 y1 y2 y3 y4 y5 y6 y7, LeO (munimentlaw05_StampSpans.j1 k y0 y1 y2 y3 y4 y5 y6 y7) (munimentlaw05_StampSpans.j1 (k + 1) y0 y1 y2 y3 y4 y5 y6 y7)) ∧ (∀ y0 y1 y2 y3 y4 y5 y6 y7 y8, LeO (munimentlaw05_StampSpans.j2 k y0 y1 y2 y3 y4 y5 y6 y7 y8) (munimentlaw05_StampSpans.j2 (k + 1) y0 y1 y2 y3 y4 y5 y6 y7 y8))
  | 0 => ⟨fun _ _ _ _ _ _ r h => by simp [munimentlaw05_StampSpans.j0] at h, fun _ _ _ _ _ _ _ _ r h => by simp [munimentlaw05_StampSpans.j1] at h, fun _ _ _ _ _ _ _ _ _ r h => by simp [munimentlaw05_StampSpans.j2] at h⟩
  | k + 1 => by
    obtain ⟨ih0, ih1, ih2⟩ := munimentlaw05_StampSpans.mono_l k
    refine ⟨?_, ?_, ?_⟩
    · intro y0 y1 y2 y3 y4 y5
      unfold munimentlaw05_StampSpans.j0
      repeat' first
      | (with_reducible exact ih0 _ _ _ _ _ _)
      | (with_reducible exact ih1 _ _ _ _ _ _ _ _)
      | (with_reducible exact ih2 _ _ _ _ _ _ _ _ _)
      | (with_reducible exact munimentlaw05_awake.mono _)
      | (with_reducible exact munimentref04_Less.mono _ _ _)
      | (with_reducible exact munimentref04_Same.mono _ _ _)
      | (with_reducible exact munimentref05_Behind.mono _ _ _)
      | (with_reducible exact munimentref05_First.mono _ _ _)
      | (with_reducible exact stamp_Behind.mono _ _ _)
      | (with_reducible exact stamp_First.mono _ _ _)
      | (with_reducible exact stamp_Write.mono _ _ _ _)
      | (with_reducible exact LeO.refl _)
      | (with_reducible exact LeO.none _)
      | (with_reducible refine LeO.ite ?_ ?_)
      | (with_reducible refine LeO.bind ?_ (fun _ => ?_))
      | exact ih0 _ _ _ _ _ _
      | exact ih1 _ _ _ _ _ _ _ _
      | exact ih2 _ _ _ _ _ _ _ _ _
      | exact munimentlaw05_awake.mono _
      | exact munimentref04_Less.mono _ _ _
      | exact munimentref04_Same.mono _ _ _
      | exact munimentref05_Behind.mono _ _ _
      | exact munimentref05_First.mono _ _ _
      | exact stamp_Behind.mono _ _ _
      | exact stamp_First.mono _ _ _
      | exact stamp_Write.mono _ _ _ _
      | exact LeO.none _
      | refine LeO.ite ?_ ?_
      | refine LeO.bind ?_ (fun _ => ?_)
    · intro y0 y1 y2 y3 y4 y5 y6 y7
      unfold munimentlaw05_StampSpans.j1
      repeat' first
      | (with_reducible exact ih0 _ _ _ _ _ _)
      | (with_reducible exact ih1 _ _ _ _ _ _ _ _)
      | (with_reducible exact ih2 _ _ _ _ _ _ _ _ _)
      | (with_reducible exact munimentlaw05_awake.mono _)
      | (with_reducible exact munimentref04_Less.mono _ _ _)
      | (with_reducible exact munimentref04_Same.mono _ _ _)
      | (with_reducible exact munimentref05_Behind.mono _ _ _)
      | (with_reducible exact munimentref05_First.mono _ _ _)
      | (with_reducible exact stamp_Behind.mono _ _ _)
      | (with_reducible exact stamp_First.mono _ _ _)
      | (with_reducible exact stamp_Write.mono _ _ _ _)
      | (with_reducible exact LeO.refl _)
      | (with_reducible exact LeO.none _)
      | (with_reducible refine LeO.ite ?_ ?_)
      | (with_reducible refine LeO.bind ?_ (fun _ => ?_))
      | exact ih0 _ _ _ _ _ _
      | exact ih1 _ _ _ _ _ _ _ _
      | exact ih2 _ _ _ _ _ _ _ _ _
      | exact munimentlaw05_awake.mono _
      | exact munimentref04_Less.mono _ _ _
      | exact munimentref04_Same.mono _ _ _
      | exact munimentref05_Behind.mono _ _ _
      | exact munimentref05_First.mono _ _ _
      | exact stamp_Behind.mono _ _ _
      | exact stamp_First.mono _ _ _
      | exact stamp_Write.mono _ _ _ _
      | exact LeO.none _
      | refine LeO.ite ?_ ?_
      | refine LeO.bind ?_ (fun _ => ?_)
    · intro y0 y1 y2 y3 y4 y5 y6 y7 y8
      unfold munimentlaw05_StampSpans.j2
      repeat' first
      | (with_reducible exact ih0 _ _ _ _ _ _)
      | (with_reducible exact ih1 _ _ _ _ _ _ _ _)
      | (with_reducible exact ih2 _ _ _ _ _ _ _ _ _)
      | (with_reducible exact munimentlaw05_awake.mono _)
      | (with_reducible exact munimentref04_Less.mono _ _ _)
      | (with_reducible exact munimentref04_Same.mono _ _ _)
      | (with_reducible exact munimentref05_Behind.mono _ _ _)
      | (with_reducible exact munimentref05_First.mono _ _ _)
      | (with_reducible exact stamp_Behind.mono _ _ _)
      | (with_reducible exact stamp_First.mono _ _ _)
      | (with_reducible exact stamp_Write.mono _ _ _ _)
      | (with_reducible exact LeO.refl _)
      | (with_reducible exact LeO.none _)
      | (with_reducible refine LeO.ite ?_ ?_)
      | (with_reducible refine LeO.bind ?_ (fun _ => ?_))
      | exact ih0 _ _ _ _ _ _
      | exact ih1 _ _ _ _ _ _ _ _
      | exact ih2 _ _ _ _ _ _ _ _ _
      | exact munimentlaw05_awake.mono _
      | exact munimentref04_Less.mono _ _ _
      | exact munimentref04_Same.mono _ _ _
      | exact munimentref05_Behind.mono _ _ _
      | exact munimentref05_First.mono _ _ _
      | exact stamp_Behind.mono _ _ _
      | exact stamp_First.mono _ _ _
      | exact stamp_Write.mono _ _ _ _
      | exact LeO.none _
      | refine LeO.ite ?_ ?_
      | refine LeO.bind ?_ (fun _ => ?_)
theorem munimentlaw05_StampSpans.mono : ∀ a0 a1 a2 a3 a4 k, LeO (munimentlaw05_StampSpans.f k a0 a1 a2 a3 a4) (munimentlaw05_StampSpans.f (k + 1) a0 a1 a2 a3 a4) := by
  intro a0 a1 a2 a3 a4 k
  obtain ⟨ih0, ih1, ih2⟩ := munimentlaw05_StampSpans.mono_l k
  unfold munimentlaw05_StampSpans.f
  repeat' first
      | (with_reducible exact ih0 _ _ _ _ _ _)
      | (with_reducible exact ih1 _ _ _ _ _ _ _ _)
      | (with_reducible exact ih2 _ _ _ _ _ _ _ _ _)
      | (with_reducible exact munimentlaw05_awake.mono _)
      | (with_reducible exact munimentref04_Less.mono _ _ _)
      | (with_reducible exact munimentref04_Same.mono _ _ _)
      | (with_reducible exact munimentref05_Behind.mono _ _ _)
      | (with_reducible exact munimentref05_First.mono _ _ _)
      | (with_reducible exact stamp_Behind.mono _ _ _)
      | (with_reducible exact stamp_First.mono _ _ _)
      | (with_reducible exact stamp_Write.mono _ _ _ _)
      | (with_reducible exact LeO.refl _)
      | (with_reducible exact LeO.none _)
      | (with_reducible refine LeO.ite ?_ ?_)
      | (with_reducible refine LeO.bind ?_ (fun _ => ?_))
      | exact ih0 _ _ _ _ _ _
      | exact ih1 _ _ _ _ _ _ _ _
      | exact ih2 _ _ _ _ _ _ _ _ _
      | exact munimentlaw05_awake.mono _
      | exact munimentref04_Less.mono _ _ _
      | exact munimentref04_Same.mono _ _ _
      | exact munimentref05_Behind.mono _ _ _
      | exact munimentref05_First.mono _ _ _
      | exact stamp_Behind.mono _ _ _
      | exact stamp_First.mono _ _ _
      | exact stamp_Write.mono _ _ _ _
      | exact LeO.none _
      | refine LeO.ite ?_ ?_
      | refine LeO.bind ?_ (fun _ => ?_)
set_option maxHeartbeats 8000000 in
set_option maxRecDepth 100000 in
theorem munimentlaw05_StampSpans.calls (k : Nat) (a0 : Int) (A1 : Option Addr) (c1 : Nat) (l1 : List Int) (a2_0 : Int) (A2_1 : Option Addr) (c2_1 : Nat) (l2_1 : List Int) (a2_2 : Int) (r : Bool) (w : World) (hr1 : Kd.C (Kd.int .u8) w A1 l1.length l1) (hc1 : l1.length ≤ c1) (hr2_1 : Kd.C (Kd.int .u8) w A2_1 l2_1.length l2_1) (hc2_1 : l2_1.length ≤ c2_1) (h : munimentlaw05_StampSpans.f k a0 l1 a2_0 l2_1 a2_2 = some r) :
    Calls Try.prog 4 #[.int .i64 a0, .slice A1 l1.length c1, .agg #[.int .i64 a2_0, .slice A2_1 l2_1.length c2_1, .int .u64 a2_2]] w fun e w' => e = .returned (.bool r) ∧ Below w.heap.size w w' := by
  have hu25 := Try.underlying25
  have HR1 := Aside0.mk hr1
  have HC1 := Aside0.mk hc1
  clear hr1 hc1
  have HR2_1 := Aside0.mk hr2_1
  have HC2_1 := Aside0.mk hc2_1
  clear hr2_1 hc2_1
  have HB := Aside0.mk (Below.refl w.heap.size w)
  have H : ((munimentlaw05_awake.f k).bind fun t200 => (if t200 = true then (if (l1.length : Int) > 1000 then (munimentlaw05_StampSpans.j0 k a0 l1 true a2_0 l2_1 a2_2) else (munimentlaw05_StampSpans.j0 k a0 l1 (decide ((l2_1.length : Int) > 1000)) a2_0 l2_1 a2_2)) else (munimentlaw05_StampSpans.j0 k a0 l1 true a2_0 l2_1 a2_2))) = some r := h
  clear h
  have HC4 := Aside0.mk H
  clear H
  go_enter Try.func4, Try.ntmps4
  go_upto_region 1 with (first | ((with_reducible refine gate_dst (N := 5) rfl ?_); (try (refine gate_guard (by rfl) ?_; dsimp only)); refine box_event ?hg (N := 5) ?hd (cs := #[.int .i64 a2_0, .slice A2_1 l2_1.length c2_1, .int .u64 a2_2]) (t := 25) ?hr ?_; (case hd => rfl); (case hg => rfl); (case hr => first | (go_simp; done) | (go_simp; rfl)); intro gb199 hg w5 hbox hb; have n0_ := Aside0.mk (below_step (by repeat (first | (with_reducible first | exact HB.out | apply below_alloc | apply pw_below_drewN | apply below_drew1) | exact HB.out)) hb); have n1_ := Aside0.mk (hbox); have n2_ := Aside0.mk ((by rw [hg]; exact (below_size (by repeat (first | (with_reducible first | exact HB.out | apply below_alloc | apply pw_below_drewN | apply below_drew1) | exact HB.out))) : w.heap.size ≤ gb199)); have n3_ := Aside0.mk ((by rw [hg]; exact (below_size (by repeat (first | (with_reducible first | exact HB.out | apply below_alloc | apply pw_below_drewN | apply below_drew1) | exact HB.out))) : w.heap.size ≤ gb199)); clear HB; have HB := n0_; have BK199 := n1_; have GW199 := n2_; have GE199 := n3_; clear n0_ n1_ n2_ n3_; clear hb hbox hg))
  (try simp only [Act.put, List.setIfInBounds_toArray, List.set_cons_zero, List.set_cons_succ])
  go_cut [24] (fun v24 wc => ∃ (kq : Nat) (x24_3 : Bool), v24 = .bool x24_3 ∧ Aside0 (munimentlaw05_StampSpans.j0 kq a0 l1 x24_3 a2_0 l2_1 a2_2 = some r) ∧ Aside0 (kq ≤ k) ∧ Aside0 (wc.heap[gb199]? = some (.cells #[.int .i64 a2_0, (.slice A2_1 l2_1.length c2_1), .int .u64 a2_2] 25 (0, 0))) ∧ Aside0 (Below w.heap.size w wc))
  case first =>
    have H := HC4.out
    clear HC4
    replace H := Option.bind_eq_some_iff.mp H
    obtain ⟨t200, A60, H⟩ := H
    replace H : (if t200 = true then (if (l1.length : Int) > 1000 then (munimentlaw05_StampSpans.j0 k a0 l1 true a2_0 l2_1 a2_2) else (munimentlaw05_StampSpans.j0 k a0 l1 (decide ((l2_1.length : Int) > 1000)) a2_0 l2_1 a2_2)) else (munimentlaw05_StampSpans.j0 k a0 l1 true a2_0 l2_1 a2_2)) = some r := H
    have A6 := Aside0.mk A60
    clear A60
    by_cases c7 : t200 = true
    · subst c7
      have H1 : (if (l1.length : Int) > 1000 then (munimentlaw05_StampSpans.j0 k a0 l1 true a2_0 l2_1 a2_2) else (munimentlaw05_StampSpans.j0 k a0 l1 (decide ((l2_1.length : Int) > 1000)) a2_0 l2_1 a2_2)) = some r := by rw [if_pos rfl] at H; exact H
      clear H
      have H := H1
      clear H1
      by_cases c8 : (l1.length : Int) > 1000
      · rw [if_pos c8] at H
        have c8b0 : decide (1000 < (l1.length : Int)) = true := decide_eq_true c8
        have c8b1 : decide (1000 < l1.length) = true := decide_eq_true (by omega)
        clear c8
        (first | rw [c8b0] | (simp only [i64_w, i32_w]; rw [c8b0]) | skip)
        have H' := Aside0.mk H
        clear H
        go_wp2_with (first | ((with_reducible refine gate_callee (f := 8) rfl ?_); refine goesL_ (some 12) rfl rfl Try.func8 (by kernel_rfl) rfl #[] rfl (by (try simp only [List.map_toArray, List.map_cons, List.map_nil]); first | done | rfl | (simp only [List.length_drop, List.length_take]; rfl)) ?_; (with_reducible refine (munimentlaw05_awake.calls k  true _ A6.out).mono ?_); rintro e w9 ⟨rfl, hb⟩; refine ⟨_, rfl, ?_⟩; have n0_ := Aside0.mk (blk_below (g := gb199) (o := .cells #[.int .i64 a2_0, .slice A2_1 l2_1.length c2_1, .int .u64 a2_2] 25 (0, 0)) (by (with_reducible repeat (first | refine blk_drewN ?_ _ | refine blk_drew ?_ | refine blk_alloc ?_ _)); exact BK199.out) hb); have n1_ := Aside0.mk (below_step (by repeat (first | (with_reducible first | exact HB.out | apply below_alloc | apply pw_below_drewN | apply below_drew1 | refine below_set ?_ GE199.out) | exact HB.out)) hb); clear BK199; clear HB; have BK199 := n0_; have HB := n1_; clear n0_ n1_; (try clear hb); (try clear hb2); (try clear hk); (try clear hi)))
        go_meet
        case rel => exact ⟨_, (true), (by first | rfl | (simp; done) | (simp [*]; done)), H', ⟨by first | omega | exact Nat.le_refl _⟩, ⟨by (with_reducible repeat (first | refine blk_drewN ?_ _ | refine blk_drew ?_ | refine blk_alloc ?_ _)); exact BK199.out⟩, ⟨by repeat (first | (with_reducible first | exact HB.out | apply below_alloc | apply pw_below_drewN | apply below_drew1 | refine below_set ?_ GE199.out) | exact HB.out)⟩⟩
      · rw [if_neg c8] at H
        have c8b0 : decide (1000 < (l1.length : Int)) = false := decide_eq_false c8
        have c8b1 : decide (1000 < l1.length) = false := decide_eq_false (by omega)
        clear c8
        (first | rw [c8b0] | (simp only [i64_w, i32_w]; rw [c8b0]) | skip)
        have H' := Aside0.mk H
        clear H
        go_wp2_with (first | ((with_reducible refine gate_callee (f := 8) rfl ?_); refine goesL_ (some 12) rfl rfl Try.func8 (by kernel_rfl) rfl #[] rfl (by (try simp only [List.map_toArray, List.map_cons, List.map_nil]); first | done | rfl | (simp only [List.length_drop, List.length_take]; rfl)) ?_; (with_reducible refine (munimentlaw05_awake.calls k  true _ A6.out).mono ?_); rintro e w10 ⟨rfl, hb⟩; refine ⟨_, rfl, ?_⟩; have n0_ := Aside0.mk (blk_below (g := gb199) (o := .cells #[.int .i64 a2_0, .slice A2_1 l2_1.length c2_1, .int .u64 a2_2] 25 (0, 0)) (by (with_reducible repeat (first | refine blk_drewN ?_ _ | refine blk_drew ?_ | refine blk_alloc ?_ _)); exact BK199.out) hb); have n1_ := Aside0.mk (below_step (by repeat (first | (with_reducible first | exact HB.out | apply below_alloc | apply pw_below_drewN | apply below_drew1 | refine below_set ?_ GE199.out) | exact HB.out)) hb); clear BK199; clear HB; have BK199 := n0_; have HB := n1_; clear n0_ n1_; (try clear hb); (try clear hb2); (try clear hk); (try clear hi); have hcz11_0 : w10.cell? ⟨gb199, 0, none⟩ = some (.int .i64 a2_0) := (blk_cell BK199.out 0).trans rfl; have hcz11_1 : w10.cell? ⟨gb199, 1, none⟩ = some (.slice A2_1 l2_1.length c2_1) := (blk_cell BK199.out 1).trans rfl; have hcz11_2 : w10.cell? ⟨gb199, 2, none⟩ = some (.int .u64 a2_2) := (blk_cell BK199.out 2).trans rfl; have hfz11_0 := blk_frozen BK199.out 0; have hfz11_1 := blk_frozen BK199.out 1; have hfz11_2 := blk_frozen BK199.out 2))
        go_meet
        case rel => exact ⟨_, (decide ((l2_1.length : Int) > 1000)), (by first | rfl | (simp; done) | (simp [*]; done)), H', ⟨by first | omega | exact Nat.le_refl _⟩, ⟨by (with_reducible repeat (first | refine blk_drewN ?_ _ | refine blk_drew ?_ | refine blk_alloc ?_ _)); exact BK199.out⟩, ⟨by repeat (first | (with_reducible first | exact HB.out | apply below_alloc | apply pw_below_drewN | apply below_drew1 | refine below_set ?_ GE199.out) | exact HB.out)⟩⟩
    · replace c7 := Bool.eq_false_iff.mpr c7
      subst c7
      have H1 : (munimentlaw05_StampSpans.j0 k a0 l1 true a2_0 l2_1 a2_2) = some r := by rw [if_neg (show ¬ (false = true) by decide)] at H; exact H
      clear H
      have H := H1
      clear H1
      have H' := Aside0.mk H
      clear H
      go_wp2_with (first | ((with_reducible refine gate_callee (f := 8) rfl ?_); refine goesL_ (some 12) rfl rfl Try.func8 (by kernel_rfl) rfl #[] rfl (by (try simp only [List.map_toArray, List.map_cons, List.map_nil]); first | done | rfl | (simp only [List.length_drop, List.length_take]; rfl)) ?_; (with_reducible refine (munimentlaw05_awake.calls k  false _ A6.out).mono ?_); rintro e w12 ⟨rfl, hb⟩; refine ⟨_, rfl, ?_⟩; have n0_ := Aside0.mk (blk_below (g := gb199) (o := .cells #[.int .i64 a2_0, .slice A2_1 l2_1.length c2_1, .int .u64 a2_2] 25 (0, 0)) (by (with_reducible repeat (first | refine blk_drewN ?_ _ | refine blk_drew ?_ | refine blk_alloc ?_ _)); exact BK199.out) hb); have n1_ := Aside0.mk (below_step (by repeat (first | (with_reducible first | exact HB.out | apply below_alloc | apply pw_below_drewN | apply below_drew1 | refine below_set ?_ GE199.out) | exact HB.out)) hb); clear BK199; clear HB; have BK199 := n0_; have HB := n1_; clear n0_ n1_; (try clear hb); (try clear hb2); (try clear hk); (try clear hi)))
      go_meet
      case rel => exact ⟨_, (true), (by first | rfl | (simp; done) | (simp [*]; done)), H', ⟨by first | omega | exact Nat.le_refl _⟩, ⟨by (with_reducible repeat (first | refine blk_drewN ?_ _ | refine blk_drew ?_ | refine blk_alloc ?_ _)); exact BK199.out⟩, ⟨by repeat (first | (with_reducible first | exact HB.out | apply below_alloc | apply pw_below_drewN | apply below_drew1 | refine below_set ?_ GE199.out) | exact HB.out)⟩⟩
  case rest =>
    clear HC4
    try clear c1
    try clear c2
    try clear p2
    try clear c4
    try clear c7
    try clear c8
    try clear c8b0
    try clear c8b1
    try clear hcz11_0
    try clear hcz11_1
    try clear hcz11_2
    try clear hfz11_0
    try clear hfz11_1
    try clear hfz11_2
    obtain ⟨kq, x24_3, rfl, HA, HJ3, BK199, HB⟩ := hcut
    cases kq with
    | zero => exact absurd HA.out (by simp [munimentlaw05_StampSpans.j0])
    | succ kj3 =>
      have H := HA.out
      clear HA
      simp only [munimentlaw05_StampSpans.j0] at H
      by_cases c13 : x24_3 = true
      · subst c13
        have H1 : ((munimentlaw05_awake.f kj3).bind fun t201 => (some t201)) = some r := by rw [if_pos rfl] at H; exact H
        clear H
        have H := H1
        clear H1
        replace H := Option.bind_eq_some_iff.mp H
        obtain ⟨t201, A140, H⟩ := H
        replace H : (some t201) = some r := H
        have A14 := Aside0.mk A140
        clear A140
        obtain rfl := Option.some.inj H
        go_wp2_with (first | ((with_reducible refine gate_callee (f := 8) rfl ?_); refine goesL_ (some 25) rfl rfl Try.func8 (by kernel_rfl) rfl #[] rfl (by (try simp only [List.map_toArray, List.map_cons, List.map_nil]); first | done | rfl | (simp only [List.length_drop, List.length_take]; rfl)) ?_; (with_reducible refine (munimentlaw05_awake.calls kj3  t201 _ A14.out).mono ?_); rintro e w15 ⟨rfl, hb⟩; refine ⟨_, rfl, ?_⟩; have n0_ := Aside0.mk (blk_below (g := gb199) (o := .cells #[.int .i64 a2_0, .slice A2_1 l2_1.length c2_1, .int .u64 a2_2] 25 (0, 0)) (by (with_reducible repeat (first | refine blk_drewN ?_ _ | refine blk_drew ?_ | refine blk_alloc ?_ _)); exact BK199.out) hb); have n1_ := Aside0.mk (below_step (by repeat (first | (with_reducible first | exact HB.out | apply below_alloc | apply pw_below_drewN | apply below_drew1 | refine below_set ?_ GE199.out) | exact HB.out)) hb); clear BK199; clear HB; have BK199 := n0_; have HB := n1_; clear n0_ n1_; (try clear hb); (try clear hb2); (try clear hk); (try clear hi)))
        go_ret
        exact ⟨by first | rfl | (simp [errW_none, errW_some] <;> rfl) | (simp [*, errW_none, errW_some] <;> rfl), by repeat (first | (with_reducible first | exact HB.out | apply below_alloc | apply pw_below_drewN | apply below_drew1 | refine below_set ?_ GE199.out) | exact HB.out)⟩
      · replace c13 := Bool.eq_false_iff.mpr c13
        subst c13
        have H1 : ((stamp_First.f kj3 a0 l1).bind fun t202 => ((stamp_Behind.f kj3 a0 l1).bind fun t205 => ((munimentref05_First.f kj3 a0 l1).bind fun t208 => ((munimentref04_Same.f kj3 t202 t208).bind fun t211 => (if t211 = true then ((munimentref05_Behind.f kj3 a0 l1).bind fun t212 => ((munimentref04_Same.f kj3 t205 t212).bind fun t215 => (munimentlaw05_StampSpans.j1 kj3 a0 l1 t202 t205 (!t215) a2_0 l2_1 a2_2))) else (munimentlaw05_StampSpans.j1 kj3 a0 l1 t202 t205 true a2_0 l2_1 a2_2)))))) = some r := by rw [if_neg (show ¬ (false = true) by decide)] at H; exact H
        clear H
        have H := H1
        clear H1
        replace H := Option.bind_eq_some_iff.mp H
        obtain ⟨t202, A160, H⟩ := H
        replace H : ((stamp_Behind.f kj3 a0 l1).bind fun t205 => ((munimentref05_First.f kj3 a0 l1).bind fun t208 => ((munimentref04_Same.f kj3 t202 t208).bind fun t211 => (if t211 = true then ((munimentref05_Behind.f kj3 a0 l1).bind fun t212 => ((munimentref04_Same.f kj3 t205 t212).bind fun t215 => (munimentlaw05_StampSpans.j1 kj3 a0 l1 t202 t205 (!t215) a2_0 l2_1 a2_2))) else (munimentlaw05_StampSpans.j1 kj3 a0 l1 t202 t205 true a2_0 l2_1 a2_2))))) = some r := H
        have A16 := Aside0.mk A160
        clear A160
        replace H := Option.bind_eq_some_iff.mp H
        obtain ⟨t205, A170, H⟩ := H
        replace H : ((munimentref05_First.f kj3 a0 l1).bind fun t208 => ((munimentref04_Same.f kj3 t202 t208).bind fun t211 => (if t211 = true then ((munimentref05_Behind.f kj3 a0 l1).bind fun t212 => ((munimentref04_Same.f kj3 t205 t212).bind fun t215 => (munimentlaw05_StampSpans.j1 kj3 a0 l1 t202 t205 (!t215) a2_0 l2_1 a2_2))) else (munimentlaw05_StampSpans.j1 kj3 a0 l1 t202 t205 true a2_0 l2_1 a2_2)))) = some r := H
        have A17 := Aside0.mk A170
        clear A170
        have HC18 := Aside0.mk H
        clear H
        go_upto_region 4 with (first | ((with_reducible refine gate_callee (f := 12) rfl ?_); refine goesL_ (some 28) rfl rfl Try.func12 (by kernel_rfl) rfl #[.int .i64 a0, .slice A1 l1.length c1] rfl (by (try simp only [List.map_toArray, List.map_cons, List.map_nil]); first | done | rfl | (simp only [List.length_drop, List.length_take]; rfl)) ?_; (with_reducible refine (stamp_First.calls kj3 a0 _ _ l1 t202 _ ?side1 ?side2 A16.out).mono ?_); (case side1 => repeat (first | exact (Kd.C_below HR1.out HB.out) | (with_reducible refine Kd.C_alloc ?_ _) | (with_reducible refine Kd.C_drewN ?_ _) | (with_reducible refine Kd.C_drew ?_))); (case side2 => exact HC1.out); rintro e w19 ⟨v203, rfl, ho0, hb⟩; refine ⟨_, rfl, ?_⟩; have n0_ := Aside0.mk (Kd.R_lower ho0 (below_size (by repeat (first | (with_reducible first | exact HB.out | apply below_alloc | apply pw_below_drewN | apply below_drew1 | refine below_set ?_ GE199.out) | exact HB.out)))); have n1_ := Aside0.mk (blk_below (g := gb199) (o := .cells #[.int .i64 a2_0, .slice A2_1 l2_1.length c2_1, .int .u64 a2_2] 25 (0, 0)) (by (with_reducible repeat (first | refine blk_drewN ?_ _ | refine blk_drew ?_ | refine blk_alloc ?_ _)); exact BK199.out) hb); have n2_ := Aside0.mk (below_step (by repeat (first | (with_reducible first | exact HB.out | apply below_alloc | apply pw_below_drewN | apply below_drew1 | refine below_set ?_ GE199.out) | exact HB.out)) hb); clear BK199; clear HB; have HO204 := n0_; have BK199 := n1_; have HB := n2_; clear n0_ n1_ n2_; (try clear hb); (try clear hb2); (try clear hk); (try clear hi); (try clear ho0)) | ((with_reducible refine gate_callee (f := 13) rfl ?_); refine goesL_ (some 31) rfl rfl Try.func13 (by kernel_rfl) rfl #[.int .i64 a0, .slice A1 l1.length c1] rfl (by (try simp only [List.map_toArray, List.map_cons, List.map_nil]); first | done | rfl | (simp only [List.length_drop, List.length_take]; rfl)) ?_; (with_reducible refine (stamp_Behind.calls kj3 a0 _ _ l1 t205 _ ?side1 ?side2 A17.out).mono ?_); (case side1 => repeat (first | exact (Kd.C_below HR1.out HB.out) | (with_reducible refine Kd.C_alloc ?_ _) | (with_reducible refine Kd.C_drewN ?_ _) | (with_reducible refine Kd.C_drew ?_))); (case side2 => exact HC1.out); rintro e w20 ⟨v206, rfl, ho0, hb⟩; refine ⟨_, rfl, ?_⟩; have n0_ := Aside0.mk (Kd.R_elder' (by (with_reducible repeat (first | apply Kd.R_alloc | apply Kd.R_drewN | apply Kd.R_drew)); exact HO204.out) (Kd.R_base ho0) hb); have n1_ := Aside0.mk (Kd.R_lower (Kd.R_new' ho0 (Kd.R_lt (by (with_reducible repeat (first | apply Kd.R_alloc | apply Kd.R_drewN | apply Kd.R_drew)); exact HO204.out))) (below_size (by repeat (first | (with_reducible first | exact HB.out | apply below_alloc | apply pw_below_drewN | apply below_drew1 | refine below_set ?_ GE199.out) | exact HB.out)))); have n2_ := Aside0.mk (blk_below (g := gb199) (o := .cells #[.int .i64 a2_0, .slice A2_1 l2_1.length c2_1, .int .u64 a2_2] 25 (0, 0)) (by (with_reducible repeat (first | refine blk_drewN ?_ _ | refine blk_drew ?_ | refine blk_alloc ?_ _)); exact BK199.out) hb); have n3_ := Aside0.mk (below_step (by repeat (first | (with_reducible first | exact HB.out | apply below_alloc | apply pw_below_drewN | apply below_drew1 | refine below_set ?_ GE199.out) | exact HB.out)) hb); clear HO204; clear BK199; clear HB; have HO204 := n0_; have HO207 := n1_; have BK199 := n2_; have HB := n3_; clear n0_ n1_ n2_ n3_; (try clear hb); (try clear hb2); (try clear hk); (try clear hi); (try clear ho0)))
        (try simp only [Act.put, List.setIfInBounds_toArray, List.set_cons_zero, List.set_cons_succ])
        go_cut [45] (fun v45 wc => ∃ (kq : Nat) (x45_17 : Bool), v45 = .bool x45_17 ∧ Aside0 (munimentlaw05_StampSpans.j1 kq a0 l1 t202 t205 x45_17 a2_0 l2_1 a2_2 = some r) ∧ Aside0 (kq ≤ kj3) ∧ Aside0 (Kd.R (Kd.int .u8) 5 wc w.heap.size (fun k_ => some k_ ≠ (v206 : Value).ownBlock) v203 t202) ∧ Aside0 (Kd.R (Kd.int .u8) 5 wc w.heap.size (fun k_ => some k_ ≠ (v203 : Value).ownBlock) v206 t205) ∧ Aside0 (wc.heap[gb199]? = some (.cells #[.int .i64 a2_0, (.slice A2_1 l2_1.length c2_1), .int .u64 a2_2] 25 (0, 0))) ∧ Aside0 (Below w.heap.size w wc))
        case first =>
          have H := HC18.out
          clear HC18
          replace H := Option.bind_eq_some_iff.mp H
          obtain ⟨t208, A210, H⟩ := H
          replace H : ((munimentref04_Same.f kj3 t202 t208).bind fun t211 => (if t211 = true then ((munimentref05_Behind.f kj3 a0 l1).bind fun t212 => ((munimentref04_Same.f kj3 t205 t212).bind fun t215 => (munimentlaw05_StampSpans.j1 kj3 a0 l1 t202 t205 (!t215) a2_0 l2_1 a2_2))) else (munimentlaw05_StampSpans.j1 kj3 a0 l1 t202 t205 true a2_0 l2_1 a2_2))) = some r := H
          have A21 := Aside0.mk A210
          clear A210
          replace H := Option.bind_eq_some_iff.mp H
          obtain ⟨t211, A220, H⟩ := H
          replace H : (if t211 = true then ((munimentref05_Behind.f kj3 a0 l1).bind fun t212 => ((munimentref04_Same.f kj3 t205 t212).bind fun t215 => (munimentlaw05_StampSpans.j1 kj3 a0 l1 t202 t205 (!t215) a2_0 l2_1 a2_2))) else (munimentlaw05_StampSpans.j1 kj3 a0 l1 t202 t205 true a2_0 l2_1 a2_2)) = some r := H
          have A22 := Aside0.mk A220
          clear A220
          by_cases c23 : t211 = true
          · subst c23
            have H1 : ((munimentref05_Behind.f kj3 a0 l1).bind fun t212 => ((munimentref04_Same.f kj3 t205 t212).bind fun t215 => (munimentlaw05_StampSpans.j1 kj3 a0 l1 t202 t205 (!t215) a2_0 l2_1 a2_2))) = some r := by rw [if_pos rfl] at H; exact H
            clear H
            have H := H1
            clear H1
            replace H := Option.bind_eq_some_iff.mp H
            obtain ⟨t212, A240, H⟩ := H
            replace H : ((munimentref04_Same.f kj3 t205 t212).bind fun t215 => (munimentlaw05_StampSpans.j1 kj3 a0 l1 t202 t205 (!t215) a2_0 l2_1 a2_2)) = some r := H
            have A24 := Aside0.mk A240
            clear A240
            replace H := Option.bind_eq_some_iff.mp H
            obtain ⟨t215, A250, H⟩ := H
            replace H : (munimentlaw05_StampSpans.j1 kj3 a0 l1 t202 t205 (!t215) a2_0 l2_1 a2_2) = some r := H
            have A25 := Aside0.mk A250
            clear A250
            have H' := Aside0.mk H
            clear H
            go_wp2_with (first | ((with_reducible refine gate_callee (f := 14) rfl ?_); refine goesL_ (some 35) rfl rfl Try.func14 (by kernel_rfl) rfl #[.int .i64 a0, .slice A1 l1.length c1] rfl (by (try simp only [List.map_toArray, List.map_cons, List.map_nil]); first | done | rfl | (simp only [List.length_drop, List.length_take]; rfl)) ?_; (with_reducible refine (munimentref05_First.calls kj3 a0 _ _ l1 t208 _ ?side1 ?side2 A21.out).mono ?_); (case side1 => repeat (first | exact (Kd.C_below HR1.out HB.out) | (with_reducible refine Kd.C_alloc ?_ _) | (with_reducible refine Kd.C_drewN ?_ _) | (with_reducible refine Kd.C_drew ?_))); (case side2 => exact HC1.out); rintro e w26 ⟨v209, rfl, ho0, hb⟩; refine ⟨_, rfl, ?_⟩; have n0_ := Aside0.mk (Kd.R_elder' (by (with_reducible repeat (first | apply Kd.R_alloc | apply Kd.R_drewN | apply Kd.R_drew)); exact HO204.out) (Kd.R_base ho0) hb); have n1_ := Aside0.mk (Kd.R_elder' (by (with_reducible repeat (first | apply Kd.R_alloc | apply Kd.R_drewN | apply Kd.R_drew)); exact HO207.out) (Kd.R_base ho0) hb); have n2_ := Aside0.mk (Kd.R_lower (Kd.R_new' (Kd.R_new' ho0 (Kd.R_lt (by (with_reducible repeat (first | apply Kd.R_alloc | apply Kd.R_drewN | apply Kd.R_drew)); exact HO204.out))) (Kd.R_lt (by (with_reducible repeat (first | apply Kd.R_alloc | apply Kd.R_drewN | apply Kd.R_drew)); exact HO207.out))) (below_size (by repeat (first | (with_reducible first | exact HB.out | apply below_alloc | apply pw_below_drewN | apply below_drew1 | refine below_set ?_ GE199.out) | exact HB.out)))); have n3_ := Aside0.mk (blk_below (g := gb199) (o := .cells #[.int .i64 a2_0, .slice A2_1 l2_1.length c2_1, .int .u64 a2_2] 25 (0, 0)) (by (with_reducible repeat (first | refine blk_drewN ?_ _ | refine blk_drew ?_ | refine blk_alloc ?_ _)); exact BK199.out) hb); have n4_ := Aside0.mk (below_step (by repeat (first | (with_reducible first | exact HB.out | apply below_alloc | apply pw_below_drewN | apply below_drew1 | refine below_set ?_ GE199.out) | exact HB.out)) hb); clear HO204; clear HO207; clear BK199; clear HB; have HO204 := n0_; have HO207 := n1_; have HO210 := n2_; have BK199 := n3_; have HB := n4_; clear n0_ n1_ n2_ n3_ n4_; (try clear hb); (try clear hb2); (try clear hk); (try clear hi); (try clear ho0); obtain ⟨Ao27, co27, eo27⟩ := Kd.R_slice HO204.out; subst eo27; obtain ⟨Ao28, co28, eo28⟩ := Kd.R_slice HO210.out; subst eo28) | ((with_reducible refine gate_callee (f := 11) rfl ?_); refine goesL_ (some 36) rfl rfl Try.func11 (by kernel_rfl) rfl #[.slice Ao27 t202.length co27, .slice Ao28 t208.length co28] rfl (by (try simp only [List.map_toArray, List.map_cons, List.map_nil]); first | done | rfl | (simp only [List.length_drop, List.length_take]; rfl)) ?_; (with_reducible refine (munimentref04_Same.calls kj3 _ _ t202 _ _ t208 true _ ?side1 ?side2 ?side3 ?side4 A22.out).mono ?_); (case side1 => repeat (first | exact (Kd.R_reads' HO204.out).2.2 | (with_reducible refine Kd.C_alloc ?_ _) | (with_reducible refine Kd.C_drewN ?_ _) | (with_reducible refine Kd.C_drew ?_))); (case side2 => exact (Kd.R_reads' HO204.out).2.1); (case side3 => repeat (first | exact (Kd.R_reads' HO210.out).2.2 | (with_reducible refine Kd.C_alloc ?_ _) | (with_reducible refine Kd.C_drewN ?_ _) | (with_reducible refine Kd.C_drew ?_))); (case side4 => exact (Kd.R_reads' HO210.out).2.1); rintro e w' ⟨rfl, ⟨nd, rfl⟩⟩; refine ⟨_, rfl, ?_⟩) | (go_at_call 15; (with_reducible refine (munimentref05_Behind.calls kj3 a0 _ _ l1 t212 _ ?side1 ?side2 A24.out).mono ?_); (case side1 => repeat (first | exact (Kd.C_below HR1.out (by repeat (first | (with_reducible first | exact HB.out | apply below_alloc | apply pw_below_drewN | apply below_drew1 | refine below_set ?_ GE199.out) | exact HB.out))) | (with_reducible refine Kd.C_alloc ?_ _) | (with_reducible refine Kd.C_drewN ?_ _) | (with_reducible refine Kd.C_drew ?_))); (case side2 => exact HC1.out); rintro e w29 ⟨v213, rfl, ho0, hb⟩; have n0_ := Aside0.mk (Kd.R_elder' (by (with_reducible repeat (first | apply Kd.R_alloc | apply Kd.R_drewN | apply Kd.R_drew)); exact HO204.out) (Kd.R_base ho0) hb); have n1_ := Aside0.mk (Kd.R_elder' (by (with_reducible repeat (first | apply Kd.R_alloc | apply Kd.R_drewN | apply Kd.R_drew)); exact HO207.out) (Kd.R_base ho0) hb); have n2_ := Aside0.mk (Kd.R_elder' (by (with_reducible repeat (first | apply Kd.R_alloc | apply Kd.R_drewN | apply Kd.R_drew)); exact HO210.out) (Kd.R_base ho0) hb); have n3_ := Aside0.mk (Kd.R_lower (Kd.R_new' (Kd.R_new' (Kd.R_new' ho0 (Kd.R_lt (by (with_reducible repeat (first | apply Kd.R_alloc | apply Kd.R_drewN | apply Kd.R_drew)); exact HO204.out))) (Kd.R_lt (by (with_reducible repeat (first | apply Kd.R_alloc | apply Kd.R_drewN | apply Kd.R_drew)); exact HO207.out))) (Kd.R_lt (by (with_reducible repeat (first | apply Kd.R_alloc | apply Kd.R_drewN | apply Kd.R_drew)); exact HO210.out))) (below_size (by repeat (first | (with_reducible first | exact HB.out | apply below_alloc | apply pw_below_drewN | apply below_drew1 | refine below_set ?_ GE199.out) | exact HB.out)))); have n4_ := Aside0.mk (blk_below (g := gb199) (o := .cells #[.int .i64 a2_0, .slice A2_1 l2_1.length c2_1, .int .u64 a2_2] 25 (0, 0)) (by (with_reducible repeat (first | refine blk_drewN ?_ _ | refine blk_drew ?_ | refine blk_alloc ?_ _)); exact BK199.out) hb); have n5_ := Aside0.mk (below_step (by repeat (first | (with_reducible first | exact HB.out | apply below_alloc | apply pw_below_drewN | apply below_drew1 | refine below_set ?_ GE199.out) | exact HB.out)) hb); clear HO204; clear HO207; clear HO210; clear BK199; clear HB; have HO204 := n0_; have HO207 := n1_; have HO210 := n2_; have HO214 := n3_; have BK199 := n4_; have HB := n5_; clear n0_ n1_ n2_ n3_ n4_ n5_; (try clear hb); (try clear hb2); (try clear hk); (try clear hi); (try clear ho0); obtain ⟨Ao30, co30, eo30⟩ := Kd.R_slice HO207.out; subst eo30; obtain ⟨Ao31, co31, eo31⟩ := Kd.R_slice HO214.out; subst eo31) | (go_at_call 11; (with_reducible refine (munimentref04_Same.calls kj3 _ _ t205 _ _ t212 t215 _ ?side1 ?side2 ?side3 ?side4 A25.out).mono ?_); (case side1 => repeat (first | exact (Kd.R_reads' HO207.out).2.2 | (with_reducible refine Kd.C_alloc ?_ _) | (with_reducible refine Kd.C_drewN ?_ _) | (with_reducible refine Kd.C_drew ?_))); (case side2 => exact (Kd.R_reads' HO207.out).2.1); (case side3 => repeat (first | exact (Kd.R_reads' HO214.out).2.2 | (with_reducible refine Kd.C_alloc ?_ _) | (with_reducible refine Kd.C_drewN ?_ _) | (with_reducible refine Kd.C_drew ?_))); (case side4 => exact (Kd.R_reads' HO214.out).2.1); rintro e w' ⟨rfl, ⟨nd, rfl⟩⟩))
            go_meet
            case rel => exact ⟨_, (!t215), (by first | rfl | (simp; done) | (simp [*]; done)), H', ⟨by have := HJ3.out; first | omega | exact Nat.le_refl _⟩, ⟨by (with_reducible repeat (first | apply Kd.R_alloc | apply Kd.R_drewN | apply Kd.R_drew)); exact Kd.R_mono HO204.out (fun _ hk => hk.1.1.2)⟩, ⟨by (with_reducible repeat (first | apply Kd.R_alloc | apply Kd.R_drewN | apply Kd.R_drew)); exact Kd.R_mono HO207.out (fun _ hk => hk.1.1.2)⟩, ⟨by (with_reducible repeat (first | refine blk_drewN ?_ _ | refine blk_drew ?_ | refine blk_alloc ?_ _)); exact BK199.out⟩, ⟨by repeat (first | (with_reducible first | exact HB.out | apply below_alloc | apply pw_below_drewN | apply below_drew1 | refine below_set ?_ GE199.out) | exact HB.out)⟩⟩
          · replace c23 := Bool.eq_false_iff.mpr c23
            subst c23
            have H1 : (munimentlaw05_StampSpans.j1 kj3 a0 l1 t202 t205 true a2_0 l2_1 a2_2) = some r := by rw [if_neg (show ¬ (false = true) by decide)] at H; exact H
            clear H
            have H := H1
            clear H1
            have H' := Aside0.mk H
            clear H
            go_wp2_with (first | ((with_reducible refine gate_callee (f := 14) rfl ?_); refine goesL_ (some 35) rfl rfl Try.func14 (by kernel_rfl) rfl #[.int .i64 a0, .slice A1 l1.length c1] rfl (by (try simp only [List.map_toArray, List.map_cons, List.map_nil]); first | done | rfl | (simp only [List.length_drop, List.length_take]; rfl)) ?_; (with_reducible refine (munimentref05_First.calls kj3 a0 _ _ l1 t208 _ ?side1 ?side2 A21.out).mono ?_); (case side1 => repeat (first | exact (Kd.C_below HR1.out HB.out) | (with_reducible refine Kd.C_alloc ?_ _) | (with_reducible refine Kd.C_drewN ?_ _) | (with_reducible refine Kd.C_drew ?_))); (case side2 => exact HC1.out); rintro e w32 ⟨v209, rfl, ho0, hb⟩; refine ⟨_, rfl, ?_⟩; have n0_ := Aside0.mk (Kd.R_elder' (by (with_reducible repeat (first | apply Kd.R_alloc | apply Kd.R_drewN | apply Kd.R_drew)); exact HO204.out) (Kd.R_base ho0) hb); have n1_ := Aside0.mk (Kd.R_elder' (by (with_reducible repeat (first | apply Kd.R_alloc | apply Kd.R_drewN | apply Kd.R_drew)); exact HO207.out) (Kd.R_base ho0) hb); have n2_ := Aside0.mk (Kd.R_lower (Kd.R_new' (Kd.R_new' ho0 (Kd.R_lt (by (with_reducible repeat (first | apply Kd.R_alloc | apply Kd.R_drewN | apply Kd.R_drew)); exact HO204.out))) (Kd.R_lt (by (with_reducible repeat (first | apply Kd.R_alloc | apply Kd.R_drewN | apply Kd.R_drew)); exact HO207.out))) (below_size (by repeat (first | (with_reducible first | exact HB.out | apply below_alloc | apply pw_below_drewN | apply below_drew1 | refine below_set ?_ GE199.out) | exact HB.out)))); have n3_ := Aside0.mk (blk_below (g := gb199) (o := .cells #[.int .i64 a2_0, .slice A2_1 l2_1.length c2_1, .int .u64 a2_2] 25 (0, 0)) (by (with_reducible repeat (first | refine blk_drewN ?_ _ | refine blk_drew ?_ | refine blk_alloc ?_ _)); exact BK199.out) hb); have n4_ := Aside0.mk (below_step (by repeat (first | (with_reducible first | exact HB.out | apply below_alloc | apply pw_below_drewN | apply below_drew1 | refine below_set ?_ GE199.out) | exact HB.out)) hb); clear HO204; clear HO207; clear BK199; clear HB; have HO204 := n0_; have HO207 := n1_; have HO210 := n2_; have BK199 := n3_; have HB := n4_; clear n0_ n1_ n2_ n3_ n4_; (try clear hb); (try clear hb2); (try clear hk); (try clear hi); (try clear ho0); obtain ⟨Ao33, co33, eo33⟩ := Kd.R_slice HO204.out; subst eo33; obtain ⟨Ao34, co34, eo34⟩ := Kd.R_slice HO210.out; subst eo34) | ((with_reducible refine gate_callee (f := 11) rfl ?_); refine goesL_ (some 36) rfl rfl Try.func11 (by kernel_rfl) rfl #[.slice Ao33 t202.length co33, .slice Ao34 t208.length co34] rfl (by (try simp only [List.map_toArray, List.map_cons, List.map_nil]); first | done | rfl | (simp only [List.length_drop, List.length_take]; rfl)) ?_; (with_reducible refine (munimentref04_Same.calls kj3 _ _ t202 _ _ t208 false _ ?side1 ?side2 ?side3 ?side4 A22.out).mono ?_); (case side1 => repeat (first | exact (Kd.R_reads' HO204.out).2.2 | (with_reducible refine Kd.C_alloc ?_ _) | (with_reducible refine Kd.C_drewN ?_ _) | (with_reducible refine Kd.C_drew ?_))); (case side2 => exact (Kd.R_reads' HO204.out).2.1); (case side3 => repeat (first | exact (Kd.R_reads' HO210.out).2.2 | (with_reducible refine Kd.C_alloc ?_ _) | (with_reducible refine Kd.C_drewN ?_ _) | (with_reducible refine Kd.C_drew ?_))); (case side4 => exact (Kd.R_reads' HO210.out).2.1); rintro e w' ⟨rfl, ⟨nd, rfl⟩⟩; refine ⟨_, rfl, ?_⟩))
            go_meet
            case rel => exact ⟨_, (true), (by first | rfl | (simp; done) | (simp [*]; done)), H', ⟨by have := HJ3.out; first | omega | exact Nat.le_refl _⟩, ⟨by (with_reducible repeat (first | apply Kd.R_alloc | apply Kd.R_drewN | apply Kd.R_drew)); exact Kd.R_mono HO204.out (fun _ hk => hk.1.2)⟩, ⟨by (with_reducible repeat (first | apply Kd.R_alloc | apply Kd.R_drewN | apply Kd.R_drew)); exact Kd.R_mono HO207.out (fun _ hk => hk.1.2)⟩, ⟨by (with_reducible repeat (first | refine blk_drewN ?_ _ | refine blk_drew ?_ | refine blk_alloc ?_ _)); exact BK199.out⟩, ⟨by repeat (first | (with_reducible first | exact HB.out | apply below_alloc | apply pw_below_drewN | apply below_drew1 | refine below_set ?_ GE199.out) | exact HB.out)⟩⟩
        case rest =>
          clear HC18
          try clear c1
          try clear c2
          try clear p2
          try clear c4
          try clear c7
          try clear c8
          try clear c8b0
          try clear c8b1
          try clear c11
          try clear c12
          try clear c13
          try clear c14
          try clear c23
          try clear hcz11_0
          try clear hcz11_1
          try clear hcz11_2
          try clear hfz11_0
          try clear hfz11_1
          try clear hfz11_2
          try clear p2
          obtain ⟨kq, x45_17, rfl, HA, HJ17, HO_7, HO_8, BK199, HB⟩ := hcut
          cases kq with
          | zero => exact absurd HA.out (by simp [munimentlaw05_StampSpans.j1])
          | succ kj17 =>
            have H := HA.out
            clear HA
            simp only [munimentlaw05_StampSpans.j1] at H
            by_cases c35 : x45_17 = true
            · subst c35
              have H1 : (some false) = some r := by rw [if_pos rfl] at H; exact H
              clear H
              have H := H1
              clear H1
              obtain rfl := Option.some.inj H
              go_wp2
              go_ret
              exact ⟨by first | rfl | (simp [errW_none, errW_some] <;> rfl) | (simp [*, errW_none, errW_some] <;> rfl), by repeat (first | (with_reducible first | exact HB.out | apply below_alloc | apply pw_below_drewN | apply below_drew1 | refine below_set ?_ GE199.out) | exact HB.out)⟩
            · replace c35 := Bool.eq_false_iff.mpr c35
              subst c35
              have H1 : ((stamp_Write.f kj17 a2_0 l2_1 a2_2).bind fun bt216 => (if bt216.2 = 0 then (munimentlaw05_StampSpans.j2 kj17 a0 l1 t202 t205 bt216.1 ((t202.length : Int) == 0) a2_0 l2_1 a2_2) else (munimentlaw05_StampSpans.j2 kj17 a0 l1 t202 t205 bt216.1 true a2_0 l2_1 a2_2))) = some r := by rw [if_neg (show ¬ (false = true) by decide)] at H; exact H
              clear H
              have H := H1
              clear H1
              replace H := Option.bind_eq_some_iff.mp H
              obtain ⟨⟨t216, t219⟩, A360, H⟩ := H
              replace H : (if t219 = 0 then (munimentlaw05_StampSpans.j2 kj17 a0 l1 t202 t205 t216 ((t202.length : Int) == 0) a2_0 l2_1 a2_2) else (munimentlaw05_StampSpans.j2 kj17 a0 l1 t202 t205 t216 true a2_0 l2_1 a2_2)) = some r := H
              have A36 := Aside0.mk A360
              clear A360
              have HC37 := Aside0.mk H
              clear H
              have hcz38_0 : wc.cell? ⟨gb199, 0, none⟩ = some (.int .i64 a2_0) := (blk_cell BK199.out 0).trans rfl
              have hcz38_1 : wc.cell? ⟨gb199, 1, none⟩ = some (.slice A2_1 l2_1.length c2_1) := (blk_cell BK199.out 1).trans rfl
              have hcz38_2 : wc.cell? ⟨gb199, 2, none⟩ = some (.int .u64 a2_2) := (blk_cell BK199.out 2).trans rfl
              have hfz38_0 := blk_frozen BK199.out 0
              have hfz38_1 := blk_frozen BK199.out 1
              have hfz38_2 := blk_frozen BK199.out 2
              go_upto_region 7 with (first | ((with_reducible refine gate_callee (f := 9) rfl ?_); refine goesL_ (some 48) rfl rfl Try.func9 (by kernel_rfl) rfl #[.agg #[.int .i64 a2_0, .slice A2_1 l2_1.length c2_1, .int .u64 a2_2]] rfl (by (try simp only [List.map_toArray, List.map_cons, List.map_nil]); first | done | rfl | (simp only [List.length_drop, List.length_take]; rfl)) ?_; (with_reducible refine (stamp_Write.calls kj17 a2_0 _ _ l2_1 a2_2 t216 t219 _ ?side1 ?side2 A36.out).mono ?_); (case side1 => repeat (first | exact (Kd.C_below HR2_1.out HB.out) | (with_reducible refine Kd.C_alloc ?_ _) | (with_reducible refine Kd.C_drewN ?_ _) | (with_reducible refine Kd.C_drew ?_))); (case side2 => exact HC2_1.out); rintro e w39 ⟨v217, rfl, ho0, hb⟩; refine ⟨_, rfl, ?_⟩; have n0_ := Aside0.mk (Kd.R_elder' (by (with_reducible repeat (first | apply Kd.R_alloc | apply Kd.R_drewN | apply Kd.R_drew)); exact HO_7.out) (Kd.R_base ho0) hb); have n1_ := Aside0.mk (Kd.R_elder' (by (with_reducible repeat (first | apply Kd.R_alloc | apply Kd.R_drewN | apply Kd.R_drew)); exact HO_8.out) (Kd.R_base ho0) hb); have n2_ := Aside0.mk (Kd.R_lower (Kd.R_new' (Kd.R_new' ho0 (Kd.R_lt (by (with_reducible repeat (first | apply Kd.R_alloc | apply Kd.R_drewN | apply Kd.R_drew)); exact HO_7.out))) (Kd.R_lt (by (with_reducible repeat (first | apply Kd.R_alloc | apply Kd.R_drewN | apply Kd.R_drew)); exact HO_8.out))) (below_size (by repeat (first | (with_reducible first | exact HB.out | apply below_alloc | apply pw_below_drewN | apply below_drew1 | refine below_set ?_ GE199.out) | exact HB.out)))); have n3_ := Aside0.mk (blk_below (g := gb199) (o := .cells #[.int .i64 a2_0, .slice A2_1 l2_1.length c2_1, .int .u64 a2_2] 25 (0, 0)) (by (with_reducible repeat (first | refine blk_drewN ?_ _ | refine blk_drew ?_ | refine blk_alloc ?_ _)); exact BK199.out) hb); have n4_ := Aside0.mk (below_step (by repeat (first | (with_reducible first | exact HB.out | apply below_alloc | apply pw_below_drewN | apply below_drew1 | refine below_set ?_ GE199.out) | exact HB.out)) hb); clear HO_7; clear HO_8; clear BK199; clear HB; have HO_7 := n0_; have HO_8 := n1_; have HO218 := n2_; have BK199 := n3_; have HB := n4_; clear n0_ n1_ n2_ n3_ n4_; (try clear hb); (try clear hb2); (try clear hk); (try clear hi); (try clear ho0)))
              (try simp only [Act.put, List.setIfInBounds_toArray, List.set_cons_zero, List.set_cons_succ])
              go_cut [57] (fun v57 wc => ∃ (kq : Nat) (x57_36 : Bool), v57 = .bool x57_36 ∧ Aside0 (munimentlaw05_StampSpans.j2 kq a0 l1 t202 t205 t216 x57_36 a2_0 l2_1 a2_2 = some r) ∧ Aside0 (kq ≤ kj17) ∧ Aside0 (Kd.R (Kd.int .u8) 5 wc w.heap.size (fun k_ => some k_ ≠ (v206 : Value).ownBlock ∧ some k_ ≠ (v217 : Value).ownBlock) v203 t202) ∧ Aside0 (Kd.R (Kd.int .u8) 5 wc w.heap.size (fun k_ => some k_ ≠ (v203 : Value).ownBlock ∧ some k_ ≠ (v217 : Value).ownBlock) v206 t205) ∧ Aside0 (Kd.R (Kd.int .u8) 5 wc w.heap.size (fun k_ => some k_ ≠ (v203 : Value).ownBlock ∧ some k_ ≠ (v206 : Value).ownBlock) v217 t216) ∧ Aside0 (wc.heap[gb199]? = some (.cells #[.int .i64 a2_0, (.slice A2_1 l2_1.length c2_1), .int .u64 a2_2] 25 (0, 0))) ∧ Aside0 (Below w.heap.size w wc))
              case first =>
                have H := HC37.out
                clear HC37
                by_cases c40 : t219 = 0
                · rw [if_pos c40] at H
                  have c40b0 : (t219 == 0) = true := beq_iff_eq.mpr c40
                  have c40b1 : (t219 != 0) = false := bne_eq_false_iff_eq.mpr c40
                  clear c40
                  (first | rw [c40b0] | (simp only [i64_w, i32_w]; rw [c40b0]) | skip)
                  have H' := Aside0.mk H
                  clear H
                  obtain ⟨Ao41, co41, eo41⟩ := Kd.R_slice HO_7.out
                  subst eo41
                  go_wp2
                  go_meet
                  case rel => exact ⟨_, (((t202.length : Int) == 0)), (by first | rfl | (simp; done) | (simp [*]; done)), H', ⟨by have := HJ3.out; have := HJ17.out; first | omega | exact Nat.le_refl _⟩, ⟨by (with_reducible repeat (first | apply Kd.R_alloc | apply Kd.R_drewN | apply Kd.R_drew)); exact HO_7.out⟩, ⟨by (with_reducible repeat (first | apply Kd.R_alloc | apply Kd.R_drewN | apply Kd.R_drew)); exact HO_8.out⟩, ⟨by (with_reducible repeat (first | apply Kd.R_alloc | apply Kd.R_drewN | apply Kd.R_drew)); exact Kd.R_mono HO218.out (fun _ hk => ⟨hk.1.2, hk.2⟩)⟩, ⟨by (with_reducible repeat (first | refine blk_drewN ?_ _ | refine blk_drew ?_ | refine blk_alloc ?_ _)); exact BK199.out⟩, ⟨by repeat (first | (with_reducible first | exact HB.out | apply below_alloc | apply pw_below_drewN | apply below_drew1 | refine below_set ?_ GE199.out) | exact HB.out)⟩⟩
                · rw [if_neg c40] at H
                  have c40b0 : (t219 == 0) = false := beq_eq_false_iff_ne.mpr c40
                  have c40b1 : (t219 != 0) = true := bne_iff_ne.mpr c40
                  (first | rw [c40b0] | (simp only [i64_w, i32_w]; rw [c40b0]) | skip)
                  have H' := Aside0.mk H
                  clear H
                  go_wp2
                  go_meet
                  case rel => exact ⟨_, (true), (by first | rfl | (simp; done) | (simp [*]; done)), H', ⟨by have := HJ3.out; have := HJ17.out; first | omega | exact Nat.le_refl _⟩, ⟨by (with_reducible repeat (first | apply Kd.R_alloc | apply Kd.R_drewN | apply Kd.R_drew)); exact HO_7.out⟩, ⟨by (with_reducible repeat (first | apply Kd.R_alloc | apply Kd.R_drewN | apply Kd.R_drew)); exact HO_8.out⟩, ⟨by (with_reducible repeat (first | apply Kd.R_alloc | apply Kd.R_drewN | apply Kd.R_drew)); exact Kd.R_mono HO218.out (fun _ hk => ⟨hk.1.2, hk.2⟩)⟩, ⟨by (with_reducible repeat (first | refine blk_drewN ?_ _ | refine blk_drew ?_ | refine blk_alloc ?_ _)); exact BK199.out⟩, ⟨by repeat (first | (with_reducible first | exact HB.out | apply below_alloc | apply pw_below_drewN | apply below_drew1 | refine below_set ?_ GE199.out) | exact HB.out)⟩⟩
              case rest =>
                clear HC37
                try clear c1
                try clear c2
                try clear p2
                try clear c3
                try clear c4
                try clear c7
                try clear c8
                try clear c8b0
                try clear c8b1
                try clear c9
                try clear c11
                try clear c12
                try clear c13
                try clear c14
                try clear c23
                try clear c35
                try clear c40
                try clear c40b0
                try clear c40b1
                try clear hcz11_0
                try clear hcz11_1
                try clear hcz11_2
                try clear hcz38_0
                try clear hcz38_1
                try clear hcz38_2
                try clear hfz11_0
                try clear hfz11_1
                try clear hfz11_2
                try clear hfz38_0
                try clear hfz38_1
                try clear hfz38_2
                try clear p2
                obtain ⟨kq, x57_36, rfl, HA, HJ36, HO_7, HO_8, HO_9, BK199, HB⟩ := hcut
                cases kq with
                | zero => exact absurd HA.out (by simp [munimentlaw05_StampSpans.j2])
                | succ kj36 =>
                  have H := HA.out
                  clear HA
                  simp only [munimentlaw05_StampSpans.j2] at H
                  by_cases c42 : x57_36 = true
                  · subst c42
                    have H1 : (some true) = some r := by rw [if_pos rfl] at H; exact H
                    clear H
                    have H := H1
                    clear H1
                    obtain rfl := Option.some.inj H
                    go_wp2
                    go_ret
                    exact ⟨by first | rfl | (simp [errW_none, errW_some] <;> rfl) | (simp [*, errW_none, errW_some] <;> rfl), by repeat (first | (with_reducible first | exact HB.out | apply below_alloc | apply pw_below_drewN | apply below_drew1 | refine below_set ?_ GE199.out) | exact HB.out)⟩
                  · replace c42 := Bool.eq_false_iff.mpr c42
                    subst c42
                    have H1 : ((munimentref04_Less.f kj36 t216 t202).bind fun t220 => (if t220 = true then (if a2_0 = a0 then ((munimentref04_Same.f kj36 l2_1 l1).bind fun t221 => (some (false == t221))) else (some (false == false))) else ((munimentref04_Less.f kj36 t216 t205).bind fun t222 => (if a2_0 = a0 then ((munimentref04_Same.f kj36 l2_1 l1).bind fun t223 => (some (t222 == t223))) else (some (t222 == false)))))) = some r := by rw [if_neg (show ¬ (false = true) by decide)] at H; exact H
                    clear H
                    have H := H1
                    clear H1
                    replace H := Option.bind_eq_some_iff.mp H
                    obtain ⟨t220, A430, H⟩ := H
                    replace H : (if t220 = true then (if a2_0 = a0 then ((munimentref04_Same.f kj36 l2_1 l1).bind fun t221 => (some (false == t221))) else (some (false == false))) else ((munimentref04_Less.f kj36 t216 t205).bind fun t222 => (if a2_0 = a0 then ((munimentref04_Same.f kj36 l2_1 l1).bind fun t223 => (some (t222 == t223))) else (some (t222 == false))))) = some r := H
                    have A43 := Aside0.mk A430
                    clear A430
                    by_cases c44 : t220 = true
                    · subst c44
                      have H1 : (if a2_0 = a0 then ((munimentref04_Same.f kj36 l2_1 l1).bind fun t221 => (some (false == t221))) else (some (false == false))) = some r := by rw [if_pos rfl] at H; exact H
                      clear H
                      have H := H1
                      clear H1
                      by_cases c45 : a2_0 = a0
                      · rw [if_pos c45] at H
                        have c45b0 : (a2_0 == a0) = true := beq_iff_eq.mpr c45
                        have c45b1 : (a2_0 != a0) = false := bne_eq_false_iff_eq.mpr c45
                        clear c45
                        replace H := Option.bind_eq_some_iff.mp H
                        obtain ⟨t221, A460, H⟩ := H
                        replace H : (some (false == t221)) = some r := H
                        have A46 := Aside0.mk A460
                        clear A460
                        obtain rfl := Option.some.inj H
                        obtain ⟨Ao47, co47, eo47⟩ := Kd.R_slice HO_9.out
                        subst eo47
                        obtain ⟨Ao48, co48, eo48⟩ := Kd.R_slice HO_7.out
                        subst eo48
                        go_wp2_with (first | ((with_reducible refine gate_callee (f := 16) rfl ?_); refine goesL_ (some 60) rfl rfl Try.func16 (by kernel_rfl) rfl #[.slice Ao47 t216.length co47, .slice Ao48 t202.length co48] rfl (by (try simp only [List.map_toArray, List.map_cons, List.map_nil]); first | done | rfl | (simp only [List.length_drop, List.length_take]; rfl)) ?_; (with_reducible refine (munimentref04_Less.calls kj36 _ _ t216 _ _ t202 true _ ?side1 ?side2 ?side3 ?side4 A43.out).mono ?_); (case side1 => repeat (first | exact (Kd.R_reads' HO_9.out).2.2 | (with_reducible refine Kd.C_alloc ?_ _) | (with_reducible refine Kd.C_drewN ?_ _) | (with_reducible refine Kd.C_drew ?_))); (case side2 => exact (Kd.R_reads' HO_9.out).2.1); (case side3 => repeat (first | exact (Kd.R_reads' HO_7.out).2.2 | (with_reducible refine Kd.C_alloc ?_ _) | (with_reducible refine Kd.C_drewN ?_ _) | (with_reducible refine Kd.C_drew ?_))); (case side4 => exact (Kd.R_reads' HO_7.out).2.1); rintro e w' ⟨rfl, ⟨nd, rfl⟩⟩; refine ⟨_, rfl, ?_⟩; have hcz49_0 : wc.cell? ⟨gb199, 0, none⟩ = some (.int .i64 a2_0) := (blk_cell BK199.out 0).trans rfl; have hcz49_1 : wc.cell? ⟨gb199, 1, none⟩ = some (.slice A2_1 l2_1.length c2_1) := (blk_cell BK199.out 1).trans rfl; have hcz49_2 : wc.cell? ⟨gb199, 2, none⟩ = some (.int .u64 a2_2) := (blk_cell BK199.out 2).trans rfl; have hfz49_0 := blk_frozen BK199.out 0; have hfz49_1 := blk_frozen BK199.out 1; have hfz49_2 := blk_frozen BK199.out 2) | (go_at_call 11; (with_reducible refine (munimentref04_Same.calls kj36 _ _ l2_1 _ _ l1 t221 _ ?side1 ?side2 ?side3 ?side4 A46.out).mono ?_); (case side1 => repeat (first | exact (Kd.C_below HR2_1.out (by repeat (first | (with_reducible first | exact HB.out | apply below_alloc | apply pw_below_drewN | apply below_drew1 | refine below_set ?_ GE199.out) | exact HB.out))) | (with_reducible refine Kd.C_alloc ?_ _) | (with_reducible refine Kd.C_drewN ?_ _) | (with_reducible refine Kd.C_drew ?_))); (case side2 => exact HC2_1.out); (case side3 => repeat (first | exact (Kd.C_below HR1.out (by repeat (first | (with_reducible first | exact HB.out | apply below_alloc | apply pw_below_drewN | apply below_drew1 | refine below_set ?_ GE199.out) | exact HB.out))) | (with_reducible refine Kd.C_alloc ?_ _) | (with_reducible refine Kd.C_drewN ?_ _) | (with_reducible refine Kd.C_drew ?_))); (case side4 => exact HC1.out); rintro e w' ⟨rfl, ⟨nd, rfl⟩⟩))
                        go_ret
                        exact ⟨by first | rfl | (simp [errW_none, errW_some] <;> rfl) | (simp [*, errW_none, errW_some] <;> rfl), by repeat (first | (with_reducible first | exact HB.out | apply below_alloc | apply pw_below_drewN | apply below_drew1 | refine below_set ?_ GE199.out) | exact HB.out)⟩
                      · rw [if_neg c45] at H
                        have c45b0 : (a2_0 == a0) = false := beq_eq_false_iff_ne.mpr c45
                        have c45b1 : (a2_0 != a0) = true := bne_iff_ne.mpr c45
                        obtain rfl := Option.some.inj H
                        obtain ⟨Ao50, co50, eo50⟩ := Kd.R_slice HO_9.out
                        subst eo50
                        obtain ⟨Ao51, co51, eo51⟩ := Kd.R_slice HO_7.out
                        subst eo51
                        go_wp2_with (first | ((with_reducible refine gate_callee (f := 16) rfl ?_); refine goesL_ (some 60) rfl rfl Try.func16 (by kernel_rfl) rfl #[.slice Ao50 t216.length co50, .slice Ao51 t202.length co51] rfl (by (try simp only [List.map_toArray, List.map_cons, List.map_nil]); first | done | rfl | (simp only [List.length_drop, List.length_take]; rfl)) ?_; (with_reducible refine (munimentref04_Less.calls kj36 _ _ t216 _ _ t202 true _ ?side1 ?side2 ?side3 ?side4 A43.out).mono ?_); (case side1 => repeat (first | exact (Kd.R_reads' HO_9.out).2.2 | (with_reducible refine Kd.C_alloc ?_ _) | (with_reducible refine Kd.C_drewN ?_ _) | (with_reducible refine Kd.C_drew ?_))); (case side2 => exact (Kd.R_reads' HO_9.out).2.1); (case side3 => repeat (first | exact (Kd.R_reads' HO_7.out).2.2 | (with_reducible refine Kd.C_alloc ?_ _) | (with_reducible refine Kd.C_drewN ?_ _) | (with_reducible refine Kd.C_drew ?_))); (case side4 => exact (Kd.R_reads' HO_7.out).2.1); rintro e w' ⟨rfl, ⟨nd, rfl⟩⟩; refine ⟨_, rfl, ?_⟩; have hcz52_0 : wc.cell? ⟨gb199, 0, none⟩ = some (.int .i64 a2_0) := (blk_cell BK199.out 0).trans rfl; have hcz52_1 : wc.cell? ⟨gb199, 1, none⟩ = some (.slice A2_1 l2_1.length c2_1) := (blk_cell BK199.out 1).trans rfl; have hcz52_2 : wc.cell? ⟨gb199, 2, none⟩ = some (.int .u64 a2_2) := (blk_cell BK199.out 2).trans rfl; have hfz52_0 := blk_frozen BK199.out 0; have hfz52_1 := blk_frozen BK199.out 1; have hfz52_2 := blk_frozen BK199.out 2))
                        go_ret
                        exact ⟨by first | rfl | (simp [errW_none, errW_some] <;> rfl) | (simp [*, errW_none, errW_some] <;> rfl), by repeat (first | (with_reducible first | exact HB.out | apply below_alloc | apply pw_below_drewN | apply below_drew1 | refine below_set ?_ GE199.out) | exact HB.out)⟩
                    · replace c44 := Bool.eq_false_iff.mpr c44
                      subst c44
                      have H1 : ((munimentref04_Less.f kj36 t216 t205).bind fun t222 => (if a2_0 = a0 then ((munimentref04_Same.f kj36 l2_1 l1).bind fun t223 => (some (t222 == t223))) else (some (t222 == false)))) = some r := by rw [if_neg (show ¬ (false = true) by decide)] at H; exact H
                      clear H
                      have H := H1
                      clear H1
                      replace H := Option.bind_eq_some_iff.mp H
                      obtain ⟨t222, A530, H⟩ := H
                      replace H : (if a2_0 = a0 then ((munimentref04_Same.f kj36 l2_1 l1).bind fun t223 => (some (t222 == t223))) else (some (t222 == false))) = some r := H
                      have A53 := Aside0.mk A530
                      clear A530
                      by_cases c54 : a2_0 = a0
                      · rw [if_pos c54] at H
                        have c54b0 : (a2_0 == a0) = true := beq_iff_eq.mpr c54
                        have c54b1 : (a2_0 != a0) = false := bne_eq_false_iff_eq.mpr c54
                        clear c54
                        replace H := Option.bind_eq_some_iff.mp H
                        obtain ⟨t223, A550, H⟩ := H
                        replace H : (some (t222 == t223)) = some r := H
                        have A55 := Aside0.mk A550
                        clear A550
                        obtain rfl := Option.some.inj H
                        obtain ⟨Ao56, co56, eo56⟩ := Kd.R_slice HO_9.out
                        subst eo56
                        obtain ⟨Ao57, co57, eo57⟩ := Kd.R_slice HO_7.out
                        subst eo57
                        go_wp2_with (first | ((with_reducible refine gate_callee (f := 16) rfl ?_); refine goesL_ (some 60) rfl rfl Try.func16 (by kernel_rfl) rfl #[.slice Ao56 t216.length co56, .slice Ao57 t202.length co57] rfl (by (try simp only [List.map_toArray, List.map_cons, List.map_nil]); first | done | rfl | (simp only [List.length_drop, List.length_take]; rfl)) ?_; (with_reducible refine (munimentref04_Less.calls kj36 _ _ t216 _ _ t202 false _ ?side1 ?side2 ?side3 ?side4 A43.out).mono ?_); (case side1 => repeat (first | exact (Kd.R_reads' HO_9.out).2.2 | (with_reducible refine Kd.C_alloc ?_ _) | (with_reducible refine Kd.C_drewN ?_ _) | (with_reducible refine Kd.C_drew ?_))); (case side2 => exact (Kd.R_reads' HO_9.out).2.1); (case side3 => repeat (first | exact (Kd.R_reads' HO_7.out).2.2 | (with_reducible refine Kd.C_alloc ?_ _) | (with_reducible refine Kd.C_drewN ?_ _) | (with_reducible refine Kd.C_drew ?_))); (case side4 => exact (Kd.R_reads' HO_7.out).2.1); rintro e w' ⟨rfl, ⟨nd, rfl⟩⟩; refine ⟨_, rfl, ?_⟩; obtain ⟨Ao58, co58, eo58⟩ := Kd.R_slice HO_8.out; subst eo58) | (go_at_call 16; (with_reducible refine (munimentref04_Less.calls kj36 _ _ t216 _ _ t205 t222 _ ?side1 ?side2 ?side3 ?side4 A53.out).mono ?_); (case side1 => repeat (first | exact (Kd.R_reads' HO_9.out).2.2 | (with_reducible refine Kd.C_alloc ?_ _) | (with_reducible refine Kd.C_drewN ?_ _) | (with_reducible refine Kd.C_drew ?_))); (case side2 => exact (Kd.R_reads' HO_9.out).2.1); (case side3 => repeat (first | exact (Kd.R_reads' HO_8.out).2.2 | (with_reducible refine Kd.C_alloc ?_ _) | (with_reducible refine Kd.C_drewN ?_ _) | (with_reducible refine Kd.C_drew ?_))); (case side4 => exact (Kd.R_reads' HO_8.out).2.1); rintro e w' ⟨rfl, ⟨nd, rfl⟩⟩; have hcz59_0 : wc.cell? ⟨gb199, 0, none⟩ = some (.int .i64 a2_0) := (blk_cell BK199.out 0).trans rfl; have hcz59_1 : wc.cell? ⟨gb199, 1, none⟩ = some (.slice A2_1 l2_1.length c2_1) := (blk_cell BK199.out 1).trans rfl; have hcz59_2 : wc.cell? ⟨gb199, 2, none⟩ = some (.int .u64 a2_2) := (blk_cell BK199.out 2).trans rfl; have hfz59_0 := blk_frozen BK199.out 0; have hfz59_1 := blk_frozen BK199.out 1; have hfz59_2 := blk_frozen BK199.out 2) | (go_at_call 11; (with_reducible refine (munimentref04_Same.calls kj36 _ _ l2_1 _ _ l1 t223 _ ?side1 ?side2 ?side3 ?side4 A55.out).mono ?_); (case side1 => repeat (first | exact (Kd.C_below HR2_1.out (by repeat (first | (with_reducible first | exact HB.out | apply below_alloc | apply pw_below_drewN | apply below_drew1 | refine below_set ?_ GE199.out) | exact HB.out))) | (with_reducible refine Kd.C_alloc ?_ _) | (with_reducible refine Kd.C_drewN ?_ _) | (with_reducible refine Kd.C_drew ?_))); (case side2 => exact HC2_1.out); (case side3 => repeat (first | exact (Kd.C_below HR1.out (by repeat (first | (with_reducible first | exact HB.out | apply below_alloc | apply pw_below_drewN | apply below_drew1 | refine below_set ?_ GE199.out) | exact HB.out))) | (with_reducible refine Kd.C_alloc ?_ _) | (with_reducible refine Kd.C_drewN ?_ _) | (with_reducible refine Kd.C_drew ?_))); (case side4 => exact HC1.out); rintro e w' ⟨rfl, ⟨nd, rfl⟩⟩))
                        go_ret
                        exact ⟨by first | rfl | (simp [errW_none, errW_some] <;> rfl) | (simp [*, errW_none, errW_some] <;> rfl), by repeat (first | (with_reducible first | exact HB.out | apply below_alloc | apply pw_below_drewN | apply below_drew1 | refine below_set ?_ GE199.out) | exact HB.out)⟩
                      · rw [if_neg c54] at H
                        have c54b0 : (a2_0 == a0) = false := beq_eq_false_iff_ne.mpr c54
                        have c54b1 : (a2_0 != a0) = true := bne_iff_ne.mpr c54
                        obtain rfl := Option.some.inj H
                        obtain ⟨Ao60, co60, eo60⟩ := Kd.R_slice HO_9.out
                        subst eo60
                        obtain ⟨Ao61, co61, eo61⟩ := Kd.R_slice HO_7.out
                        subst eo61
                        go_wp2_with (first | ((with_reducible refine gate_callee (f := 16) rfl ?_); refine goesL_ (some 60) rfl rfl Try.func16 (by kernel_rfl) rfl #[.slice Ao60 t216.length co60, .slice Ao61 t202.length co61] rfl (by (try simp only [List.map_toArray, List.map_cons, List.map_nil]); first | done | rfl | (simp only [List.length_drop, List.length_take]; rfl)) ?_; (with_reducible refine (munimentref04_Less.calls kj36 _ _ t216 _ _ t202 false _ ?side1 ?side2 ?side3 ?side4 A43.out).mono ?_); (case side1 => repeat (first | exact (Kd.R_reads' HO_9.out).2.2 | (with_reducible refine Kd.C_alloc ?_ _) | (with_reducible refine Kd.C_drewN ?_ _) | (with_reducible refine Kd.C_drew ?_))); (case side2 => exact (Kd.R_reads' HO_9.out).2.1); (case side3 => repeat (first | exact (Kd.R_reads' HO_7.out).2.2 | (with_reducible refine Kd.C_alloc ?_ _) | (with_reducible refine Kd.C_drewN ?_ _) | (with_reducible refine Kd.C_drew ?_))); (case side4 => exact (Kd.R_reads' HO_7.out).2.1); rintro e w' ⟨rfl, ⟨nd, rfl⟩⟩; refine ⟨_, rfl, ?_⟩; obtain ⟨Ao62, co62, eo62⟩ := Kd.R_slice HO_8.out; subst eo62) | (go_at_call 16; (with_reducible refine (munimentref04_Less.calls kj36 _ _ t216 _ _ t205 t222 _ ?side1 ?side2 ?side3 ?side4 A53.out).mono ?_); (case side1 => repeat (first | exact (Kd.R_reads' HO_9.out).2.2 | (with_reducible refine Kd.C_alloc ?_ _) | (with_reducible refine Kd.C_drewN ?_ _) | (with_reducible refine Kd.C_drew ?_))); (case side2 => exact (Kd.R_reads' HO_9.out).2.1); (case side3 => repeat (first | exact (Kd.R_reads' HO_8.out).2.2 | (with_reducible refine Kd.C_alloc ?_ _) | (with_reducible refine Kd.C_drewN ?_ _) | (with_reducible refine Kd.C_drew ?_))); (case side4 => exact (Kd.R_reads' HO_8.out).2.1); rintro e w' ⟨rfl, ⟨nd, rfl⟩⟩; have hcz63_0 : wc.cell? ⟨gb199, 0, none⟩ = some (.int .i64 a2_0) := (blk_cell BK199.out 0).trans rfl; have hcz63_1 : wc.cell? ⟨gb199, 1, none⟩ = some (.slice A2_1 l2_1.length c2_1) := (blk_cell BK199.out 1).trans rfl; have hcz63_2 : wc.cell? ⟨gb199, 2, none⟩ = some (.int .u64 a2_2) := (blk_cell BK199.out 2).trans rfl; have hfz63_0 := blk_frozen BK199.out 0; have hfz63_1 := blk_frozen BK199.out 1; have hfz63_2 := blk_frozen BK199.out 2))
                        go_ret
                        exact ⟨by first | rfl | (simp [errW_none, errW_some] <;> rfl) | (simp [*, errW_none, errW_some] <;> rfl), by repeat (first | (with_reducible first | exact HB.out | apply below_alloc | apply pw_below_drewN | apply below_drew1 | refine below_set ?_ GE199.out) | exact HB.out)⟩

end Go.Proofs.Ytpbcjhckhocgeaa.PS
