-- Written by a program of this session (wip/tools/patch_print.py) over the translation. Not trusted: Lean checks it.
import Derived.Test.YtpbcjhckhocgeaaPSx0
import Derived.Test.YtpbcjhckhocgeaaPSx3
import Derived.Test.YtpbcjhckhocgeaaPSx12
namespace Go.Proofs.Ytpbcjhckhocgeaa.PS
open Go.RowKit Go.Proofs.YtpbcjhckhocgeaaW.PrintWords Go.Proofs.YtpbcjhckhocgeaaW.PrintLast Go.Proofs.YtpbcjhckhocgeaaW.PrintMore
attribute [local go_sem] max2_int min2_int max_two min_two max_three min_three max_four min_four   -- for this text's walks alone
set_option linter.unusedVariables false
set_option linter.unusedSimpArgs false

/-! ### stamp_Read: function 17 -/
def stamp_Read.l0 : Nat → List Int → List Int → Int → List Int → Int → Option (Int × List Int × Int × Int)
  | 0, _, _, _, _, _ => none
  | k + 1, x0, x5, x233000, x233001, x233002 => if (x5.length : Int) > 0 then (if 0 < (x5.length : Int) then (if x233001.length < 140737488355328 then ((some (x233001 ++ [rd x5 0] : List Int)).bind fun y239 => (if (rd x5 0) = 0 then (if (x5.length : Int) > 1 then (if 1 ≤ (x5.length : Int) then ((some (x5.drop 1 : List Int)).bind fun y243 => (if 1 ≤ (y243.length : Int) then (stamp_Read.l0 k x0 (y243.drop 1) x233000 y239 x233002) else (none))) else (none)) else (if 1 ≤ (x5.length : Int) then (stamp_Read.l0 k x0 (x5.drop 1) x233000 y239 x233002) else (none))) else (if 1 ≤ (x5.length : Int) then (stamp_Read.l0 k x0 (x5.drop 1) x233000 y239 x233002) else (none)))) else (none)) else (none)) else ((stamp_Write.f k x233000 x233001 x233002).bind fun bt263 => (if bt263.2 = 0 then ((bytes_Equal.f x0 bt263.1).bind fun t267 => (if t267 = true then (some (x233000, x233001, x233002, 0)) else (some (0, ([] : List Int), 0, 11)))) else (some (0, ([] : List Int), 0, 11))))
def stamp_Read.f (k : Nat) (l0 : List Int) : Option (Int × List Int × Int × Int) := if (l0.length : Int) < 11 then (some (0, ([] : List Int), 0, 11)) else (if 0 < (l0.length : Int) then (if 0 ≤ (wrap64 ((l0.length : Int) - 8)) then (if (wrap64 ((l0.length : Int) - 8)) ≤ (l0.length : Int) then ((stamp_get64.f k (l0.drop ((wrap64 ((l0.length : Int) - 8)) : Int).toNat)).bind fun t231 => (if 1 ≤ (wrap64 ((l0.length : Int) - 10)) then (if (wrap64 ((l0.length : Int) - 10)) ≤ (l0.length : Int) then (stamp_Read.l0 k l0 ((l0.take ((wrap64 ((l0.length : Int) - 10)) : Int).toNat).drop 1) (wrap64 (rd l0 0)) ([] : List Int) (Go.bits .xor .u64 18446744073709551615 t231)) else (none)) else (none))) else (none)) else (none)) else (none))
theorem stamp_Read.mono_l : ∀ k, (∀ y0 y1 y2 y3 y4, LeO (stamp_Read.l0 k y0 y1 y2 y3 y4) (stamp_Read.l0 (k + 1) y0 y1 y2 y3 y4))
  | 0 => fun _ _ _ _ _ r h => by simp [stamp_Read.l0] at h
  | k + 1 => by
    have ih0 := stamp_Read.mono_l k
    · intro y0 y1 y2 y3 y4
      unfold stamp_Read.l0
      repeat' first
      | (with_reducible exact ih0 _ _ _ _ _)
      | (with_reducible exact stamp_Write.mono _ _ _ _)
      | (with_reducible exact stamp_get64.mono _ _)
      | (with_reducible exact LeO.refl _)
      | (with_reducible exact LeO.none _)
      | (with_reducible refine LeO.ite ?_ ?_)
      | (with_reducible refine LeO.bind ?_ (fun _ => ?_))
      | exact ih0 _ _ _ _ _
      | exact stamp_Write.mono _ _ _ _
      | exact stamp_get64.mono _ _
      | exact LeO.none _
      | refine LeO.ite ?_ ?_
      | refine LeO.bind ?_ (fun _ => ?_)
theorem stamp_Read.mono : ∀ a0 k, LeO (stamp_Read.f k a0) (stamp_Read.f (k + 1) a0) := by
  intro a0 k
  have ih0 := stamp_Read.mono_l k
  unfold stamp_Read.f
  repeat' first
      | (with_reducible exact ih0 _ _ _ _ _)
      | (with_reducible exact stamp_Write.mono _ _ _ _)
      | (with_reducible exact stamp_get64.mono _ _)
      | (with_reducible exact LeO.refl _)
      | (with_reducible exact LeO.none _)
      | (with_reducible refine LeO.ite ?_ ?_)
      | (with_reducible refine LeO.bind ?_ (fun _ => ?_))
      | exact ih0 _ _ _ _ _
      | exact stamp_Write.mono _ _ _ _
      | exact stamp_get64.mono _ _
      | exact LeO.none _
      | refine LeO.ite ?_ ?_
      | refine LeO.bind ?_ (fun _ => ?_)
def stamp_Read.T3 : Bool × List (List Nat × List Nat) := (true, [([], []), ([0], [0]), ([1], [1]), ([2], [2]), ([], []), ([], []), ([5], [5]), ([6], [6]), ([4, 7], [4, 7]), ([8], [8]), ([9], [9]), ([3, 10], [3, 10]), ([], []), ([12, 11, 9, 0, 1, 2, 3, 4, 5, 6, 7, 8, 9, 10, 11, 12], [11, 12])])
def stamp_Read.B3 : List Nat := [0, 1, 3, 7, 0, 0, 32, 96, 240, 496, 1008, 2047, 0, 8191]
theorem stamp_Read.tab3 : rtab .any (opsOf Try.f17 3) = stamp_Read.T3 := by kernel_rfl
theorem stamp_Read.bits3 : waitsOk stamp_Read.T3.2 stamp_Read.B3 = true := by kernel_rfl
def stamp_Read.T7 : Bool × List (List Nat × List Nat) := (true, [([], []), ([0], [0]), ([], []), ([2], [2]), ([3], [3]), ([4], [4]), ([1, 5], [1, 5]), ([0, 1, 2, 3, 4, 5, 6], []), ([7, 6, 6, 0, 1, 2, 3, 4, 5, 6], [6, 7])])
def stamp_Read.B7 : List Nat := [0, 1, 0, 4, 12, 28, 63, 127, 255]
theorem stamp_Read.tab7 : rtab .any (opsOf Try.f17 7) = stamp_Read.T7 := by kernel_rfl
theorem stamp_Read.bits7 : waitsOk stamp_Read.T7.2 stamp_Read.B7 = true := by kernel_rfl
set_option maxHeartbeats 8000000 in
set_option maxRecDepth 100000 in
theorem stamp_Read.calls (k : Nat) (P0_ : Nat → Prop) (A0 : Option Addr) (c0 : Nat) (l0 : List Int) (r1 : Int) (r2 : List Int) (r3 : Int) (r4 : Int) (w : World) (hs0 : Kd.V (Kd.int .u8) 5 w w.heap.size (fun k_ => P0_ k_) (.slice A0 l0.length c0) l0) (h : stamp_Read.f k l0 = some (r1, r2, r3, r4)) :
    Calls Try.prog 17 #[.slice A0 l0.length c0] w fun e w' => ∃ v1_ : Value, e = .returned (.tuple #[.agg #[.int .i64 r1, v1_, .int .u64 r3], .int .i64 r4]) ∧ Kd.R (Kd.int .u8) 5 w' w.heap.size (fun k_ => (w.heap.size ≤ k_)) v1_ r2 ∧ Below w.heap.size w w' := by
  have hu25 := Try.underlying25
  have HO0 := Aside0.mk (show Kd.V (Kd.int .u8) 5 w w.heap.size (fun k_ => (P0_ k_ ∨ w.heap.size ≤ k_)) (.slice A0 l0.length c0) l0 from Kd.V_mono hs0 (fun k_ hk => .inl hk))
  have HB := Aside0.mk (Below.refl w.heap.size w)
  have H : (if (l0.length : Int) < 11 then (some (0, ([] : List Int), 0, 11)) else (if 0 < (l0.length : Int) then (if 0 ≤ (wrap64 ((l0.length : Int) - 8)) then (if (wrap64 ((l0.length : Int) - 8)) ≤ (l0.length : Int) then ((stamp_get64.f k (l0.drop ((wrap64 ((l0.length : Int) - 8)) : Int).toNat)).bind fun t231 => (if 1 ≤ (wrap64 ((l0.length : Int) - 10)) then (if (wrap64 ((l0.length : Int) - 10)) ≤ (l0.length : Int) then (stamp_Read.l0 k l0 ((l0.take ((wrap64 ((l0.length : Int) - 10)) : Int).toNat).drop 1) (wrap64 (rd l0 0)) ([] : List Int) (Go.bits .xor .u64 18446744073709551615 t231)) else (none)) else (none))) else (none)) else (none)) else (none))) = some (r1, r2, r3, r4) := h
  clear h
  by_cases c2 : (l0.length : Int) < 11
  · rw [if_pos c2] at H
    have c2b0 : decide ((l0.length : Int) < 11) = true := decide_eq_true c2
    have c2b1 : decide (l0.length < 11) = true := decide_eq_true (by omega)
    clear c2
    simp only [Option.some.injEq, Prod.mk.injEq] at H
    obtain ⟨rfl, rfl, rfl, rfl⟩ := H
    go_enter Try.func17, Try.ntmps17
    go_wp2_with (first | ((with_reducible refine gate_dst (N := 2) rfl ?_); (try (refine gate_guard (by rfl) ?_; dsimp only)); refine box_event ?hg (N := 2) ?hd (cs := #[.int .i64 0, .slice none 0 0, .int .u64 0]) (t := 25) ?hr ?_; (case hd => rfl); (case hg => rfl); (case hr => first | (go_simp; done) | (go_simp; rfl)); intro gb224 hg w3 hbox hb; have n0_ := Aside0.mk (Kd.V_below (Kd.V_elderB (by (with_reducible repeat (first | apply Kd.V_alloc | apply Kd.V_drewN | apply Kd.V_drew)); exact HO0.out) gb224 (Nat.le_of_eq hg.symm)) hb); have n1_ := Aside0.mk (below_step (by repeat (first | (with_reducible first | exact HB.out | apply below_alloc | apply pw_below_drewN | apply below_drew1) | exact HB.out)) hb); have n2_ := Aside0.mk (hbox); have n3_ := Aside0.mk ((by rw [hg]; exact (below_size (by repeat (first | (with_reducible first | exact HB.out | apply below_alloc | apply pw_below_drewN | apply below_drew1) | exact HB.out))) : w.heap.size ≤ gb224)); have n4_ := Aside0.mk ((by rw [hg]; exact (below_size (by repeat (first | (with_reducible first | exact HB.out | apply below_alloc | apply pw_below_drewN | apply below_drew1) | exact HB.out))) : w.heap.size ≤ gb224)); clear HO0; clear HB; have HO0 := n0_; have HB := n1_; have BK224 := n2_; have GW224 := n3_; have GE224 := n4_; clear n0_ n1_ n2_ n3_ n4_; clear hb hbox hg; have hcz4_0 : w3.cell? ⟨gb224, 0, none⟩ = some (.int .i64 0) := (blk_cell BK224.out 0).trans rfl; have hcz4_1 : w3.cell? ⟨gb224, 1, none⟩ = some (.slice none 0 0) := (blk_cell BK224.out 1).trans rfl; have hcz4_2 : w3.cell? ⟨gb224, 2, none⟩ = some (.int .u64 0) := (blk_cell BK224.out 2).trans rfl; have hfz4_0 := blk_frozen BK224.out 0; have hfz4_1 := blk_frozen BK224.out 1; have hfz4_2 := blk_frozen BK224.out 2))
    refine bodyPost_ret (results_ct rfl _ _ gb224 25 #[.int .i64 0, .slice none 0 0, .int .u64 0] (0, 0) _ rfl (by (with_reducible repeat (first | refine blk_drewN ?_ _ | refine blk_drew ?_ | refine blk_alloc ?_ _)); refine blk_put (cs := #[.int .i64 0, .slice none 0 0, .int .u64 0]) ?_ 2 _ rfl; (with_reducible repeat (first | refine blk_drewN ?_ _ | refine blk_drew ?_ | refine blk_alloc ?_ _)); refine blk_put (cs := #[.int .i64 0, .slice none 0 0, .int .u64 0]) ?_ 1 _ rfl; (with_reducible repeat (first | refine blk_drewN ?_ _ | refine blk_drew ?_ | refine blk_alloc ?_ _)); refine blk_put (cs := #[.int .i64 0, .slice none 0 0, .int .u64 0]) ?_ 0 _ rfl; (with_reducible repeat (first | refine blk_drewN ?_ _ | refine blk_drew ?_ | refine blk_alloc ?_ _)); exact BK224.out) Try.underlying25 rfl (by kernel_rfl)) rfl ?_
    exact ⟨_, by first | rfl | (simp [errW_none, errW_some] <;> rfl) | (simp [*, errW_none, errW_some] <;> rfl), by first | exact Kd.R_nil _ _ _ _ _ | exact Kd.N_nil _ _ _ _ _ | exact Kd.V_nil _ _ _ _ _ | exact Kd.Q_nil _ _ _ _ _ | exact Kd.S_nil _ _ _ _ _, by repeat (first | (with_reducible first | exact HB.out | apply below_alloc | apply pw_below_drewN | apply below_drew1 | refine below_set ?_ GE224.out) | exact HB.out)⟩
  · rw [if_neg c2] at H
    have c2b0 : decide ((l0.length : Int) < 11) = false := decide_eq_false c2
    have c2b1 : decide (l0.length < 11) = false := decide_eq_false (by omega)
    clear c2
    by_cases c5 : 0 < (l0.length : Int)
    · rw [if_pos c5] at H
      have c5b0 : decide (0 < (l0.length : Int)) = true := decide_eq_true c5
      have c5b1 : decide (0 < l0.length) = true := decide_eq_true (by omega)
      clear c5
      obtain ⟨ji6, hji6⟩ : ∃ j_ : Int, (wrap64 ((l0.length : Int) - 8)) = j_ := ⟨_, rfl⟩
      replace H : (if 0 ≤ (ji6) then (if (ji6) ≤ (l0.length : Int) then ((stamp_get64.f k (l0.drop ((ji6) : Int).toNat)).bind fun t231 => (if 1 ≤ (wrap64 ((l0.length : Int) - 10)) then (if (wrap64 ((l0.length : Int) - 10)) ≤ (l0.length : Int) then (stamp_Read.l0 k l0 ((l0.take ((wrap64 ((l0.length : Int) - 10)) : Int).toNat).drop 1) (wrap64 (rd l0 0)) ([] : List Int) (Go.bits .xor .u64 18446744073709551615 t231)) else (none)) else (none))) else (none)) else (none)) = some (r1, r2, r3, r4) := by first | (rw [hji6] at H; exact H) | (simp only [hji6] at H ⊢; exact H)
      have hji6w : (IntKind.i64.wrap ((l0.length : Int) - 8)) = ji6 := (i64_w _).trans hji6
      by_cases c7 : 0 ≤ (ji6)
      · rw [if_pos c7] at H
        have c7b0 := eq_true c7
        have c7b1 : decide (0 ≤ (ji6)) = true := decide_eq_true c7
        clear c7
        by_cases c8 : (ji6) ≤ (l0.length : Int)
        · rw [if_pos c8] at H
          have c8b0 := eq_true c8
          have c8b1 : decide ((ji6) ≤ (l0.length : Int)) = true := decide_eq_true c8
          clear c8
          obtain ⟨y226, hy226⟩ : ∃ y_ : List Int, y_ = (l0.drop ((ji6) : Int).toNat) := ⟨_, rfl⟩
          replace H : ((stamp_get64.f k y226).bind fun t231 => (if 1 ≤ (wrap64 ((l0.length : Int) - 10)) then (if (wrap64 ((l0.length : Int) - 10)) ≤ (l0.length : Int) then (stamp_Read.l0 k l0 ((l0.take ((wrap64 ((l0.length : Int) - 10)) : Int).toNat).drop 1) (wrap64 (rd l0 0)) ([] : List Int) (Go.bits .xor .u64 18446744073709551615 t231)) else (none)) else (none))) = some (r1, r2, r3, r4) := by first | (rw [hy226]; with_reducible exact H) | (have H2_ := (Option.bind_some _ _).symm.trans H; rw [hy226]; with_reducible exact H2_) | (have H2_ := (Option.bind_some _ _).symm.trans H; with_reducible exact H2_) | with_reducible exact H | (rw [hy226]; exact H) | exact H
          have Ny226 := Aside0.mk hy226
          clear hy226
          replace H := Option.bind_eq_some_iff.mp H
          obtain ⟨t231, A90, H⟩ := H
          replace H : (if 1 ≤ (wrap64 ((l0.length : Int) - 10)) then (if (wrap64 ((l0.length : Int) - 10)) ≤ (l0.length : Int) then (stamp_Read.l0 k l0 ((l0.take ((wrap64 ((l0.length : Int) - 10)) : Int).toNat).drop 1) (wrap64 (rd l0 0)) ([] : List Int) (Go.bits .xor .u64 18446744073709551615 t231)) else (none)) else (none)) = some (r1, r2, r3, r4) := H
          have A9 := Aside0.mk A90
          clear A90
          by_cases c10 : 1 ≤ (wrap64 ((l0.length : Int) - 10))
          · rw [if_pos c10] at H
            have c10b0 := eq_true c10
            have c10b1 : decide (1 ≤ (wrap64 ((l0.length : Int) - 10))) = true := decide_eq_true c10
            clear c10
            by_cases c11 : (wrap64 ((l0.length : Int) - 10)) ≤ (l0.length : Int)
            · rw [if_pos c11] at H
              have c11b0 := eq_true c11
              have c11b1 : decide ((wrap64 ((l0.length : Int) - 10)) ≤ (l0.length : Int)) = true := decide_eq_true c11
              clear c11
              obtain ⟨y233, hy233⟩ : ∃ y_ : List Int, y_ = ((l0.take ((wrap64 ((l0.length : Int) - 10)) : Int).toNat).drop 1) := ⟨_, rfl⟩
              replace H : (stamp_Read.l0 k l0 y233 (wrap64 (rd l0 0)) ([] : List Int) (Go.bits .xor .u64 18446744073709551615 t231)) = some (r1, r2, r3, r4) := by first | (rw [hy233]; with_reducible exact H) | (have H2_ := (Option.bind_some _ _).symm.trans H; rw [hy233]; with_reducible exact H2_) | (have H2_ := (Option.bind_some _ _).symm.trans H; with_reducible exact H2_) | with_reducible exact H | (rw [hy233]; exact H) | exact H
              have Ny233 := Aside0.mk hy233
              clear hy233
              have H' := Aside0.mk H
              clear H
              go_enter Try.func17, Try.ntmps17
              try go_wp2_with (first | ((with_reducible refine gate_dst (N := 2) rfl ?_); (try (refine gate_guard (by rfl) ?_; dsimp only)); refine box_event ?hg (N := 2) ?hd (cs := #[.int .i64 0, .slice none 0 0, .int .u64 0]) (t := 25) ?hr ?_; (case hd => rfl); (case hg => rfl); (case hr => first | (go_simp; done) | (go_simp; rfl)); intro gb224 hg w12 hbox hb; have n0_ := Aside0.mk (Kd.V_below (Kd.V_elderB (by (with_reducible repeat (first | apply Kd.V_alloc | apply Kd.V_drewN | apply Kd.V_drew)); exact HO0.out) gb224 (Nat.le_of_eq hg.symm)) hb); have n1_ := Aside0.mk (below_step (by repeat (first | (with_reducible first | exact HB.out | apply below_alloc | apply pw_below_drewN | apply below_drew1) | exact HB.out)) hb); have n2_ := Aside0.mk (hbox); have n3_ := Aside0.mk ((by rw [hg]; exact (below_size (by repeat (first | (with_reducible first | exact HB.out | apply below_alloc | apply pw_below_drewN | apply below_drew1) | exact HB.out))) : w.heap.size ≤ gb224)); have n4_ := Aside0.mk ((by rw [hg]; exact (below_size (by repeat (first | (with_reducible first | exact HB.out | apply below_alloc | apply pw_below_drewN | apply below_drew1) | exact HB.out))) : w.heap.size ≤ gb224)); clear HO0; clear HB; have HO0 := n0_; have HB := n1_; have BK224 := n2_; have GW224 := n3_; have GE224 := n4_; clear n0_ n1_ n2_ n3_ n4_; clear hb hbox hg))
              have n0_ := Aside0.mk (Kd.V_drew HO0.out)
              have n1_ := Aside0.mk (blk_drew BK224.out)
              have n2_ := Aside0.mk (below_drew1 HB.out)
              clear HO0
              clear BK224
              clear HB
              have HO0 := n0_
              have BK224 := n1_
              have HB := n2_
              clear n0_ n1_ n2_
              have p225 : 0 ≤ (0 : Int) := (by omega)
              have q225 : 0 < (l0.length : Int) := of_decide_eq_true (by first | (with_reducible assumption) | assumption)
              obtain ⟨ad225, e225, hx225_0⟩ := Kd.at_int (Kd.V_reads' HO0.out).2.2 0 p225 q225
              cases e225
              have qi225 : (0 < l0.length) = True := eq_true (by omega)
              (try rw [show ((0 : Int)).toNat = 0 from rfl] at hx225_0)
              (try rw [Addr.add_zero'] at hx225_0)
              replace p225 := eq_true p225
              replace q225 := eq_true q225
              have q14 : ((ji6) : Int) ≤ ((l0.length : Int) : Int) := of_decide_eq_true (by first | (with_reducible assumption) | assumption)
              obtain ⟨i014, hi014, _, hsz14, _⟩ := info_parts info5
              have hroom14 : l0.length ≤ c0 := (Kd.V_reads' HO0.out).2.1
              have hC14 : Kd.F (Kd.int .u8) _ _ (some ad225) l0.length l0 := (Kd.V_at (base := w.heap.size) HO0.out).2.2
              have q014 : (0 : Int) ≤ ((ji6) : Int) := of_decide_eq_true (by first | (with_reducible assumption) | assumption)
              have hcut14 := cut_from (P := Try.prog) 22 5 .i64 Try.underlying22 hi014 1 hsz14 (some ad225) l0.length c0 (ji6) q014 q14
              have hr14 := Kd.F_cut (m := ((ji6) : Int).toNat) (c := c0) hC14 (by omega) hroom14
              obtain ⟨A14, hA14⟩ : ∃ A1, A1 = (if c0 = ((ji6) : Int).toNat then (some ad225) else ((some ad225) : Option Addr).map (·.add (((ji6) : Int).toNat * 1))) := ⟨_, rfl⟩
              obtain ⟨c14, hc14⟩ : ∃ c1, c1 = c0 - ((ji6) : Int).toNat := ⟨_, rfl⟩
              have hy14 : y226.length = l0.length - ((ji6) : Int).toNat := (by rw [Ny226.out, List.length_drop] <;> omega)
              rw [show (l0).drop ((ji6) : Int).toNat = y226 from Ny226.out.symm] at hr14
              replace hr14 : Kd.F (Kd.int .u8) _ _ A14 y226.length y226 := (by rw [hA14]; exact hr14)
              rw [← hy14, ← hA14, ← hc14] at hcut14
              have HO230 := Aside0.mk (show Kd.V (Kd.int .u8) 5 _ w.heap.size _ (.slice A14 y226.length c14) y226 from Kd.V_mk (by rw [hy14, hc14]; exact Nat.sub_le_sub_right hroom14 _) hr14)
              have HC230 := Aside0.mk (show y226.length ≤ c14 from by rw [hy14, hc14]; exact Nat.sub_le_sub_right hroom14 _)
              clear hr14 hC14 hroom14 hi014 hsz14 hc14
              have KY14 := Aside0.mk hy14
              have KA14 := Aside0.mk hA14
              clear hy14 hA14
              replace q14 := eq_true q14
              refine start_ (n := 14) (S := fun w' => w'.cell? ad225 = some (.int .u8 (rd l0 0))) (ds := []) #[false, false, false, false, false, false, false, false, false, false, false, false, false, false] (by kernel_rfl) rfl rfl (hx225_0) (fun hHeld => ?_); refine with_tabW stamp_Read.tab3 stamp_Read.bits3 (fun HT_ HW_ => ?_)
              generalize w12.drew = w13 at HO0 BK224 HB HO230 hx225_0 hHeld ⊢
              refine pure_ (i := 0) (N := some 12) (v := ?_) (a' := ?_) #[true, false, false, false, false, false, false, false, false, false, false, false, false, false] rfl rfl (any_of HT_.out (by kernel_rfl)) (fun _ _ _ h => h) (Or.inl ⟨by rfl, ?_⟩) ?_ ?_
              rotate_left
              · intro w'
                go_simp
                with_reducible rfl
              rotate_left
              · simp only [u64_ones_, Act.put, List.setIfInBounds_toArray, List.set_cons_zero, List.set_cons_succ, i64_w, i32_w]
                rfl
              refine pure_ (i := 1) (N := some 13) (v := ?_) (a' := ?_) #[true, true, false, false, false, false, false, false, false, false, false, false, false, false] rfl rfl (any_of HT_.out (by kernel_rfl)) (fun _ _ _ h => h) (Or.inl ⟨by rfl, ?_⟩) ?_ ?_
              rotate_left
              · intro w'
                go_simp
                with_reducible rfl
              rotate_left
              · simp only [u64_ones_, Act.put, List.setIfInBounds_toArray, List.set_cons_zero, List.set_cons_succ, i64_w, i32_w]
                rfl
              refine pure_ (i := 4) (N := some 16) (v := ?_) (a' := ?_) #[true, true, false, false, true, false, false, false, false, false, false, false, false, false] rfl rfl (any_of HT_.out (by kernel_rfl)) (fun _ _ _ h => h) (Or.inl ⟨by rfl, ?_⟩) ?_ ?_
              rotate_left
              · intro w'
                go_simp
                with_reducible rfl
              rotate_left
              · simp only [u64_ones_, Act.put, List.setIfInBounds_toArray, List.set_cons_zero, List.set_cons_succ, i64_w, i32_w]
                rfl
              refine pure_ (i := 5) (N := some 17) (v := ?_) (a' := ?_) #[true, true, false, false, true, true, false, false, false, false, false, false, false, false] rfl rfl (any_of HT_.out (by kernel_rfl)) (fun _ _ _ h => h) (Or.inl ⟨by rfl, ?_⟩) ?_ ?_
              rotate_left
              · intro w'
                go_simp
                with_reducible rfl
              rotate_left
              · simp only [u64_ones_, Act.put, List.setIfInBounds_toArray, List.set_cons_zero, List.set_cons_succ, i64_w, i32_w]
                rfl
              refine pure_ (i := 6) (N := some 18) (v := ?_) (a' := ?_) #[true, true, false, false, true, true, true, false, false, false, false, false, false, false] rfl rfl (any_of HT_.out (by kernel_rfl)) (fun _ _ _ h => h) (Or.inl ⟨by rfl, ?_⟩) ?_ ?_
              rotate_left
              · intro w'
                go_simp
                with_reducible rfl
              rotate_left
              · simp only [u64_ones_, Act.put, List.setIfInBounds_toArray, List.set_cons_zero, List.set_cons_succ, i64_w, i32_w]
                rfl
              refine pure_ (i := 7) (N := some 19) (v := ?_) (a' := ?_) #[true, true, false, false, true, true, true, true, false, false, false, false, false, false] rfl rfl (any_of HT_.out (by kernel_rfl)) (fun _ _ _ h => h) (Or.inl ⟨by rfl, ?_⟩) ?_ ?_
              rotate_left
              · intro w'
                go_simp
                with_reducible rfl
              rotate_left
              · simp only [u64_ones_, Act.put, List.setIfInBounds_toArray, List.set_cons_zero, List.set_cons_succ, i64_w, i32_w]
                rfl
              refine pure_ (i := 8) (N := some 20) (v := ?_) (a' := ?_) #[true, true, false, false, true, true, true, true, true, false, false, false, false, false] rfl rfl (any_of HT_.out (by kernel_rfl)) (fun _ _ _ h => h) (Or.inl ⟨by rfl, ?_⟩) ?_ ?_
              rotate_left
              · intro w'
                go_simp
                with_reducible rfl
              rotate_left
              · simp only [u64_ones_, Act.put, List.setIfInBounds_toArray, List.set_cons_zero, List.set_cons_succ, i64_w, i32_w]
                rfl
              refine take_ (i := 2) (N := some 14) (v := ?_) (a' := ?_) #[true, true, true, false, true, true, true, true, true, false, false, false, false, false] rfl rfl (take_ofW HT_.out HW_.out (by kernel_rfl)) (fun _ _ _ h => h) (Or.inl ⟨by rfl, ?_⟩) hHeld ?_ ?_
              rotate_left
              · intro w' s0
                go_simp
                with_reducible rfl
              rotate_left
              · simp only [u64_ones_, Act.put, List.setIfInBounds_toArray, List.set_cons_zero, List.set_cons_succ, i64_w, i32_w]
                rfl
              refine pure_ (i := 3) (N := some 15) (v := ?_) (a' := ?_) #[true, true, true, true, true, true, true, true, true, false, false, false, false, false] rfl rfl (any_of HT_.out (by kernel_rfl)) (fun _ _ _ h => h) (Or.inl ⟨by rfl, ?_⟩) ?_ ?_
              rotate_left
              · intro w'
                go_simp
                with_reducible rfl
              rotate_left
              · simp only [u64_ones_, Act.put, List.setIfInBounds_toArray, List.set_cons_zero, List.set_cons_succ, i64_w, i32_w]
                rfl
              refine join_ (σ := Nat) 1 #[true, true, true, true, true, true, true, true, true, true, true, true, true, false] (fun s_ => [(21, .int .u64 t231), (4, .pointer (some ⟨s_, 0, none⟩)), (22, .int .u64 (Go.bits .xor .u64 18446744073709551615 t231)), (23, .agg #[.int .i64 (wrap64 (rd l0 0)), .slice none 0 0, .int .u64 (Go.bits .xor .u64 18446744073709551615 t231)])]) (fun s_ w' => (w'.cell? ad225 = some (.int .u8 (rd l0 0))) ∧ (Kd.V (Kd.int .u8) 5 w' w.heap.size (fun k_ => (P0_ k_ ∨ w.heap.size ≤ k_) ∧ k_ ≠ gb224 ∧ k_ ≠ s_) (.slice (some ad225) l0.length c0) l0) ∧ (Kd.V (Kd.int .u8) 5 w' w.heap.size (fun k_ => (P0_ k_ ∨ w.heap.size ≤ k_) ∧ k_ ≠ gb224 ∧ k_ ≠ s_) (.slice A14 y226.length c14) y226) ∧ (w'.heap[gb224]? = some (.cells #[.int .i64 0, .slice none 0 0, .int .u64 0] 25 (0, 0))) ∧ (w'.heap[s_]? = some (.cells #[.int .i64 0, .slice none 0 0, .int .u64 0] 25 (0, 0))) ∧ (w.heap.size ≤ s_) ∧ (w.heap.size ≤ s_) ∧ (gb224 ≠ s_) ∧ (s_ ≠ gb224) ∧ (Below w.heap.size w w')) ?_ ?_
              rotate_left
              · intro hCont
                refine two_ (i := 9) (j := 12) (Ni := some 21) (Nj := some 4) #[true, true, true, true, true, true, true, true, true, true, false, false, false, false] #[true, true, true, true, true, true, true, true, true, false, false, false, true, false] rfl rfl rfl rfl (two_of HT_.out (by kernel_rfl)) (by decide) (by decide) (fun K hK => ?_) (fun K hK => ?_)
                · skip
                  refine goes_ Try.func27 (by kernel_rfl) rfl #[.slice A14 y226.length c14] (by rfl) rfl rfl (by (try simp only [List.map_toArray, List.map_cons, List.map_nil]); first | done | rfl | (simp only [List.length_drop, List.length_take]; rfl)) ?_
                  with_reducible refine (stamp_get64.calls k _ _ y226 t231 _ ?side1 ?side2 A9.out).mono ?_
                  (case side1 => repeat (first | exact (Kd.V_reads' HO230.out).2.2 | (with_reducible refine Kd.C_alloc ?_ _) | (with_reducible refine Kd.C_drewN ?_ _) | (with_reducible refine Kd.C_drew ?_)))
                  (case side2 => exact (Kd.V_reads' HO230.out).2.1)
                  rintro e w' ⟨rfl, ⟨nd, rfl⟩⟩
                  refine ⟨_, rfl, ?_⟩
                  refine hK.out _ _ (hHeld) (fun hHeld => ?_)
                  clear hK K
                  refine norm_ (a' := ?_) ?_ ?_
                  rotate_left
                  · show Act.put _ (some 21) _ = _
                    simp only [u64_ones_, Act.put, List.setIfInBounds_toArray, List.set_cons_zero, List.set_cons_succ, i64_w, i32_w]
                    rfl
                  refine pure_ (i := 10) (N := some 22) (v := ?_) (a' := ?_) #[true, true, true, true, true, true, true, true, true, true, true, false, false, false] rfl rfl (any_of HT_.out (by kernel_rfl)) (fun _ _ _ h => h) (Or.inl ⟨by rfl, ?_⟩) ?_ ?_
                  rotate_left
                  · intro w'
                    go_simp
                    with_reducible rfl
                  rotate_left
                  · simp only [u64_ones_, Act.put, List.setIfInBounds_toArray, List.set_cons_zero, List.set_cons_succ, i64_w, i32_w]
                    rfl
                  refine pure_ (i := 11) (N := some 23) (v := ?_) (a' := ?_) #[true, true, true, true, true, true, true, true, true, true, true, true, false, false] rfl rfl (any_of HT_.out (by kernel_rfl)) (fun _ _ _ h => h) (Or.inl ⟨by rfl, ?_⟩) ?_ ?_
                  rotate_left
                  · intro w'
                    go_simp
                    with_reducible rfl
                  rotate_left
                  · simp only [u64_ones_, Act.put, List.setIfInBounds_toArray, List.set_cons_zero, List.set_cons_succ, i64_w, i32_w]
                    rfl
                  refine one_ (i := 12) (N := some 4) #[true, true, true, true, true, true, true, true, true, true, true, true, true, false] rfl rfl (one_of HT_.out (by kernel_rfl)) (by decide) (fun K hK => ?_)
                  refine box_step ?hg (N := 4) ?hd (cs := #[.int .i64 0, .slice none 0 0, .int .u64 0]) (t := 25) ?hr ?_; (case hd => rfl); (case hg => rfl); (case hr => first | (go_simp; done) | (go_simp; rfl))
                  intro gb232 hg w15 hbox hb
                  have HS0_ := (hb.cell (World.block_lt_of_cell? _ _ (hHeld))).trans (hHeld)
                  have n0_ := Aside0.mk (Kd.V_below (Kd.V_elderB (by (with_reducible repeat (first | apply Kd.V_alloc | apply Kd.V_drewN | apply Kd.V_drew)); exact HO0.out) gb232 (Nat.le_of_eq hg.symm)) hb)
                  have n1_ := Aside0.mk (Kd.V_below (Kd.V_elderB (by (with_reducible repeat (first | apply Kd.V_alloc | apply Kd.V_drewN | apply Kd.V_drew)); exact HO230.out) gb232 (Nat.le_of_eq hg.symm)) hb)
                  have n2_ := Aside0.mk (blk_below (g := gb224) (o := .cells #[.int .i64 0, .slice none 0 0, .int .u64 0] 25 (0, 0)) (by (with_reducible repeat (first | refine blk_drewN ?_ _ | refine blk_drew ?_ | refine blk_alloc ?_ _)); exact BK224.out) hb)
                  have n3_ := Aside0.mk (below_step (by repeat (first | (with_reducible first | exact HB.out | apply below_alloc | apply pw_below_drewN | apply below_drew1 | refine below_set ?_ GE224.out) | exact HB.out)) hb)
                  have n4_ := Aside0.mk (hbox)
                  have n5_ := Aside0.mk ((by rw [hg]; exact (below_size (by repeat (first | (with_reducible first | exact HB.out | apply below_alloc | apply pw_below_drewN | apply below_drew1 | refine below_set ?_ GE224.out) | exact HB.out))) : w.heap.size ≤ gb232))
                  have n6_ := Aside0.mk ((by rw [hg]; exact (below_size (by repeat (first | (with_reducible first | exact HB.out | apply below_alloc | apply pw_below_drewN | apply below_drew1 | refine below_set ?_ GE224.out) | exact HB.out))) : w.heap.size ≤ gb232))
                  have n7_ := Aside0.mk ((by rw [hg]; exact Nat.ne_of_lt (blk_lt (g := gb224) (o := .cells #[.int .i64 0, .slice none 0 0, .int .u64 0] 25 (0, 0)) (by (with_reducible repeat (first | refine blk_drewN ?_ _ | refine blk_drew ?_ | refine blk_alloc ?_ _)); exact BK224.out)) : gb224 ≠ gb232))
                  have n8_ := Aside0.mk ((by rw [hg]; exact Nat.ne_of_gt (blk_lt (g := gb224) (o := .cells #[.int .i64 0, .slice none 0 0, .int .u64 0] 25 (0, 0)) (by (with_reducible repeat (first | refine blk_drewN ?_ _ | refine blk_drew ?_ | refine blk_alloc ?_ _)); exact BK224.out)) : gb232 ≠ gb224))
                  clear HO0
                  clear HO230
                  clear BK224
                  clear HB
                  have HO0 := n0_
                  have HO230 := n1_
                  have BK224 := n2_
                  have HB := n3_
                  have BK232 := n4_
                  have GW232 := n5_
                  have GE232 := n6_
                  have NB224_232 := n7_
                  have NB232_224 := n8_
                  clear n0_ n1_ n2_ n3_ n4_ n5_ n6_ n7_ n8_
                  clear hb hbox hg
                  refine hK.out _ _ (HS0_) (fun hHeld => ?_)
                  clear hK K
                  refine norm_ (a' := ?_) ?_ ?_
                  rotate_left
                  · show Act.put _ (some 4) _ = _
                    simp only [u64_ones_, Act.put, List.setIfInBounds_toArray, List.set_cons_zero, List.set_cons_succ, i64_w, i32_w]
                    rfl
                  exact norm_ (by simp only [u64_ones_, putAll, Act.put, List.setIfInBounds_toArray, List.set_cons_zero, List.set_cons_succ]) (hCont (gb232) _ ⟨hHeld, (by (with_reducible repeat (first | apply Kd.V_alloc | apply Kd.V_drewN | apply Kd.V_drew)); exact Kd.V_mono HO0.out (fun _ hk => ⟨hk.1.1, ⟨hk.1.2, hk.2⟩⟩)), (by (with_reducible repeat (first | apply Kd.V_alloc | apply Kd.V_drewN | apply Kd.V_drew)); exact Kd.V_mono HO230.out (fun _ hk => ⟨hk.1.1, ⟨hk.1.2, hk.2⟩⟩)), (by (with_reducible repeat (first | refine blk_drewN ?_ _ | refine blk_drew ?_ | refine blk_alloc ?_ _)); exact BK224.out), (by (with_reducible repeat (first | refine blk_drewN ?_ _ | refine blk_drew ?_ | refine blk_alloc ?_ _)); exact BK232.out), GW232.out, GE232.out, NB224_232.out, NB232_224.out, (by repeat (first | (with_reducible first | exact HB.out | apply below_alloc | apply pw_below_drewN | apply below_drew1 | refine below_set ?_ GE224.out | refine below_set ?_ GE232.out) | exact HB.out))⟩)
                · skip
                  refine box_step ?hg (N := 4) ?hd (cs := #[.int .i64 0, .slice none 0 0, .int .u64 0]) (t := 25) ?hr ?_; (case hd => rfl); (case hg => rfl); (case hr => first | (go_simp; done) | (go_simp; rfl))
                  intro gb232 hg w15 hbox hb
                  have HS0_ := (hb.cell (World.block_lt_of_cell? _ _ (hHeld))).trans (hHeld)
                  have n0_ := Aside0.mk (Kd.V_below (Kd.V_elderB (by (with_reducible repeat (first | apply Kd.V_alloc | apply Kd.V_drewN | apply Kd.V_drew)); exact HO0.out) gb232 (Nat.le_of_eq hg.symm)) hb)
                  have n1_ := Aside0.mk (Kd.V_below (Kd.V_elderB (by (with_reducible repeat (first | apply Kd.V_alloc | apply Kd.V_drewN | apply Kd.V_drew)); exact HO230.out) gb232 (Nat.le_of_eq hg.symm)) hb)
                  have n2_ := Aside0.mk (blk_below (g := gb224) (o := .cells #[.int .i64 0, .slice none 0 0, .int .u64 0] 25 (0, 0)) (by (with_reducible repeat (first | refine blk_drewN ?_ _ | refine blk_drew ?_ | refine blk_alloc ?_ _)); exact BK224.out) hb)
                  have n3_ := Aside0.mk (below_step (by repeat (first | (with_reducible first | exact HB.out | apply below_alloc | apply pw_below_drewN | apply below_drew1 | refine below_set ?_ GE224.out) | exact HB.out)) hb)
                  have n4_ := Aside0.mk (hbox)
                  have n5_ := Aside0.mk ((by rw [hg]; exact (below_size (by repeat (first | (with_reducible first | exact HB.out | apply below_alloc | apply pw_below_drewN | apply below_drew1 | refine below_set ?_ GE224.out) | exact HB.out))) : w.heap.size ≤ gb232))
                  have n6_ := Aside0.mk ((by rw [hg]; exact (below_size (by repeat (first | (with_reducible first | exact HB.out | apply below_alloc | apply pw_below_drewN | apply below_drew1 | refine below_set ?_ GE224.out) | exact HB.out))) : w.heap.size ≤ gb232))
                  have n7_ := Aside0.mk ((by rw [hg]; exact Nat.ne_of_lt (blk_lt (g := gb224) (o := .cells #[.int .i64 0, .slice none 0 0, .int .u64 0] 25 (0, 0)) (by (with_reducible repeat (first | refine blk_drewN ?_ _ | refine blk_drew ?_ | refine blk_alloc ?_ _)); exact BK224.out)) : gb224 ≠ gb232))
                  have n8_ := Aside0.mk ((by rw [hg]; exact Nat.ne_of_gt (blk_lt (g := gb224) (o := .cells #[.int .i64 0, .slice none 0 0, .int .u64 0] 25 (0, 0)) (by (with_reducible repeat (first | refine blk_drewN ?_ _ | refine blk_drew ?_ | refine blk_alloc ?_ _)); exact BK224.out)) : gb232 ≠ gb224))
                  clear HO0
                  clear HO230
                  clear BK224
                  clear HB
                  have HO0 := n0_
                  have HO230 := n1_
                  have BK224 := n2_
                  have HB := n3_
                  have BK232 := n4_
                  have GW232 := n5_
                  have GE232 := n6_
                  have NB224_232 := n7_
                  have NB232_224 := n8_
                  clear n0_ n1_ n2_ n3_ n4_ n5_ n6_ n7_ n8_
                  clear hb hbox hg
                  refine hK.out _ _ (HS0_) (fun hHeld => ?_)
                  clear hK K
                  refine norm_ (a' := ?_) ?_ ?_
                  rotate_left
                  · show Act.put _ (some 4) _ = _
                    simp only [u64_ones_, Act.put, List.setIfInBounds_toArray, List.set_cons_zero, List.set_cons_succ, i64_w, i32_w]
                    rfl
                  refine one_ (i := 9) (N := some 21) #[true, true, true, true, true, true, true, true, true, true, false, false, true, false] rfl rfl (one_of HT_.out (by kernel_rfl)) (by decide) (fun K hK => ?_)
                  refine goes_ Try.func27 (by kernel_rfl) rfl #[.slice A14 y226.length c14] (by rfl) rfl rfl (by (try simp only [List.map_toArray, List.map_cons, List.map_nil]); first | done | rfl | (simp only [List.length_drop, List.length_take]; rfl)) ?_
                  with_reducible refine (stamp_get64.calls k _ _ y226 t231 _ ?side1 ?side2 A9.out).mono ?_
                  (case side1 => repeat (first | exact (Kd.V_reads' HO230.out).2.2 | (with_reducible refine Kd.C_alloc ?_ _) | (with_reducible refine Kd.C_drewN ?_ _) | (with_reducible refine Kd.C_drew ?_)))
                  (case side2 => exact (Kd.V_reads' HO230.out).2.1)
                  rintro e w' ⟨rfl, ⟨nd, rfl⟩⟩
                  refine ⟨_, rfl, ?_⟩
                  refine hK.out _ _ (hHeld) (fun hHeld => ?_)
                  clear hK K
                  refine norm_ (a' := ?_) ?_ ?_
                  rotate_left
                  · show Act.put _ (some 21) _ = _
                    simp only [u64_ones_, Act.put, List.setIfInBounds_toArray, List.set_cons_zero, List.set_cons_succ, i64_w, i32_w]
                    rfl
                  refine pure_ (i := 10) (N := some 22) (v := ?_) (a' := ?_) #[true, true, true, true, true, true, true, true, true, true, true, false, true, false] rfl rfl (any_of HT_.out (by kernel_rfl)) (fun _ _ _ h => h) (Or.inl ⟨by rfl, ?_⟩) ?_ ?_
                  rotate_left
                  · intro w'
                    go_simp
                    with_reducible rfl
                  rotate_left
                  · simp only [u64_ones_, Act.put, List.setIfInBounds_toArray, List.set_cons_zero, List.set_cons_succ, i64_w, i32_w]
                    rfl
                  refine pure_ (i := 11) (N := some 23) (v := ?_) (a' := ?_) #[true, true, true, true, true, true, true, true, true, true, true, true, true, false] rfl rfl (any_of HT_.out (by kernel_rfl)) (fun _ _ _ h => h) (Or.inl ⟨by rfl, ?_⟩) ?_ ?_
                  rotate_left
                  · intro w'
                    go_simp
                    with_reducible rfl
                  rotate_left
                  · simp only [u64_ones_, Act.put, List.setIfInBounds_toArray, List.set_cons_zero, List.set_cons_succ, i64_w, i32_w]
                    rfl
                  exact norm_ (by simp only [u64_ones_, putAll, Act.put, List.setIfInBounds_toArray, List.set_cons_zero, List.set_cons_succ]) (hCont (gb232) _ ⟨hHeld, (by (with_reducible repeat (first | apply Kd.V_alloc | apply Kd.V_drewN | apply Kd.V_drew)); exact Kd.V_mono HO0.out (fun _ hk => ⟨hk.1.1, ⟨hk.1.2, hk.2⟩⟩)), (by (with_reducible repeat (first | apply Kd.V_alloc | apply Kd.V_drewN | apply Kd.V_drew)); exact Kd.V_mono HO230.out (fun _ hk => ⟨hk.1.1, ⟨hk.1.2, hk.2⟩⟩)), (by (with_reducible repeat (first | refine blk_drewN ?_ _ | refine blk_drew ?_ | refine blk_alloc ?_ _)); exact BK224.out), (by (with_reducible repeat (first | refine blk_drewN ?_ _ | refine blk_drew ?_ | refine blk_alloc ?_ _)); exact BK232.out), GW232.out, GE232.out, NB224_232.out, NB232_224.out, (by repeat (first | (with_reducible first | exact HB.out | apply below_alloc | apply pw_below_drewN | apply below_drew1 | refine below_set ?_ GE224.out | refine below_set ?_ GE232.out) | exact HB.out))⟩)
              rintro gb232 w16 ⟨hS_, h0_, h1_, h2_, h3_, h4_, h5_, h6_, h7_, h8_⟩
              have n0_ : Aside0 (Kd.V (Kd.int .u8) 5 w16 w.heap.size (fun k_ => (P0_ k_ ∨ w.heap.size ≤ k_) ∧ k_ ≠ gb224 ∧ k_ ≠ gb232) (.slice (some ad225) l0.length c0) l0) := ⟨h0_⟩
              have n1_ : Aside0 (Kd.V (Kd.int .u8) 5 w16 w.heap.size (fun k_ => (P0_ k_ ∨ w.heap.size ≤ k_) ∧ k_ ≠ gb224 ∧ k_ ≠ gb232) (.slice A14 y226.length c14) y226) := ⟨h1_⟩
              have n2_ : Aside0 (w16.heap[gb224]? = some (.cells #[.int .i64 0, .slice none 0 0, .int .u64 0] 25 (0, 0))) := ⟨h2_⟩
              have n3_ : Aside0 (w16.heap[gb232]? = some (.cells #[.int .i64 0, .slice none 0 0, .int .u64 0] 25 (0, 0))) := ⟨h3_⟩
              have n4_ : Aside0 (w.heap.size ≤ gb232) := ⟨h4_⟩
              have n5_ : Aside0 (w.heap.size ≤ gb232) := ⟨h5_⟩
              have n6_ : Aside0 (gb224 ≠ gb232) := ⟨h6_⟩
              have n7_ : Aside0 (gb232 ≠ gb224) := ⟨h7_⟩
              have n8_ : Aside0 (Below w.heap.size w w16) := ⟨h8_⟩
              clear HO0
              clear BK224
              clear HB
              clear h0_ h1_ h2_ h3_ h4_ h5_ h6_ h7_ h8_
              have HO0 := n0_
              have HO230 := n1_
              have BK224 := n2_
              have BK232 := n3_
              have GW232 := n4_
              have GE232 := n5_
              have NB224_232 := n6_
              have NB232_224 := n7_
              have HB := n8_
              clear n0_ n1_ n2_ n3_ n4_ n5_ n6_ n7_ n8_
              have hHeld : w16.cell? ad225 = some (.int .u8 (rd l0 0)) := hS_
              refine norm_ (a' := ?_) ?_ ?_
              rotate_left
              · simp only [u64_ones_, putAll, Act.put, List.setIfInBounds_toArray, List.set_cons_zero, List.set_cons_succ]
                rfl
              refine one_ (i := 13) (N := none) #[true, true, true, true, true, true, true, true, true, true, true, true, true, true] rfl rfl (one_of HT_.out (by kernel_rfl)) (by decide) (fun K hK => ?_)
              have hs17 : w16.cell? ⟨gb232, 0, none⟩ = some (.int .i64 0) := (blk_cell BK232.out 0).trans rfl
              have hfs17 := blk_frozen BK232.out 0
              have hns17_0 := NB224_232.out
              have hms17_0 := NB232_224.out
              have hs18 : w16.cell? ⟨gb232, 1, none⟩ = some (.slice none 0 0) := (blk_cell BK232.out 1).trans rfl
              have hfs18 := blk_frozen BK232.out 1
              have hns18_0 := NB224_232.out
              have hms18_0 := NB232_224.out
              have hs19 : w16.cell? ⟨gb232, 2, none⟩ = some (.int .u64 0) := (blk_cell BK232.out 2).trans rfl
              have hfs19 := blk_frozen BK232.out 2
              have hns19_0 := NB224_232.out
              have hms19_0 := NB232_224.out
              refine skip_ (w1 := ?_) (by rfl) rfl ?_ ?_
              rotate_left
              · go_simp
                rfl
              refine hK.out _ _ (((cell_far (p := ⟨gb232, _, none⟩) (by first | exact Kd.own_blk (Kd.V_away HO0.out (fun _ hk => hk.2.2)) | (rw [add_block]; exact Kd.own_blk (Kd.V_away HO0.out (fun _ hk => hk.2.2))) | (show (Addr.add _ _).block ≠ _; rw [add_block]; exact Kd.own_blk (Kd.V_away HO0.out (fun _ hk => hk.2.2))) | (dsimp only; exact Kd.own_blk (Kd.V_away HO0.out (fun _ hk => hk.2.2)))) _).trans (((cell_far (p := ⟨gb232, _, none⟩) (by first | exact Kd.own_blk (Kd.V_away HO0.out (fun _ hk => hk.2.2)) | (rw [add_block]; exact Kd.own_blk (Kd.V_away HO0.out (fun _ hk => hk.2.2))) | (show (Addr.add _ _).block ≠ _; rw [add_block]; exact Kd.own_blk (Kd.V_away HO0.out (fun _ hk => hk.2.2))) | (dsimp only; exact Kd.own_blk (Kd.V_away HO0.out (fun _ hk => hk.2.2)))) _).trans (((cell_far (p := ⟨gb232, _, none⟩) (by first | exact Kd.own_blk (Kd.V_away HO0.out (fun _ hk => hk.2.2)) | (rw [add_block]; exact Kd.own_blk (Kd.V_away HO0.out (fun _ hk => hk.2.2))) | (show (Addr.add _ _).block ≠ _; rw [add_block]; exact Kd.own_blk (Kd.V_away HO0.out (fun _ hk => hk.2.2))) | (dsimp only; exact Kd.own_blk (Kd.V_away HO0.out (fun _ hk => hk.2.2)))) _).trans (hHeld))))))) (fun hHeld => ?_)
              clear hK K
              refine done_ (done_of HT_.out (by kernel_rfl)) ?_
              have n0_ : Aside0 (Kd.V (Kd.int .u8) 5 (((w16.setCell ⟨gb232, 0, none⟩ (.int .i64 (wrap64 (rd l0 0)))).setCell ⟨gb232, 1, none⟩ (.slice none 0 0)).setCell ⟨gb232, 2, none⟩ (.int .u64 (Go.bits .xor .u64 18446744073709551615 t231))) w.heap.size (fun k_ => (P0_ k_ ∨ w.heap.size ≤ k_) ∧ k_ ≠ gb224 ∧ k_ ≠ gb232) (.slice (some ad225) l0.length c0) l0) := ⟨by (with_reducible repeat (first | apply Kd.V_alloc | apply Kd.V_drewN | apply Kd.V_drew)); exact Kd.V_mono (Kd.V_far (p := ⟨gb232, 2, none⟩) (Kd.V_far (p := ⟨gb232, 1, none⟩) (Kd.V_far (p := ⟨gb232, 0, none⟩) (Kd.V_mono HO0.out (fun k_ hk => (⟨hk, hk.2.2⟩ : _ ∧ k_ ≠ gb232))) (fun _ hk => hk.2) (.int .i64 (wrap64 (rd l0 0)))) (fun _ hk => hk.2) (.slice none 0 0)) (fun _ hk => hk.2) (.int .u64 (Go.bits .xor .u64 18446744073709551615 t231))) (fun _ hk => ⟨hk.1.1, ⟨hk.1.2.1, hk.1.2.2⟩⟩)⟩
              have n1_ : Aside0 (Kd.V (Kd.int .u8) 5 (((w16.setCell ⟨gb232, 0, none⟩ (.int .i64 (wrap64 (rd l0 0)))).setCell ⟨gb232, 1, none⟩ (.slice none 0 0)).setCell ⟨gb232, 2, none⟩ (.int .u64 (Go.bits .xor .u64 18446744073709551615 t231))) w.heap.size (fun k_ => (P0_ k_ ∨ w.heap.size ≤ k_) ∧ k_ ≠ gb224 ∧ k_ ≠ gb232) (.slice A14 y226.length c14) y226) := ⟨by (with_reducible repeat (first | apply Kd.V_alloc | apply Kd.V_drewN | apply Kd.V_drew)); exact Kd.V_mono (Kd.V_far (p := ⟨gb232, 2, none⟩) (Kd.V_far (p := ⟨gb232, 1, none⟩) (Kd.V_far (p := ⟨gb232, 0, none⟩) (Kd.V_mono HO230.out (fun k_ hk => (⟨hk, hk.2.2⟩ : _ ∧ k_ ≠ gb232))) (fun _ hk => hk.2) (.int .i64 (wrap64 (rd l0 0)))) (fun _ hk => hk.2) (.slice none 0 0)) (fun _ hk => hk.2) (.int .u64 (Go.bits .xor .u64 18446744073709551615 t231))) (fun _ hk => ⟨hk.1.1, ⟨hk.1.2.1, hk.1.2.2⟩⟩)⟩
              have n2_ : Aside0 ((((w16.setCell ⟨gb232, 0, none⟩ (.int .i64 (wrap64 (rd l0 0)))).setCell ⟨gb232, 1, none⟩ (.slice none 0 0)).setCell ⟨gb232, 2, none⟩ (.int .u64 (Go.bits .xor .u64 18446744073709551615 t231))).heap[gb224]? = some (.cells #[.int .i64 0, .slice none 0 0, .int .u64 0] 25 (0, 0))) := ⟨by (with_reducible repeat (first | refine blk_drewN ?_ _ | refine blk_drew ?_ | refine blk_alloc ?_ _)); refine blk_far ?_ NB224_232.out _; (with_reducible repeat (first | refine blk_drewN ?_ _ | refine blk_drew ?_ | refine blk_alloc ?_ _)); refine blk_far ?_ NB224_232.out _; (with_reducible repeat (first | refine blk_drewN ?_ _ | refine blk_drew ?_ | refine blk_alloc ?_ _)); refine blk_far ?_ NB224_232.out _; (with_reducible repeat (first | refine blk_drewN ?_ _ | refine blk_drew ?_ | refine blk_alloc ?_ _)); exact BK224.out⟩
              have n3_ : Aside0 ((((w16.setCell ⟨gb232, 0, none⟩ (.int .i64 (wrap64 (rd l0 0)))).setCell ⟨gb232, 1, none⟩ (.slice none 0 0)).setCell ⟨gb232, 2, none⟩ (.int .u64 (Go.bits .xor .u64 18446744073709551615 t231))).heap[gb232]? = some (.cells #[.int .i64 (wrap64 (rd l0 0)), .slice none 0 0, .int .u64 (Go.bits .xor .u64 18446744073709551615 t231)] 25 (0, 0))) := ⟨by (with_reducible repeat (first | refine blk_drewN ?_ _ | refine blk_drew ?_ | refine blk_alloc ?_ _)); refine blk_put (cs := #[.int .i64 (wrap64 (rd l0 0)), .slice none 0 0, .int .u64 0]) ?_ 2 _ rfl; (with_reducible repeat (first | refine blk_drewN ?_ _ | refine blk_drew ?_ | refine blk_alloc ?_ _)); refine blk_put (cs := #[.int .i64 (wrap64 (rd l0 0)), .slice none 0 0, .int .u64 0]) ?_ 1 _ rfl; (with_reducible repeat (first | refine blk_drewN ?_ _ | refine blk_drew ?_ | refine blk_alloc ?_ _)); refine blk_put (cs := #[.int .i64 0, .slice none 0 0, .int .u64 0]) ?_ 0 _ rfl; (with_reducible repeat (first | refine blk_drewN ?_ _ | refine blk_drew ?_ | refine blk_alloc ?_ _)); exact BK232.out⟩
              have n4_ : Aside0 (Below w.heap.size w (((w16.setCell ⟨gb232, 0, none⟩ (.int .i64 (wrap64 (rd l0 0)))).setCell ⟨gb232, 1, none⟩ (.slice none 0 0)).setCell ⟨gb232, 2, none⟩ (.int .u64 (Go.bits .xor .u64 18446744073709551615 t231)))) := ⟨by repeat (first | (with_reducible first | exact HB.out | apply below_alloc | apply pw_below_drewN | apply below_drew1 | refine below_set ?_ GE224.out | refine below_set ?_ GE232.out) | exact HB.out)⟩
              (try clear HO0)
              (try clear HO230)
              (try clear BK224)
              (try clear BK232)
              (try clear HB)
              generalize (((w16.setCell ⟨gb232, 0, none⟩ (.int .i64 (wrap64 (rd l0 0)))).setCell ⟨gb232, 1, none⟩ (.slice none 0 0)).setCell ⟨gb232, 2, none⟩ (.int .u64 (Go.bits .xor .u64 18446744073709551615 t231))) = w20 at n0_ n1_ n2_ n3_ n4_ ⊢
              have HO0 := n0_
              have HO230 := n1_
              have BK224 := n2_
              have BK232 := n3_
              have HB := n4_
              clear n0_ n1_ n2_ n3_ n4_
              have q21 : ((wrap64 ((l0.length : Int) - 10)) : Int) ≤ ((l0.length : Int) : Int) := of_decide_eq_true (by first | (with_reducible assumption) | assumption)
              obtain ⟨i021, hi021, _, hsz21, _⟩ := info_parts info5
              have hroom21 : l0.length ≤ c0 := (Kd.V_reads' HO0.out).2.1
              have hC21 : Kd.F (Kd.int .u8) _ _ (some ad225) l0.length l0 := (Kd.V_at (base := w.heap.size) HO0.out).2.2
              have ql21 : (1 : Int) ≤ ((wrap64 ((l0.length : Int) - 10)) : Int) := of_decide_eq_true (by first | (with_reducible assumption) | assumption)
              have hcut21 := cut_mid (P := Try.prog) 22 5 .i64 .i64 Try.underlying22 hi021 1 hsz21 (some ad225) l0.length c0 1 (wrap64 ((l0.length : Int) - 10)) (by omega) ql21 q21 hroom21
              have hr21 := Kd.F_mid (lo := (1 : Int).toNat) (hi := ((wrap64 ((l0.length : Int) - 10)) : Int).toNat) (c := c0) hC21 (by omega) (by omega) hroom21
              obtain ⟨A21, hA21⟩ : ∃ A1, A1 = (if c0 = (1 : Int).toNat then (some ad225) else ((some ad225) : Option Addr).map (·.add ((1 : Int).toNat * 1))) := ⟨_, rfl⟩
              obtain ⟨c21, hc21⟩ : ∃ c1, c1 = c0 - (1 : Int).toNat := ⟨_, rfl⟩
              have hy21 : y233.length = ((wrap64 ((l0.length : Int) - 10)) : Int).toNat - (1 : Int).toNat := (by rw [Ny233.out, List.length_drop, List.length_take] <;> omega)
              rw [show ((l0).take ((wrap64 ((l0.length : Int) - 10)) : Int).toNat).drop (1 : Int).toNat = y233 from Ny233.out.symm] at hr21
              replace hr21 : Kd.F (Kd.int .u8) _ _ A21 y233.length y233 := (by rw [hA21]; exact hr21)
              rw [← hy21, ← hA21, ← hc21] at hcut21
              have HO237 := Aside0.mk (show Kd.V (Kd.int .u8) 5 _ w.heap.size _ (.slice A21 y233.length c21) y233 from Kd.V_mk (by rw [hy21, hc21]; exact Nat.sub_le_sub_right (Nat.le_trans (by omega) hroom21) _) hr21)
              have HC237 := Aside0.mk (show y233.length ≤ c21 from by rw [hy21, hc21]; exact Nat.sub_le_sub_right (Nat.le_trans (by omega) hroom21) _)
              clear hr21 hC21 hroom21 hi021 hsz21 hc21
              have KY21 := Aside0.mk hy21
              have KA21 := Aside0.mk hA21
              clear hy21 hA21
              replace q21 := eq_true q21
              try go_wp2
              go_loopg [5] k (fun kq v5 w' => ∃ (x5_1 : List Int) (x233001_1 : List Int) (u233001 : Value), Aside0 (stamp_Read.l0 kq l0 x5_1 (wrap64 (rd l0 0)) x233001_1 (Go.bits .xor .u64 18446744073709551615 t231) = some (r1, r2, r3, r4)) ∧ Aside0 (kq ≤ k) ∧ Aside0 (Kd.V (Kd.int .u8) 5 w' w.heap.size (fun k_ => (P0_ k_ ∨ w.heap.size ≤ k_) ∧ some k_ ≠ (u233001 : Value).ownBlock ∧ k_ ≠ gb224 ∧ k_ ≠ gb232) (.slice (some ad225) l0.length c0) l0) ∧ Aside0 (Kd.V (Kd.int .u8) 5 w' w.heap.size (fun k_ => (P0_ k_ ∨ w.heap.size ≤ k_) ∧ some k_ ≠ (u233001 : Value).ownBlock ∧ k_ ≠ gb224 ∧ k_ ≠ gb232) v5 x5_1) ∧ Aside0 (Kd.R (Kd.int .u8) 5 w' w.heap.size (fun k_ => (w.heap.size ≤ k_)) u233001 x233001_1) ∧ Aside0 (w'.heap[gb224]? = some (.cells #[.int .i64 0, (.slice none 0 0), .int .u64 0] 25 (0, 0))) ∧ Aside0 (w'.heap[gb232]? = some (.cells #[.int .i64 (wrap64 (rd l0 0)), u233001, .int .u64 (Go.bits .xor .u64 18446744073709551615 t231)] 25 (0, 0))) ∧ Aside0 (Below w.heap.size w w'))
              case atStart => exact ⟨(y233), (([] : List Int)), (.slice none 0 0), H', ⟨Nat.le_refl _⟩, ⟨by (with_reducible repeat (first | apply Kd.V_alloc | apply Kd.V_drewN | apply Kd.V_drew)); exact Kd.V_mono HO0.out (fun _ hk => ⟨hk.1, ⟨(by simp [Value.ownBlock]), ⟨hk.2.1, hk.2.2⟩⟩⟩)⟩, ⟨by (with_reducible repeat (first | apply Kd.V_alloc | apply Kd.V_drewN | apply Kd.V_drew)); exact Kd.V_mono HO237.out (fun _ hk => ⟨hk.1, ⟨(by simp [Value.ownBlock]), ⟨hk.2.1, hk.2.2⟩⟩⟩)⟩, ⟨by first | exact Kd.R_nil _ _ _ _ _ | exact Kd.N_nil _ _ _ _ _ | exact Kd.V_nil _ _ _ _ _ | exact Kd.Q_nil _ _ _ _ _ | exact Kd.S_nil _ _ _ _ _⟩, ⟨by (with_reducible repeat (first | refine blk_drewN ?_ _ | refine blk_drew ?_ | refine blk_alloc ?_ _)); exact BK224.out⟩, ⟨by (with_reducible repeat (first | refine blk_drewN ?_ _ | refine blk_drew ?_ | refine blk_alloc ?_ _)); exact BK232.out⟩, ⟨by repeat (first | (with_reducible first | exact HB.out | apply below_alloc | apply pw_below_drewN | apply below_drew1 | refine below_set ?_ GE224.out | refine below_set ?_ GE232.out) | exact HB.out)⟩⟩
              case round =>
                clear H'
                try clear c1
                try clear q1
                try clear c2
                try clear c2b0
                try clear c2b1
                try clear p2
                try clear q2
                try clear hx2
                try clear qi2
                try clear c5
                try clear c5b0
                try clear c5b1
                try clear p6
                try clear c7
                try clear c7b0
                try clear c7b1
                try clear c8
                try clear c8b0
                try clear c8b1
                try clear c10
                try clear c10b0
                try clear c10b1
                try clear c11
                try clear c11b0
                try clear c11b1
                try clear c14
                try clear q14
                try clear c17
                try clear c21
                try clear q21
                try clear hcz4_0
                try clear hcz4_1
                try clear hcz4_2
                try clear hfz4_0
                try clear hfz4_1
                try clear hfz4_2
                try clear hx225_0
                try clear p225
                try clear q014
                try clear q14
                try clear q21
                try clear q225
                obtain ⟨x5_1, x233001_1, u233001, HA, HK1, HO_0, HO_5, HO_233001, BK224, BK232, HB⟩ := hrel
                cases gk with
                | zero => exact absurd HA.out (by simp [stamp_Read.l0])
                | succ k1 =>
                  have H := HA.out
                  clear HA
                  simp only [stamp_Read.l0] at H
                  by_cases c22 : (x5_1.length : Int) > 0
                  · rw [if_pos c22] at H
                    have c22b0 : decide (0 < (x5_1.length : Int)) = true := decide_eq_true c22
                    have c22b1 : decide (0 < x5_1.length) = true := decide_eq_true (by omega)
                    clear c22
                    by_cases c23 : 0 < (x5_1.length : Int)
                    · rw [if_pos c23] at H
                      have c23b0 : decide (0 < (x5_1.length : Int)) = true := decide_eq_true c23
                      have c23b1 : decide (0 < x5_1.length) = true := decide_eq_true (by omega)
                      clear c23
                      by_cases c24 : x233001_1.length < 140737488355328
                      · rw [if_pos c24] at H
                        have LMc24 := Aside0.mk c24
                        clear c24
                        obtain ⟨y239, hy239⟩ : ∃ y_ : List Int, y_ = (x233001_1 ++ [rd x5_1 0]) := ⟨_, rfl⟩
                        replace H : (if (rd x5_1 0) = 0 then (if (x5_1.length : Int) > 1 then (if 1 ≤ (x5_1.length : Int) then ((some (x5_1.drop 1 : List Int)).bind fun y243 => (if 1 ≤ (y243.length : Int) then (stamp_Read.l0 k1 l0 (y243.drop 1) (wrap64 (rd l0 0)) y239 (Go.bits .xor .u64 18446744073709551615 t231)) else (none))) else (none)) else (if 1 ≤ (x5_1.length : Int) then (stamp_Read.l0 k1 l0 (x5_1.drop 1) (wrap64 (rd l0 0)) y239 (Go.bits .xor .u64 18446744073709551615 t231)) else (none))) else (if 1 ≤ (x5_1.length : Int) then (stamp_Read.l0 k1 l0 (x5_1.drop 1) (wrap64 (rd l0 0)) y239 (Go.bits .xor .u64 18446744073709551615 t231)) else (none))) = some (r1, r2, r3, r4) := by first | (rw [hy239]; with_reducible exact H) | (have H2_ := (Option.bind_some _ _).symm.trans H; rw [hy239]; with_reducible exact H2_) | (have H2_ := (Option.bind_some _ _).symm.trans H; with_reducible exact H2_) | with_reducible exact H | (rw [hy239]; exact H) | exact H
                        have Ny239 := Aside0.mk hy239
                        clear hy239
                        by_cases c25 : (rd x5_1 0) = 0
                        · rw [if_pos c25] at H
                          have c25b0 : ((rd x5_1 0) == 0) = true := beq_iff_eq.mpr c25
                          have c25b1 : ((rd x5_1 0) != 0) = false := bne_eq_false_iff_eq.mpr c25
                          clear c25
                          by_cases c26 : (x5_1.length : Int) > 1
                          · rw [if_pos c26] at H
                            have c26b0 : decide (1 < (x5_1.length : Int)) = true := decide_eq_true c26
                            have c26b1 : decide (1 < x5_1.length) = true := decide_eq_true (by omega)
                            clear c26
                            by_cases c27 : 1 ≤ (x5_1.length : Int)
                            · rw [if_pos c27] at H
                              have c27b0 := eq_true c27
                              have c27b1 : decide (1 ≤ (x5_1.length : Int)) = true := decide_eq_true c27
                              clear c27
                              obtain ⟨y243, hy243⟩ : ∃ y_ : List Int, y_ = (x5_1.drop 1) := ⟨_, rfl⟩
                              replace H : (if 1 ≤ (y243.length : Int) then (stamp_Read.l0 k1 l0 (y243.drop 1) (wrap64 (rd l0 0)) y239 (Go.bits .xor .u64 18446744073709551615 t231)) else (none)) = some (r1, r2, r3, r4) := by first | (rw [hy243]; with_reducible exact H) | (have H2_ := (Option.bind_some _ _).symm.trans H; rw [hy243]; with_reducible exact H2_) | (have H2_ := (Option.bind_some _ _).symm.trans H; with_reducible exact H2_) | with_reducible exact H | (rw [hy243]; exact H) | exact H
                              have Ny243 := Aside0.mk hy243
                              clear hy243
                              by_cases c28 : 1 ≤ (y243.length : Int)
                              · rw [if_pos c28] at H
                                have c28b0 := eq_true c28
                                have c28b1 : decide (1 ≤ (y243.length : Int)) = true := decide_eq_true c28
                                clear c28
                                obtain ⟨y248, hy248⟩ : ∃ y_ : List Int, y_ = (y243.drop 1) := ⟨_, rfl⟩
                                replace H : (stamp_Read.l0 k1 l0 y248 (wrap64 (rd l0 0)) y239 (Go.bits .xor .u64 18446744073709551615 t231)) = some (r1, r2, r3, r4) := by first | (rw [hy248]; with_reducible exact H) | (have H2_ := (Option.bind_some _ _).symm.trans H; rw [hy248]; with_reducible exact H2_) | (have H2_ := (Option.bind_some _ _).symm.trans H; with_reducible exact H2_) | with_reducible exact H | (rw [hy248]; exact H) | exact H
                                have Ny248 := Aside0.mk hy248
                                clear hy248
                                have H' := Aside0.mk H
                                clear H
                                obtain ⟨Ao29, co29, eo29⟩ := Kd.V_slice HO_5.out
                                subst eo29
                                try go_wp2
                                have n0_ := Aside0.mk (Kd.V_drew HO_0.out)
                                have n1_ := Aside0.mk (Kd.V_drew HO_5.out)
                                have n2_ := Aside0.mk (Kd.R_drew HO_233001.out)
                                have n3_ := Aside0.mk (blk_drew BK224.out)
                                have n4_ := Aside0.mk (blk_drew BK232.out)
                                have n5_ := Aside0.mk (below_drew1 HB.out)
                                clear HO_0
                                clear HO_5
                                clear HO_233001
                                clear BK224
                                clear BK232
                                clear HB
                                have HO_0 := n0_
                                have HO_5 := n1_
                                have HO_233001 := n2_
                                have BK224 := n3_
                                have BK232 := n4_
                                have HB := n5_
                                clear n0_ n1_ n2_ n3_ n4_ n5_
                                have p238 : 0 ≤ (0 : Int) := (by omega)
                                have q238 : 0 < (x5_1.length : Int) := of_decide_eq_true (by first | (with_reducible assumption) | assumption)
                                obtain ⟨ad238, e238, hx238_0⟩ := Kd.at_int (Kd.V_reads' HO_5.out).2.2 0 p238 q238
                                cases e238
                                have qi238 : (0 < x5_1.length) = True := eq_true (by omega)
                                (try rw [show ((0 : Int)).toNat = 0 from rfl] at hx238_0)
                                (try rw [Addr.add_zero'] at hx238_0)
                                replace p238 := eq_true p238
                                replace q238 := eq_true q238
                                refine start_ (n := 9) (S := fun w' => w'.cell? ⟨gb232, 0, none⟩ = some (.int .i64 (wrap64 (rd l0 0))) ∧ w'.cell? ⟨gb232, 1, none⟩ = some (u233001) ∧ w'.cell? ⟨gb232, 2, none⟩ = some (.int .u64 (Go.bits .xor .u64 18446744073709551615 t231)) ∧ w'.cell? ad238 = some (.int .u8 (rd x5_1 0))) (ds := [6, 8]) #[false, false, false, false, false, false, false, false, false] (by kernel_rfl) rfl rfl ⟨(blk_cell BK232.out 0).trans rfl, (blk_cell BK232.out 1).trans rfl, (blk_cell BK232.out 2).trans rfl, hx238_0⟩ (fun hHeld => ?_); refine with_tabW stamp_Read.tab7 stamp_Read.bits7 (fun HT_ HW_ => ?_)
                                generalize wr.drew = w30 at HO_0 HO_5 HO_233001 BK224 BK232 HB hx238_0 hHeld ⊢
                                refine pure_ (i := 0) (N := some 34) (v := ?_) (a' := ?_) #[true, false, false, false, false, false, false, false, false] rfl rfl (any_of HT_.out (by kernel_rfl)) (fun _ _ _ h => h) (Or.inl ⟨by rfl, ?_⟩) ?_ ?_
                                rotate_left
                                · intro w'
                                  go_simp
                                  with_reducible rfl
                                rotate_left
                                · simp only [u64_ones_, Act.put, List.setIfInBounds_toArray, List.set_cons_zero, List.set_cons_succ, i64_w, i32_w]
                                  rfl
                                refine pure_ (i := 2) (N := some 36) (v := ?_) (a' := ?_) #[true, false, true, false, false, false, false, false, false] rfl rfl (any_of HT_.out (by kernel_rfl)) (fun _ _ _ h => h) (Or.inl ⟨by rfl, ?_⟩) ?_ ?_
                                rotate_left
                                · intro w'
                                  go_simp
                                  with_reducible rfl
                                rotate_left
                                · simp only [u64_ones_, Act.put, List.setIfInBounds_toArray, List.set_cons_zero, List.set_cons_succ, i64_w, i32_w]
                                  rfl
                                refine pure_ (i := 3) (N := some 37) (v := ?_) (a' := ?_) #[true, false, true, true, false, false, false, false, false] rfl rfl (any_of HT_.out (by kernel_rfl)) (fun _ _ _ h => h) (Or.inl ⟨by rfl, ?_⟩) ?_ ?_
                                rotate_left
                                · intro w'
                                  go_simp
                                  with_reducible rfl
                                rotate_left
                                · simp only [u64_ones_, Act.put, List.setIfInBounds_toArray, List.set_cons_zero, List.set_cons_succ, i64_w, i32_w]
                                  rfl
                                refine take_ (i := 1) (N := some 35) (v := ?_) (a' := ?_) #[true, true, true, true, false, false, false, false, false] rfl rfl (take_ofW HT_.out HW_.out (by kernel_rfl)) (fun _ _ _ h => h) (Or.inl ⟨by rfl, ?_⟩) hHeld ?_ ?_
                                rotate_left
                                · rintro w' ⟨s0, s1, s2, s3⟩
                                  go_simp
                                  with_reducible rfl
                                rotate_left
                                · simp only [u64_ones_, Act.put, List.setIfInBounds_toArray, List.set_cons_zero, List.set_cons_succ, i64_w, i32_w]
                                  rfl
                                refine take_ (i := 4) (N := some 38) (v := ?_) (a' := ?_) #[true, true, true, true, true, false, false, false, false] rfl rfl (take_ofW HT_.out HW_.out (by kernel_rfl)) (fun _ _ _ h => h) (Or.inl ⟨by rfl, ?_⟩) hHeld ?_ ?_
                                rotate_left
                                · rintro w' ⟨s0, s1, s2, s3⟩
                                  go_simp
                                  with_reducible rfl
                                rotate_left
                                · simp only [u64_ones_, Act.put, List.setIfInBounds_toArray, List.set_cons_zero, List.set_cons_succ, i64_w, i32_w]
                                  rfl
                                refine one_ (i := 5) (N := some 39) #[true, true, true, true, true, true, false, false, false] rfl rfl (one_of HT_.out (by kernel_rfl)) (by decide) (fun K hK => ?_)
                                refine value_ (w1 := ?_) (v := ?_) (by rfl) rfl ?_ ?_
                                rotate_left 2
                                · go_simp
                                  constructor
                                  · rfl
                                  · rfl
                                refine hK.out _ _ ⟨(blk_cell (blk_alloc BK232.out _) 0).trans rfl, (blk_cell (blk_alloc BK232.out _) 1).trans rfl, (blk_cell (blk_alloc BK232.out _) 2).trans rfl, (World.cell?_alloc_lt _ _ _ (World.block_lt_of_cell? _ _ (hHeld.2.2.2))).trans (hHeld.2.2.2)⟩ (fun hHeld => ?_)
                                clear hK K
                                refine norm_ (a' := ?_) ?_ ?_
                                rotate_left
                                · show Act.put _ (some 39) _ = _
                                  simp only [u64_ones_, Act.put, List.setIfInBounds_toArray, List.set_cons_zero, List.set_cons_succ, i64_w, i32_w]
                                  rfl
                                refine last_ (i := 6) (N := some 40) #[true, true, true, true, true, true, true, false, false] rfl rfl (one_of HT_.out (by kernel_rfl)) (by decide) (fun K hK => ?_)
                                refine Kd.R_append_step (Kd.int .u8) (w0 := w) w.heap.size (by rfl) (.tmp 35) (.tmp 39) 22 5 (.int .u8 0) 1 rfl Try.underlying22 info5 rfl (by decide) (by omega) u233001 x233001_1 (rd x5_1 0) [.int .u8 (rd x5_1 0)] (fun k_ => (w.heap.size ≤ k_)) (fun _ => False) rfl rfl ?aP (fun _ hk => hk.elim) ?aF ?aO ?aB ?aS ?aL ?_
                                (case aP => exact rfl)
                                (case aB => exact (by repeat (first | (with_reducible first | exact HB.out | apply below_alloc | apply pw_below_drewN | apply below_drew1 | refine below_set ?_ GE224.out | refine below_set ?_ GE232.out) | exact HB.out)))
                                (case aF => exact (fun k_ hk => (Nat.le_trans (below_size (by repeat (first | (with_reducible first | exact HB.out | apply below_alloc | apply pw_below_drewN | apply below_drew1 | refine below_set ?_ GE224.out | refine below_set ?_ GE232.out) | exact HB.out))) hk)))
                                (case aO => exact (by (with_reducible repeat (first | apply Kd.R_alloc | apply Kd.R_drewN | apply Kd.R_drew)); exact HO_233001.out))
                                (case aS => exact (below_size (by repeat (first | (with_reducible first | exact HB.out | apply below_alloc | apply pw_below_drewN | apply below_drew1 | refine below_set ?_ GE224.out | refine below_set ?_ GE232.out) | exact HB.out))))
                                (case aL => have := LMc24.out; omega)
                                intro v240 w31 ho hb hg hat
                                rw [← Ny239.out] at ho
                                have n0_ := Aside0.mk (Kd.V_afterv (ok := (fun k_ => (P0_ k_ ∨ w.heap.size ≤ k_) ∧ k_ ≠ gb224 ∧ k_ ≠ gb232)) (by (with_reducible repeat (first | apply Kd.V_alloc | apply Kd.V_drewN | apply Kd.V_drew)); exact Kd.V_mono HO_0.out (fun _ hk => ⟨⟨hk.1, ⟨hk.2.2.1, hk.2.2.2⟩⟩, hk.2.1⟩)) hg hat)
                                have n1_ := Aside0.mk (Kd.V_afterv (ok := (fun k_ => (P0_ k_ ∨ w.heap.size ≤ k_) ∧ k_ ≠ gb224 ∧ k_ ≠ gb232)) (by (with_reducible repeat (first | apply Kd.V_alloc | apply Kd.V_drewN | apply Kd.V_drew)); exact Kd.V_mono HO_5.out (fun _ hk => ⟨⟨hk.1, ⟨hk.2.2.1, hk.2.2.2⟩⟩, hk.2.1⟩)) hg hat)
                                have n2_ := Aside0.mk (blk_grown (g := gb224) (o := .cells #[.int .i64 0, .slice none 0 0, .int .u64 0] 25 (0, 0)) (by (with_reducible repeat (first | refine blk_drewN ?_ _ | refine blk_drew ?_ | refine blk_alloc ?_ _)); exact BK224.out) hg (Kd.R_ne HO_233001.out BK224.out (by decide)))
                                have n3_ := Aside0.mk (blk_grown (g := gb232) (o := .cells #[.int .i64 (wrap64 (rd l0 0)), u233001, .int .u64 (Go.bits .xor .u64 18446744073709551615 t231)] 25 (0, 0)) (by (with_reducible repeat (first | refine blk_drewN ?_ _ | refine blk_drew ?_ | refine blk_alloc ?_ _)); exact BK232.out) hg (Kd.R_ne HO_233001.out BK232.out (by decide)))
                                have n4_ := Aside0.mk (hb)
                                have n5_ := Aside0.mk (ho)
                                clear HO_0
                                clear HO_5
                                clear BK224
                                clear BK232
                                clear HB
                                clear HO_233001
                                have HO_0 := n0_
                                have HO_5 := n1_
                                have BK224 := n2_
                                have BK232 := n3_
                                have HB := n4_
                                have HO241 := n5_
                                clear n0_ n1_ n2_ n3_ n4_ n5_
                                clear ho hb hg hat
                                obtain ⟨Ao32, co32, eo32⟩ := Kd.R_slice HO241.out
                                (first | subst eo32 | (injection eo32 with f1_ f2_ f3_; have f4_ := f1_.symm; have f5_ := f3_.symm; clear f1_ f2_ f3_; subst f4_; subst f5_))
                                refine hK.out _ _ ?_
                                clear hK K
                                refine norm_ (a' := ?_) ?_ ?_
                                rotate_left
                                · show Act.put _ (some 40) _ = _
                                  simp only [u64_ones_, Act.put, List.setIfInBounds_toArray, List.set_cons_zero, List.set_cons_succ, i64_w, i32_w]
                                  rfl
                                refine pure_ (i := 7) (N := some 41) (v := ?_) (a' := ?_) #[true, true, true, true, true, true, true, true, false] rfl rfl (any_of HT_.out (by kernel_rfl)) (fun _ _ _ h => h) (Or.inl ⟨by rfl, ?_⟩) ?_ ?_
                                rotate_left
                                · intro w'
                                  go_simp
                                  with_reducible rfl
                                rotate_left
                                · simp only [u64_ones_, Act.put, List.setIfInBounds_toArray, List.set_cons_zero, List.set_cons_succ, i64_w, i32_w]
                                  rfl
                                refine last_ (i := 8) (N := none) #[true, true, true, true, true, true, true, true, true] rfl rfl (one_of HT_.out (by kernel_rfl)) (by decide) (fun K hK => ?_)
                                have hs33 : w31.cell? ⟨gb232, 1, none⟩ = some (u233001) := (blk_cell BK232.out 1).trans rfl
                                have hfs33 := blk_frozen BK232.out 1
                                have hns33_0 := NB224_232.out
                                have hms33_0 := NB232_224.out
                                refine skip_ (w1 := ?_) (by rfl) rfl ?_ ?_
                                rotate_left
                                · go_simp
                                  rfl
                                refine hK.out _ _ ?_
                                clear hK K
                                refine done_ (done_of HT_.out (by kernel_rfl)) ?_
                                have n0_ : Aside0 (Kd.V (Kd.int .u8) 5 (w31.setCell ⟨gb232, 1, none⟩ (.slice Ao32 y239.length co32)) w.heap.size (fun k_ => (P0_ k_ ∨ w.heap.size ≤ k_) ∧ some k_ ≠ (.slice Ao32 y239.length co32 : Value).ownBlock ∧ k_ ≠ gb224 ∧ k_ ≠ gb232) (.slice (some ad225) l0.length c0) l0) := ⟨by (with_reducible repeat (first | apply Kd.V_alloc | apply Kd.V_drewN | apply Kd.V_drew)); exact Kd.V_mono (Kd.V_far (p := ⟨gb232, 1, none⟩) (Kd.V_mono HO_0.out (fun k_ hk => (⟨hk, hk.1.2.2⟩ : _ ∧ k_ ≠ gb232))) (fun _ hk => hk.2) (.slice Ao32 y239.length co32)) (fun _ hk => ⟨hk.1.1.1, ⟨hk.1.2, ⟨hk.1.1.2.1, hk.1.1.2.2⟩⟩⟩)⟩
                                have n1_ : Aside0 (Kd.V (Kd.int .u8) 5 (w31.setCell ⟨gb232, 1, none⟩ (.slice Ao32 y239.length co32)) w.heap.size (fun k_ => (P0_ k_ ∨ w.heap.size ≤ k_) ∧ some k_ ≠ (.slice Ao32 y239.length co32 : Value).ownBlock ∧ k_ ≠ gb224 ∧ k_ ≠ gb232) (.slice (some ad238) x5_1.length co29) x5_1) := ⟨by (with_reducible repeat (first | apply Kd.V_alloc | apply Kd.V_drewN | apply Kd.V_drew)); exact Kd.V_mono (Kd.V_far (p := ⟨gb232, 1, none⟩) (Kd.V_mono HO_5.out (fun k_ hk => (⟨hk, hk.1.2.2⟩ : _ ∧ k_ ≠ gb232))) (fun _ hk => hk.2) (.slice Ao32 y239.length co32)) (fun _ hk => ⟨hk.1.1.1, ⟨hk.1.2, ⟨hk.1.1.2.1, hk.1.1.2.2⟩⟩⟩)⟩
                                have n2_ : Aside0 (Kd.R (Kd.int .u8) 5 (w31.setCell ⟨gb232, 1, none⟩ (.slice Ao32 y239.length co32)) w.heap.size (fun k_ => (w.heap.size ≤ k_)) (.slice Ao32 y239.length co32) y239) := ⟨by (with_reducible repeat (first | apply Kd.R_alloc | apply Kd.R_drewN | apply Kd.R_drew)); exact Kd.R_mono (Kd.R_far (p := ⟨gb232, 1, none⟩) (Kd.R_types HO241.out BK232.out (by decide)) (fun _ hk => hk.2) (.slice Ao32 y239.length co32)) (fun _ hk => hk.1)⟩
                                have n3_ : Aside0 ((w31.setCell ⟨gb232, 1, none⟩ (.slice Ao32 y239.length co32)).heap[gb224]? = some (.cells #[.int .i64 0, .slice none 0 0, .int .u64 0] 25 (0, 0))) := ⟨by (with_reducible repeat (first | refine blk_drewN ?_ _ | refine blk_drew ?_ | refine blk_alloc ?_ _)); refine blk_far ?_ NB224_232.out _; (with_reducible repeat (first | refine blk_drewN ?_ _ | refine blk_drew ?_ | refine blk_alloc ?_ _)); exact BK224.out⟩
                                have n4_ : Aside0 ((w31.setCell ⟨gb232, 1, none⟩ (.slice Ao32 y239.length co32)).heap[gb232]? = some (.cells #[.int .i64 (wrap64 (rd l0 0)), .slice Ao32 y239.length co32, .int .u64 (Go.bits .xor .u64 18446744073709551615 t231)] 25 (0, 0))) := ⟨by (with_reducible repeat (first | refine blk_drewN ?_ _ | refine blk_drew ?_ | refine blk_alloc ?_ _)); refine blk_put (cs := #[.int .i64 (wrap64 (rd l0 0)), u233001, .int .u64 (Go.bits .xor .u64 18446744073709551615 t231)]) ?_ 1 _ rfl; (with_reducible repeat (first | refine blk_drewN ?_ _ | refine blk_drew ?_ | refine blk_alloc ?_ _)); exact BK232.out⟩
                                have n5_ : Aside0 (Below w.heap.size w (w31.setCell ⟨gb232, 1, none⟩ (.slice Ao32 y239.length co32))) := ⟨by repeat (first | (with_reducible first | exact HB.out | apply below_alloc | apply pw_below_drewN | apply below_drew1 | refine below_set ?_ GE224.out | refine below_set ?_ GE232.out) | exact HB.out)⟩
                                (try clear HO_0)
                                (try clear HO_5)
                                (try clear HO241)
                                (try clear BK224)
                                (try clear BK232)
                                (try clear HB)
                                generalize (w31.setCell ⟨gb232, 1, none⟩ (.slice Ao32 y239.length co32)) = w34 at n0_ n1_ n2_ n3_ n4_ n5_ ⊢
                                have HO_0 := n0_
                                have HO_5 := n1_
                                have HO241 := n2_
                                have BK224 := n3_
                                have BK232 := n4_
                                have HB := n5_
                                clear n0_ n1_ n2_ n3_ n4_ n5_
                                have p242 : 0 ≤ (0 : Int) := (by omega)
                                have q242 : 0 < (x5_1.length : Int) := of_decide_eq_true (by first | (with_reducible assumption) | assumption)
                                obtain ⟨ad242, e242, hx242_0⟩ := Kd.at_int (Kd.V_reads' HO_5.out).2.2 0 p242 q242
                                obtain rfl : ad238 = ad242 := (by injection e242)
                                have qi242 : (0 < x5_1.length) = True := eq_true (by omega)
                                (try rw [show ((0 : Int)).toNat = 0 from rfl] at hx242_0)
                                (try rw [Addr.add_zero'] at hx242_0)
                                replace p242 := eq_true p242
                                replace q242 := eq_true q242
                                have q35 : (1 : Int) ≤ ((x5_1.length : Int) : Int) := of_decide_eq_true (by first | (with_reducible assumption) | assumption)
                                obtain ⟨i035, hi035, _, hsz35, _⟩ := info_parts info5
                                have hroom35 : x5_1.length ≤ co29 := (Kd.V_reads' HO_5.out).2.1
                                have hC35 : Kd.F (Kd.int .u8) _ _ (some ad238) x5_1.length x5_1 := (Kd.V_at (base := w.heap.size) HO_5.out).2.2
                                have hcut35 := cut_from (P := Try.prog) 22 5 .i64 Try.underlying22 hi035 1 hsz35 (some ad238) x5_1.length co29 1 (by omega) q35
                                have hr35 := Kd.F_cut (m := (1 : Int).toNat) (c := co29) hC35 (by omega) hroom35
                                obtain ⟨A35, hA35⟩ : ∃ A1, A1 = (if co29 = (1 : Int).toNat then (some ad238) else ((some ad238) : Option Addr).map (·.add ((1 : Int).toNat * 1))) := ⟨_, rfl⟩
                                obtain ⟨c35, hc35⟩ : ∃ c1, c1 = co29 - (1 : Int).toNat := ⟨_, rfl⟩
                                have hy35 : y243.length = x5_1.length - (1 : Int).toNat := (by rw [Ny243.out, List.length_drop] <;> omega)
                                rw [show (x5_1).drop (1 : Int).toNat = y243 from Ny243.out.symm] at hr35
                                replace hr35 : Kd.F (Kd.int .u8) _ _ A35 y243.length y243 := (by rw [hA35]; exact hr35)
                                rw [← hy35, ← hA35, ← hc35] at hcut35
                                have HO247 := Aside0.mk (show Kd.V (Kd.int .u8) 5 _ w.heap.size _ (.slice A35 y243.length c35) y243 from Kd.V_mk (by rw [hy35, hc35]; exact Nat.sub_le_sub_right hroom35 _) hr35)
                                have HC247 := Aside0.mk (show y243.length ≤ c35 from by rw [hy35, hc35]; exact Nat.sub_le_sub_right hroom35 _)
                                clear hr35 hC35 hroom35 hi035 hsz35 hc35
                                have KY35 := Aside0.mk hy35
                                have KA35 := Aside0.mk hA35
                                clear hy35 hA35
                                replace q35 := eq_true q35
                                have q36 : (1 : Int) ≤ ((y243.length : Int) : Int) := of_decide_eq_true (by first | (with_reducible assumption) | assumption)
                                obtain ⟨i036, hi036, _, hsz36, _⟩ := info_parts info5
                                have hroom36 : y243.length ≤ c35 := (Kd.V_reads' HO247.out).2.1
                                have hC36 : Kd.F (Kd.int .u8) _ _ A35 y243.length y243 := (Kd.V_at (base := w.heap.size) HO247.out).2.2
                                have hcut36 := cut_from (P := Try.prog) 22 5 .i64 Try.underlying22 hi036 1 hsz36 A35 y243.length c35 1 (by omega) q36
                                have hr36 := Kd.F_cut (m := (1 : Int).toNat) (c := c35) hC36 (by omega) hroom36
                                obtain ⟨A36, hA36⟩ : ∃ A1, A1 = (if c35 = (1 : Int).toNat then A35 else (A35 : Option Addr).map (·.add ((1 : Int).toNat * 1))) := ⟨_, rfl⟩
                                obtain ⟨c36, hc36⟩ : ∃ c1, c1 = c35 - (1 : Int).toNat := ⟨_, rfl⟩
                                have hy36 : y248.length = y243.length - (1 : Int).toNat := (by rw [Ny248.out, List.length_drop] <;> omega)
                                rw [show (y243).drop (1 : Int).toNat = y248 from Ny248.out.symm] at hr36
                                replace hr36 : Kd.F (Kd.int .u8) _ _ A36 y248.length y248 := (by rw [hA36]; exact hr36)
                                rw [← hy36, ← hA36, ← hc36] at hcut36
                                have HO252 := Aside0.mk (show Kd.V (Kd.int .u8) 5 _ w.heap.size _ (.slice A36 y248.length c36) y248 from Kd.V_mk (by rw [hy36, hc36]; exact Nat.sub_le_sub_right hroom36 _) hr36)
                                have HC252 := Aside0.mk (show y248.length ≤ c36 from by rw [hy36, hc36]; exact Nat.sub_le_sub_right hroom36 _)
                                clear hr36 hC36 hroom36 hi036 hsz36 hc36
                                have KY36 := Aside0.mk hy36
                                have KA36 := Aside0.mk hA36
                                clear hy36 hA36
                                replace q36 := eq_true q36
                                try go_wp2
                                go_roundg k1
                                case measure => have := HK1.out; omega
                                case rel => exact ⟨(y248), (y239), (.slice Ao32 y239.length co32), H', ⟨by have := HK1.out; omega⟩, ⟨by (with_reducible repeat (first | apply Kd.V_alloc | apply Kd.V_drewN | apply Kd.V_drew)); exact HO_0.out⟩, ⟨by (with_reducible repeat (first | apply Kd.V_alloc | apply Kd.V_drewN | apply Kd.V_drew)); exact HO252.out⟩, ⟨by (with_reducible repeat (first | apply Kd.R_alloc | apply Kd.R_drewN | apply Kd.R_drew)); exact HO241.out⟩, ⟨by (with_reducible repeat (first | refine blk_drewN ?_ _ | refine blk_drew ?_ | refine blk_alloc ?_ _)); exact BK224.out⟩, ⟨by (with_reducible repeat (first | refine blk_drewN ?_ _ | refine blk_drew ?_ | refine blk_alloc ?_ _)); exact BK232.out⟩, ⟨by repeat (first | (with_reducible first | exact HB.out | apply below_alloc | apply pw_below_drewN | apply below_drew1 | refine below_set ?_ GE224.out | refine below_set ?_ GE232.out) | exact HB.out)⟩⟩
                              · rw [if_neg c28] at H
                                exact absurd H (by simp)
                            · rw [if_neg c27] at H
                              exact absurd H (by simp)
                          · rw [if_neg c26] at H
                            have c26b0 : decide (1 < (x5_1.length : Int)) = false := decide_eq_false c26
                            have c26b1 : decide (1 < x5_1.length) = false := decide_eq_false (by omega)
                            clear c26
                            by_cases c37 : 1 ≤ (x5_1.length : Int)
                            · rw [if_pos c37] at H
                              have c37b0 := eq_true c37
                              have c37b1 : decide (1 ≤ (x5_1.length : Int)) = true := decide_eq_true c37
                              clear c37
                              obtain ⟨y253, hy253⟩ : ∃ y_ : List Int, y_ = (x5_1.drop 1) := ⟨_, rfl⟩
                              replace H : (stamp_Read.l0 k1 l0 y253 (wrap64 (rd l0 0)) y239 (Go.bits .xor .u64 18446744073709551615 t231)) = some (r1, r2, r3, r4) := by first | (rw [hy253]; with_reducible exact H) | (have H2_ := (Option.bind_some _ _).symm.trans H; rw [hy253]; with_reducible exact H2_) | (have H2_ := (Option.bind_some _ _).symm.trans H; with_reducible exact H2_) | with_reducible exact H | (rw [hy253]; exact H) | exact H
                              have Ny253 := Aside0.mk hy253
                              clear hy253
                              have H' := Aside0.mk H
                              clear H
                              obtain ⟨Ao38, co38, eo38⟩ := Kd.V_slice HO_5.out
                              subst eo38
                              try go_wp2
                              have n0_ := Aside0.mk (Kd.V_drew HO_0.out)
                              have n1_ := Aside0.mk (Kd.V_drew HO_5.out)
                              have n2_ := Aside0.mk (Kd.R_drew HO_233001.out)
                              have n3_ := Aside0.mk (blk_drew BK224.out)
                              have n4_ := Aside0.mk (blk_drew BK232.out)
                              have n5_ := Aside0.mk (below_drew1 HB.out)
                              clear HO_0
                              clear HO_5
                              clear HO_233001
                              clear BK224
                              clear BK232
                              clear HB
                              have HO_0 := n0_
                              have HO_5 := n1_
                              have HO_233001 := n2_
                              have BK224 := n3_
                              have BK232 := n4_
                              have HB := n5_
                              clear n0_ n1_ n2_ n3_ n4_ n5_
                              have p238 : 0 ≤ (0 : Int) := (by omega)
                              have q238 : 0 < (x5_1.length : Int) := of_decide_eq_true (by first | (with_reducible assumption) | assumption)
                              obtain ⟨ad238, e238, hx238_0⟩ := Kd.at_int (Kd.V_reads' HO_5.out).2.2 0 p238 q238
                              cases e238
                              have qi238 : (0 < x5_1.length) = True := eq_true (by omega)
                              (try rw [show ((0 : Int)).toNat = 0 from rfl] at hx238_0)
                              (try rw [Addr.add_zero'] at hx238_0)
                              replace p238 := eq_true p238
                              replace q238 := eq_true q238
                              refine start_ (n := 9) (S := fun w' => w'.cell? ⟨gb232, 0, none⟩ = some (.int .i64 (wrap64 (rd l0 0))) ∧ w'.cell? ⟨gb232, 1, none⟩ = some (u233001) ∧ w'.cell? ⟨gb232, 2, none⟩ = some (.int .u64 (Go.bits .xor .u64 18446744073709551615 t231)) ∧ w'.cell? ad238 = some (.int .u8 (rd x5_1 0))) (ds := [6, 8]) #[false, false, false, false, false, false, false, false, false] (by kernel_rfl) rfl rfl ⟨(blk_cell BK232.out 0).trans rfl, (blk_cell BK232.out 1).trans rfl, (blk_cell BK232.out 2).trans rfl, hx238_0⟩ (fun hHeld => ?_); refine with_tabW stamp_Read.tab7 stamp_Read.bits7 (fun HT_ HW_ => ?_)
                              generalize wr.drew = w39 at HO_0 HO_5 HO_233001 BK224 BK232 HB hx238_0 hHeld ⊢
                              refine pure_ (i := 0) (N := some 34) (v := ?_) (a' := ?_) #[true, false, false, false, false, false, false, false, false] rfl rfl (any_of HT_.out (by kernel_rfl)) (fun _ _ _ h => h) (Or.inl ⟨by rfl, ?_⟩) ?_ ?_
                              rotate_left
                              · intro w'
                                go_simp
                                with_reducible rfl
                              rotate_left
                              · simp only [u64_ones_, Act.put, List.setIfInBounds_toArray, List.set_cons_zero, List.set_cons_succ, i64_w, i32_w]
                                rfl
                              refine pure_ (i := 2) (N := some 36) (v := ?_) (a' := ?_) #[true, false, true, false, false, false, false, false, false] rfl rfl (any_of HT_.out (by kernel_rfl)) (fun _ _ _ h => h) (Or.inl ⟨by rfl, ?_⟩) ?_ ?_
                              rotate_left
                              · intro w'
                                go_simp
                                with_reducible rfl
                              rotate_left
                              · simp only [u64_ones_, Act.put, List.setIfInBounds_toArray, List.set_cons_zero, List.set_cons_succ, i64_w, i32_w]
                                rfl
                              refine pure_ (i := 3) (N := some 37) (v := ?_) (a' := ?_) #[true, false, true, true, false, false, false, false, false] rfl rfl (any_of HT_.out (by kernel_rfl)) (fun _ _ _ h => h) (Or.inl ⟨by rfl, ?_⟩) ?_ ?_
                              rotate_left
                              · intro w'
                                go_simp
                                with_reducible rfl
                              rotate_left
                              · simp only [u64_ones_, Act.put, List.setIfInBounds_toArray, List.set_cons_zero, List.set_cons_succ, i64_w, i32_w]
                                rfl
                              refine take_ (i := 1) (N := some 35) (v := ?_) (a' := ?_) #[true, true, true, true, false, false, false, false, false] rfl rfl (take_ofW HT_.out HW_.out (by kernel_rfl)) (fun _ _ _ h => h) (Or.inl ⟨by rfl, ?_⟩) hHeld ?_ ?_
                              rotate_left
                              · rintro w' ⟨s0, s1, s2, s3⟩
                                go_simp
                                with_reducible rfl
                              rotate_left
                              · simp only [u64_ones_, Act.put, List.setIfInBounds_toArray, List.set_cons_zero, List.set_cons_succ, i64_w, i32_w]
                                rfl
                              refine take_ (i := 4) (N := some 38) (v := ?_) (a' := ?_) #[true, true, true, true, true, false, false, false, false] rfl rfl (take_ofW HT_.out HW_.out (by kernel_rfl)) (fun _ _ _ h => h) (Or.inl ⟨by rfl, ?_⟩) hHeld ?_ ?_
                              rotate_left
                              · rintro w' ⟨s0, s1, s2, s3⟩
                                go_simp
                                with_reducible rfl
                              rotate_left
                              · simp only [u64_ones_, Act.put, List.setIfInBounds_toArray, List.set_cons_zero, List.set_cons_succ, i64_w, i32_w]
                                rfl
                              refine one_ (i := 5) (N := some 39) #[true, true, true, true, true, true, false, false, false] rfl rfl (one_of HT_.out (by kernel_rfl)) (by decide) (fun K hK => ?_)
                              refine value_ (w1 := ?_) (v := ?_) (by rfl) rfl ?_ ?_
                              rotate_left 2
                              · go_simp
                                constructor
                                · rfl
                                · rfl
                              refine hK.out _ _ ⟨(blk_cell (blk_alloc BK232.out _) 0).trans rfl, (blk_cell (blk_alloc BK232.out _) 1).trans rfl, (blk_cell (blk_alloc BK232.out _) 2).trans rfl, (World.cell?_alloc_lt _ _ _ (World.block_lt_of_cell? _ _ (hHeld.2.2.2))).trans (hHeld.2.2.2)⟩ (fun hHeld => ?_)
                              clear hK K
                              refine norm_ (a' := ?_) ?_ ?_
                              rotate_left
                              · show Act.put _ (some 39) _ = _
                                simp only [u64_ones_, Act.put, List.setIfInBounds_toArray, List.set_cons_zero, List.set_cons_succ, i64_w, i32_w]
                                rfl
                              refine last_ (i := 6) (N := some 40) #[true, true, true, true, true, true, true, false, false] rfl rfl (one_of HT_.out (by kernel_rfl)) (by decide) (fun K hK => ?_)
                              refine Kd.R_append_step (Kd.int .u8) (w0 := w) w.heap.size (by rfl) (.tmp 35) (.tmp 39) 22 5 (.int .u8 0) 1 rfl Try.underlying22 info5 rfl (by decide) (by omega) u233001 x233001_1 (rd x5_1 0) [.int .u8 (rd x5_1 0)] (fun k_ => (w.heap.size ≤ k_)) (fun _ => False) rfl rfl ?aP (fun _ hk => hk.elim) ?aF ?aO ?aB ?aS ?aL ?_
                              (case aP => exact rfl)
                              (case aB => exact (by repeat (first | (with_reducible first | exact HB.out | apply below_alloc | apply pw_below_drewN | apply below_drew1 | refine below_set ?_ GE224.out | refine below_set ?_ GE232.out) | exact HB.out)))
                              (case aF => exact (fun k_ hk => (Nat.le_trans (below_size (by repeat (first | (with_reducible first | exact HB.out | apply below_alloc | apply pw_below_drewN | apply below_drew1 | refine below_set ?_ GE224.out | refine below_set ?_ GE232.out) | exact HB.out))) hk)))
                              (case aO => exact (by (with_reducible repeat (first | apply Kd.R_alloc | apply Kd.R_drewN | apply Kd.R_drew)); exact HO_233001.out))
                              (case aS => exact (below_size (by repeat (first | (with_reducible first | exact HB.out | apply below_alloc | apply pw_below_drewN | apply below_drew1 | refine below_set ?_ GE224.out | refine below_set ?_ GE232.out) | exact HB.out))))
                              (case aL => have := LMc24.out; omega)
                              intro v240 w40 ho hb hg hat
                              rw [← Ny239.out] at ho
                              have n0_ := Aside0.mk (Kd.V_afterv (ok := (fun k_ => (P0_ k_ ∨ w.heap.size ≤ k_) ∧ k_ ≠ gb224 ∧ k_ ≠ gb232)) (by (with_reducible repeat (first | apply Kd.V_alloc | apply Kd.V_drewN | apply Kd.V_drew)); exact Kd.V_mono HO_0.out (fun _ hk => ⟨⟨hk.1, ⟨hk.2.2.1, hk.2.2.2⟩⟩, hk.2.1⟩)) hg hat)
                              have n1_ := Aside0.mk (Kd.V_afterv (ok := (fun k_ => (P0_ k_ ∨ w.heap.size ≤ k_) ∧ k_ ≠ gb224 ∧ k_ ≠ gb232)) (by (with_reducible repeat (first | apply Kd.V_alloc | apply Kd.V_drewN | apply Kd.V_drew)); exact Kd.V_mono HO_5.out (fun _ hk => ⟨⟨hk.1, ⟨hk.2.2.1, hk.2.2.2⟩⟩, hk.2.1⟩)) hg hat)
                              have n2_ := Aside0.mk (blk_grown (g := gb224) (o := .cells #[.int .i64 0, .slice none 0 0, .int .u64 0] 25 (0, 0)) (by (with_reducible repeat (first | refine blk_drewN ?_ _ | refine blk_drew ?_ | refine blk_alloc ?_ _)); exact BK224.out) hg (Kd.R_ne HO_233001.out BK224.out (by decide)))
                              have n3_ := Aside0.mk (blk_grown (g := gb232) (o := .cells #[.int .i64 (wrap64 (rd l0 0)), u233001, .int .u64 (Go.bits .xor .u64 18446744073709551615 t231)] 25 (0, 0)) (by (with_reducible repeat (first | refine blk_drewN ?_ _ | refine blk_drew ?_ | refine blk_alloc ?_ _)); exact BK232.out) hg (Kd.R_ne HO_233001.out BK232.out (by decide)))
                              have n4_ := Aside0.mk (hb)
                              have n5_ := Aside0.mk (ho)
                              clear HO_0
                              clear HO_5
                              clear BK224
                              clear BK232
                              clear HB
                              clear HO_233001
                              have HO_0 := n0_
                              have HO_5 := n1_
                              have BK224 := n2_
                              have BK232 := n3_
                              have HB := n4_
                              have HO241 := n5_
                              clear n0_ n1_ n2_ n3_ n4_ n5_
                              clear ho hb hg hat
                              obtain ⟨Ao41, co41, eo41⟩ := Kd.R_slice HO241.out
                              (first | subst eo41 | (injection eo41 with f1_ f2_ f3_; have f4_ := f1_.symm; have f5_ := f3_.symm; clear f1_ f2_ f3_; subst f4_; subst f5_))
                              refine hK.out _ _ ?_
                              clear hK K
                              refine norm_ (a' := ?_) ?_ ?_
                              rotate_left
                              · show Act.put _ (some 40) _ = _
                                simp only [u64_ones_, Act.put, List.setIfInBounds_toArray, List.set_cons_zero, List.set_cons_succ, i64_w, i32_w]
                                rfl
                              refine pure_ (i := 7) (N := some 41) (v := ?_) (a' := ?_) #[true, true, true, true, true, true, true, true, false] rfl rfl (any_of HT_.out (by kernel_rfl)) (fun _ _ _ h => h) (Or.inl ⟨by rfl, ?_⟩) ?_ ?_
                              rotate_left
                              · intro w'
                                go_simp
                                with_reducible rfl
                              rotate_left
                              · simp only [u64_ones_, Act.put, List.setIfInBounds_toArray, List.set_cons_zero, List.set_cons_succ, i64_w, i32_w]
                                rfl
                              refine last_ (i := 8) (N := none) #[true, true, true, true, true, true, true, true, true] rfl rfl (one_of HT_.out (by kernel_rfl)) (by decide) (fun K hK => ?_)
                              have hs42 : w40.cell? ⟨gb232, 1, none⟩ = some (u233001) := (blk_cell BK232.out 1).trans rfl
                              have hfs42 := blk_frozen BK232.out 1
                              have hns42_0 := NB224_232.out
                              have hms42_0 := NB232_224.out
                              refine skip_ (w1 := ?_) (by rfl) rfl ?_ ?_
                              rotate_left
                              · go_simp
                                rfl
                              refine hK.out _ _ ?_
                              clear hK K
                              refine done_ (done_of HT_.out (by kernel_rfl)) ?_
                              have n0_ : Aside0 (Kd.V (Kd.int .u8) 5 (w40.setCell ⟨gb232, 1, none⟩ (.slice Ao41 y239.length co41)) w.heap.size (fun k_ => (P0_ k_ ∨ w.heap.size ≤ k_) ∧ some k_ ≠ (.slice Ao41 y239.length co41 : Value).ownBlock ∧ k_ ≠ gb224 ∧ k_ ≠ gb232) (.slice (some ad225) l0.length c0) l0) := ⟨by (with_reducible repeat (first | apply Kd.V_alloc | apply Kd.V_drewN | apply Kd.V_drew)); exact Kd.V_mono (Kd.V_far (p := ⟨gb232, 1, none⟩) (Kd.V_mono HO_0.out (fun k_ hk => (⟨hk, hk.1.2.2⟩ : _ ∧ k_ ≠ gb232))) (fun _ hk => hk.2) (.slice Ao41 y239.length co41)) (fun _ hk => ⟨hk.1.1.1, ⟨hk.1.2, ⟨hk.1.1.2.1, hk.1.1.2.2⟩⟩⟩)⟩
                              have n1_ : Aside0 (Kd.V (Kd.int .u8) 5 (w40.setCell ⟨gb232, 1, none⟩ (.slice Ao41 y239.length co41)) w.heap.size (fun k_ => (P0_ k_ ∨ w.heap.size ≤ k_) ∧ some k_ ≠ (.slice Ao41 y239.length co41 : Value).ownBlock ∧ k_ ≠ gb224 ∧ k_ ≠ gb232) (.slice (some ad238) x5_1.length co38) x5_1) := ⟨by (with_reducible repeat (first | apply Kd.V_alloc | apply Kd.V_drewN | apply Kd.V_drew)); exact Kd.V_mono (Kd.V_far (p := ⟨gb232, 1, none⟩) (Kd.V_mono HO_5.out (fun k_ hk => (⟨hk, hk.1.2.2⟩ : _ ∧ k_ ≠ gb232))) (fun _ hk => hk.2) (.slice Ao41 y239.length co41)) (fun _ hk => ⟨hk.1.1.1, ⟨hk.1.2, ⟨hk.1.1.2.1, hk.1.1.2.2⟩⟩⟩)⟩
                              have n2_ : Aside0 (Kd.R (Kd.int .u8) 5 (w40.setCell ⟨gb232, 1, none⟩ (.slice Ao41 y239.length co41)) w.heap.size (fun k_ => (w.heap.size ≤ k_)) (.slice Ao41 y239.length co41) y239) := ⟨by (with_reducible repeat (first | apply Kd.R_alloc | apply Kd.R_drewN | apply Kd.R_drew)); exact Kd.R_mono (Kd.R_far (p := ⟨gb232, 1, none⟩) (Kd.R_types HO241.out BK232.out (by decide)) (fun _ hk => hk.2) (.slice Ao41 y239.length co41)) (fun _ hk => hk.1)⟩
                              have n3_ : Aside0 ((w40.setCell ⟨gb232, 1, none⟩ (.slice Ao41 y239.length co41)).heap[gb224]? = some (.cells #[.int .i64 0, .slice none 0 0, .int .u64 0] 25 (0, 0))) := ⟨by (with_reducible repeat (first | refine blk_drewN ?_ _ | refine blk_drew ?_ | refine blk_alloc ?_ _)); refine blk_far ?_ NB224_232.out _; (with_reducible repeat (first | refine blk_drewN ?_ _ | refine blk_drew ?_ | refine blk_alloc ?_ _)); exact BK224.out⟩
                              have n4_ : Aside0 ((w40.setCell ⟨gb232, 1, none⟩ (.slice Ao41 y239.length co41)).heap[gb232]? = some (.cells #[.int .i64 (wrap64 (rd l0 0)), .slice Ao41 y239.length co41, .int .u64 (Go.bits .xor .u64 18446744073709551615 t231)] 25 (0, 0))) := ⟨by (with_reducible repeat (first | refine blk_drewN ?_ _ | refine blk_drew ?_ | refine blk_alloc ?_ _)); refine blk_put (cs := #[.int .i64 (wrap64 (rd l0 0)), u233001, .int .u64 (Go.bits .xor .u64 18446744073709551615 t231)]) ?_ 1 _ rfl; (with_reducible repeat (first | refine blk_drewN ?_ _ | refine blk_drew ?_ | refine blk_alloc ?_ _)); exact BK232.out⟩
                              have n5_ : Aside0 (Below w.heap.size w (w40.setCell ⟨gb232, 1, none⟩ (.slice Ao41 y239.length co41))) := ⟨by repeat (first | (with_reducible first | exact HB.out | apply below_alloc | apply pw_below_drewN | apply below_drew1 | refine below_set ?_ GE224.out | refine below_set ?_ GE232.out) | exact HB.out)⟩
                              (try clear HO_0)
                              (try clear HO_5)
                              (try clear HO241)
                              (try clear BK224)
                              (try clear BK232)
                              (try clear HB)
                              generalize (w40.setCell ⟨gb232, 1, none⟩ (.slice Ao41 y239.length co41)) = w43 at n0_ n1_ n2_ n3_ n4_ n5_ ⊢
                              have HO_0 := n0_
                              have HO_5 := n1_
                              have HO241 := n2_
                              have BK224 := n3_
                              have BK232 := n4_
                              have HB := n5_
                              clear n0_ n1_ n2_ n3_ n4_ n5_
                              have p242 : 0 ≤ (0 : Int) := (by omega)
                              have q242 : 0 < (x5_1.length : Int) := of_decide_eq_true (by first | (with_reducible assumption) | assumption)
                              obtain ⟨ad242, e242, hx242_0⟩ := Kd.at_int (Kd.V_reads' HO_5.out).2.2 0 p242 q242
                              obtain rfl : ad238 = ad242 := (by injection e242)
                              have qi242 : (0 < x5_1.length) = True := eq_true (by omega)
                              (try rw [show ((0 : Int)).toNat = 0 from rfl] at hx242_0)
                              (try rw [Addr.add_zero'] at hx242_0)
                              replace p242 := eq_true p242
                              replace q242 := eq_true q242
                              have q44 : (1 : Int) ≤ ((x5_1.length : Int) : Int) := of_decide_eq_true (by first | (with_reducible assumption) | assumption)
                              obtain ⟨i044, hi044, _, hsz44, _⟩ := info_parts info5
                              have hroom44 : x5_1.length ≤ co38 := (Kd.V_reads' HO_5.out).2.1
                              have hC44 : Kd.F (Kd.int .u8) _ _ (some ad238) x5_1.length x5_1 := (Kd.V_at (base := w.heap.size) HO_5.out).2.2
                              have hcut44 := cut_from (P := Try.prog) 22 5 .i64 Try.underlying22 hi044 1 hsz44 (some ad238) x5_1.length co38 1 (by omega) q44
                              have hr44 := Kd.F_cut (m := (1 : Int).toNat) (c := co38) hC44 (by omega) hroom44
                              obtain ⟨A44, hA44⟩ : ∃ A1, A1 = (if co38 = (1 : Int).toNat then (some ad238) else ((some ad238) : Option Addr).map (·.add ((1 : Int).toNat * 1))) := ⟨_, rfl⟩
                              obtain ⟨c44, hc44⟩ : ∃ c1, c1 = co38 - (1 : Int).toNat := ⟨_, rfl⟩
                              have hy44 : y253.length = x5_1.length - (1 : Int).toNat := (by rw [Ny253.out, List.length_drop] <;> omega)
                              rw [show (x5_1).drop (1 : Int).toNat = y253 from Ny253.out.symm] at hr44
                              replace hr44 : Kd.F (Kd.int .u8) _ _ A44 y253.length y253 := (by rw [hA44]; exact hr44)
                              rw [← hy44, ← hA44, ← hc44] at hcut44
                              have HO257 := Aside0.mk (show Kd.V (Kd.int .u8) 5 _ w.heap.size _ (.slice A44 y253.length c44) y253 from Kd.V_mk (by rw [hy44, hc44]; exact Nat.sub_le_sub_right hroom44 _) hr44)
                              have HC257 := Aside0.mk (show y253.length ≤ c44 from by rw [hy44, hc44]; exact Nat.sub_le_sub_right hroom44 _)
                              clear hr44 hC44 hroom44 hi044 hsz44 hc44
                              have KY44 := Aside0.mk hy44
                              have KA44 := Aside0.mk hA44
                              clear hy44 hA44
                              replace q44 := eq_true q44
                              try go_wp2
                              go_roundg k1
                              case measure => have := HK1.out; omega
                              case rel => exact ⟨(y253), (y239), (.slice Ao41 y239.length co41), H', ⟨by have := HK1.out; omega⟩, ⟨by (with_reducible repeat (first | apply Kd.V_alloc | apply Kd.V_drewN | apply Kd.V_drew)); exact HO_0.out⟩, ⟨by (with_reducible repeat (first | apply Kd.V_alloc | apply Kd.V_drewN | apply Kd.V_drew)); exact HO257.out⟩, ⟨by (with_reducible repeat (first | apply Kd.R_alloc | apply Kd.R_drewN | apply Kd.R_drew)); exact HO241.out⟩, ⟨by (with_reducible repeat (first | refine blk_drewN ?_ _ | refine blk_drew ?_ | refine blk_alloc ?_ _)); exact BK224.out⟩, ⟨by (with_reducible repeat (first | refine blk_drewN ?_ _ | refine blk_drew ?_ | refine blk_alloc ?_ _)); exact BK232.out⟩, ⟨by repeat (first | (with_reducible first | exact HB.out | apply below_alloc | apply pw_below_drewN | apply below_drew1 | refine below_set ?_ GE224.out | refine below_set ?_ GE232.out) | exact HB.out)⟩⟩
                            · rw [if_neg c37] at H
                              exact absurd H (by simp)
                        · rw [if_neg c25] at H
                          have c25b0 : ((rd x5_1 0) == 0) = false := beq_eq_false_iff_ne.mpr c25
                          have c25b1 : ((rd x5_1 0) != 0) = true := bne_iff_ne.mpr c25
                          by_cases c45 : 1 ≤ (x5_1.length : Int)
                          · rw [if_pos c45] at H
                            have c45b0 := eq_true c45
                            have c45b1 : decide (1 ≤ (x5_1.length : Int)) = true := decide_eq_true c45
                            clear c45
                            obtain ⟨y258, hy258⟩ : ∃ y_ : List Int, y_ = (x5_1.drop 1) := ⟨_, rfl⟩
                            replace H : (stamp_Read.l0 k1 l0 y258 (wrap64 (rd l0 0)) y239 (Go.bits .xor .u64 18446744073709551615 t231)) = some (r1, r2, r3, r4) := by first | (rw [hy258]; with_reducible exact H) | (have H2_ := (Option.bind_some _ _).symm.trans H; rw [hy258]; with_reducible exact H2_) | (have H2_ := (Option.bind_some _ _).symm.trans H; with_reducible exact H2_) | with_reducible exact H | (rw [hy258]; exact H) | exact H
                            have Ny258 := Aside0.mk hy258
                            clear hy258
                            have H' := Aside0.mk H
                            clear H
                            obtain ⟨Ao46, co46, eo46⟩ := Kd.V_slice HO_5.out
                            subst eo46
                            try go_wp2
                            have n0_ := Aside0.mk (Kd.V_drew HO_0.out)
                            have n1_ := Aside0.mk (Kd.V_drew HO_5.out)
                            have n2_ := Aside0.mk (Kd.R_drew HO_233001.out)
                            have n3_ := Aside0.mk (blk_drew BK224.out)
                            have n4_ := Aside0.mk (blk_drew BK232.out)
                            have n5_ := Aside0.mk (below_drew1 HB.out)
                            clear HO_0
                            clear HO_5
                            clear HO_233001
                            clear BK224
                            clear BK232
                            clear HB
                            have HO_0 := n0_
                            have HO_5 := n1_
                            have HO_233001 := n2_
                            have BK224 := n3_
                            have BK232 := n4_
                            have HB := n5_
                            clear n0_ n1_ n2_ n3_ n4_ n5_
                            have p238 : 0 ≤ (0 : Int) := (by omega)
                            have q238 : 0 < (x5_1.length : Int) := of_decide_eq_true (by first | (with_reducible assumption) | assumption)
                            obtain ⟨ad238, e238, hx238_0⟩ := Kd.at_int (Kd.V_reads' HO_5.out).2.2 0 p238 q238
                            cases e238
                            have qi238 : (0 < x5_1.length) = True := eq_true (by omega)
                            (try rw [show ((0 : Int)).toNat = 0 from rfl] at hx238_0)
                            (try rw [Addr.add_zero'] at hx238_0)
                            replace p238 := eq_true p238
                            replace q238 := eq_true q238
                            refine start_ (n := 9) (S := fun w' => w'.cell? ⟨gb232, 0, none⟩ = some (.int .i64 (wrap64 (rd l0 0))) ∧ w'.cell? ⟨gb232, 1, none⟩ = some (u233001) ∧ w'.cell? ⟨gb232, 2, none⟩ = some (.int .u64 (Go.bits .xor .u64 18446744073709551615 t231)) ∧ w'.cell? ad238 = some (.int .u8 (rd x5_1 0))) (ds := [6, 8]) #[false, false, false, false, false, false, false, false, false] (by kernel_rfl) rfl rfl ⟨(blk_cell BK232.out 0).trans rfl, (blk_cell BK232.out 1).trans rfl, (blk_cell BK232.out 2).trans rfl, hx238_0⟩ (fun hHeld => ?_); refine with_tabW stamp_Read.tab7 stamp_Read.bits7 (fun HT_ HW_ => ?_)
                            generalize wr.drew = w47 at HO_0 HO_5 HO_233001 BK224 BK232 HB hx238_0 hHeld ⊢
                            refine pure_ (i := 0) (N := some 34) (v := ?_) (a' := ?_) #[true, false, false, false, false, false, false, false, false] rfl rfl (any_of HT_.out (by kernel_rfl)) (fun _ _ _ h => h) (Or.inl ⟨by rfl, ?_⟩) ?_ ?_
                            rotate_left
                            · intro w'
                              go_simp
                              with_reducible rfl
                            rotate_left
                            · simp only [u64_ones_, Act.put, List.setIfInBounds_toArray, List.set_cons_zero, List.set_cons_succ, i64_w, i32_w]
                              rfl
                            refine pure_ (i := 2) (N := some 36) (v := ?_) (a' := ?_) #[true, false, true, false, false, false, false, false, false] rfl rfl (any_of HT_.out (by kernel_rfl)) (fun _ _ _ h => h) (Or.inl ⟨by rfl, ?_⟩) ?_ ?_
                            rotate_left
                            · intro w'
                              go_simp
                              with_reducible rfl
                            rotate_left
                            · simp only [u64_ones_, Act.put, List.setIfInBounds_toArray, List.set_cons_zero, List.set_cons_succ, i64_w, i32_w]
                              rfl
                            refine pure_ (i := 3) (N := some 37) (v := ?_) (a' := ?_) #[true, false, true, true, false, false, false, false, false] rfl rfl (any_of HT_.out (by kernel_rfl)) (fun _ _ _ h => h) (Or.inl ⟨by rfl, ?_⟩) ?_ ?_
                            rotate_left
                            · intro w'
                              go_simp
                              with_reducible rfl
                            rotate_left
                            · simp only [u64_ones_, Act.put, List.setIfInBounds_toArray, List.set_cons_zero, List.set_cons_succ, i64_w, i32_w]
                              rfl
                            refine take_ (i := 1) (N := some 35) (v := ?_) (a' := ?_) #[true, true, true, true, false, false, false, false, false] rfl rfl (take_ofW HT_.out HW_.out (by kernel_rfl)) (fun _ _ _ h => h) (Or.inl ⟨by rfl, ?_⟩) hHeld ?_ ?_
                            rotate_left
                            · rintro w' ⟨s0, s1, s2, s3⟩
                              go_simp
                              with_reducible rfl
                            rotate_left
                            · simp only [u64_ones_, Act.put, List.setIfInBounds_toArray, List.set_cons_zero, List.set_cons_succ, i64_w, i32_w]
                              rfl
                            refine take_ (i := 4) (N := some 38) (v := ?_) (a' := ?_) #[true, true, true, true, true, false, false, false, false] rfl rfl (take_ofW HT_.out HW_.out (by kernel_rfl)) (fun _ _ _ h => h) (Or.inl ⟨by rfl, ?_⟩) hHeld ?_ ?_
                            rotate_left
                            · rintro w' ⟨s0, s1, s2, s3⟩
                              go_simp
                              with_reducible rfl
                            rotate_left
                            · simp only [u64_ones_, Act.put, List.setIfInBounds_toArray, List.set_cons_zero, List.set_cons_succ, i64_w, i32_w]
                              rfl
                            refine one_ (i := 5) (N := some 39) #[true, true, true, true, true, true, false, false, false] rfl rfl (one_of HT_.out (by kernel_rfl)) (by decide) (fun K hK => ?_)
                            refine value_ (w1 := ?_) (v := ?_) (by rfl) rfl ?_ ?_
                            rotate_left 2
                            · go_simp
                              constructor
                              · rfl
                              · rfl
                            refine hK.out _ _ ⟨(blk_cell (blk_alloc BK232.out _) 0).trans rfl, (blk_cell (blk_alloc BK232.out _) 1).trans rfl, (blk_cell (blk_alloc BK232.out _) 2).trans rfl, (World.cell?_alloc_lt _ _ _ (World.block_lt_of_cell? _ _ (hHeld.2.2.2))).trans (hHeld.2.2.2)⟩ (fun hHeld => ?_)
                            clear hK K
                            refine norm_ (a' := ?_) ?_ ?_
                            rotate_left
                            · show Act.put _ (some 39) _ = _
                              simp only [u64_ones_, Act.put, List.setIfInBounds_toArray, List.set_cons_zero, List.set_cons_succ, i64_w, i32_w]
                              rfl
                            refine last_ (i := 6) (N := some 40) #[true, true, true, true, true, true, true, false, false] rfl rfl (one_of HT_.out (by kernel_rfl)) (by decide) (fun K hK => ?_)
                            refine Kd.R_append_step (Kd.int .u8) (w0 := w) w.heap.size (by rfl) (.tmp 35) (.tmp 39) 22 5 (.int .u8 0) 1 rfl Try.underlying22 info5 rfl (by decide) (by omega) u233001 x233001_1 (rd x5_1 0) [.int .u8 (rd x5_1 0)] (fun k_ => (w.heap.size ≤ k_)) (fun _ => False) rfl rfl ?aP (fun _ hk => hk.elim) ?aF ?aO ?aB ?aS ?aL ?_
                            (case aP => exact rfl)
                            (case aB => exact (by repeat (first | (with_reducible first | exact HB.out | apply below_alloc | apply pw_below_drewN | apply below_drew1 | refine below_set ?_ GE224.out | refine below_set ?_ GE232.out) | exact HB.out)))
                            (case aF => exact (fun k_ hk => (Nat.le_trans (below_size (by repeat (first | (with_reducible first | exact HB.out | apply below_alloc | apply pw_below_drewN | apply below_drew1 | refine below_set ?_ GE224.out | refine below_set ?_ GE232.out) | exact HB.out))) hk)))
                            (case aO => exact (by (with_reducible repeat (first | apply Kd.R_alloc | apply Kd.R_drewN | apply Kd.R_drew)); exact HO_233001.out))
                            (case aS => exact (below_size (by repeat (first | (with_reducible first | exact HB.out | apply below_alloc | apply pw_below_drewN | apply below_drew1 | refine below_set ?_ GE224.out | refine below_set ?_ GE232.out) | exact HB.out))))
                            (case aL => have := LMc24.out; omega)
                            intro v240 w48 ho hb hg hat
                            rw [← Ny239.out] at ho
                            have n0_ := Aside0.mk (Kd.V_afterv (ok := (fun k_ => (P0_ k_ ∨ w.heap.size ≤ k_) ∧ k_ ≠ gb224 ∧ k_ ≠ gb232)) (by (with_reducible repeat (first | apply Kd.V_alloc | apply Kd.V_drewN | apply Kd.V_drew)); exact Kd.V_mono HO_0.out (fun _ hk => ⟨⟨hk.1, ⟨hk.2.2.1, hk.2.2.2⟩⟩, hk.2.1⟩)) hg hat)
                            have n1_ := Aside0.mk (Kd.V_afterv (ok := (fun k_ => (P0_ k_ ∨ w.heap.size ≤ k_) ∧ k_ ≠ gb224 ∧ k_ ≠ gb232)) (by (with_reducible repeat (first | apply Kd.V_alloc | apply Kd.V_drewN | apply Kd.V_drew)); exact Kd.V_mono HO_5.out (fun _ hk => ⟨⟨hk.1, ⟨hk.2.2.1, hk.2.2.2⟩⟩, hk.2.1⟩)) hg hat)
                            have n2_ := Aside0.mk (blk_grown (g := gb224) (o := .cells #[.int .i64 0, .slice none 0 0, .int .u64 0] 25 (0, 0)) (by (with_reducible repeat (first | refine blk_drewN ?_ _ | refine blk_drew ?_ | refine blk_alloc ?_ _)); exact BK224.out) hg (Kd.R_ne HO_233001.out BK224.out (by decide)))
                            have n3_ := Aside0.mk (blk_grown (g := gb232) (o := .cells #[.int .i64 (wrap64 (rd l0 0)), u233001, .int .u64 (Go.bits .xor .u64 18446744073709551615 t231)] 25 (0, 0)) (by (with_reducible repeat (first | refine blk_drewN ?_ _ | refine blk_drew ?_ | refine blk_alloc ?_ _)); exact BK232.out) hg (Kd.R_ne HO_233001.out BK232.out (by decide)))
                            have n4_ := Aside0.mk (hb)
                            have n5_ := Aside0.mk (ho)
                            clear HO_0
                            clear HO_5
                            clear BK224
                            clear BK232
                            clear HB
                            clear HO_233001
                            have HO_0 := n0_
                            have HO_5 := n1_
                            have BK224 := n2_
                            have BK232 := n3_
                            have HB := n4_
                            have HO241 := n5_
                            clear n0_ n1_ n2_ n3_ n4_ n5_
                            clear ho hb hg hat
                            obtain ⟨Ao49, co49, eo49⟩ := Kd.R_slice HO241.out
                            (first | subst eo49 | (injection eo49 with f1_ f2_ f3_; have f4_ := f1_.symm; have f5_ := f3_.symm; clear f1_ f2_ f3_; subst f4_; subst f5_))
                            refine hK.out _ _ ?_
                            clear hK K
                            refine norm_ (a' := ?_) ?_ ?_
                            rotate_left
                            · show Act.put _ (some 40) _ = _
                              simp only [u64_ones_, Act.put, List.setIfInBounds_toArray, List.set_cons_zero, List.set_cons_succ, i64_w, i32_w]
                              rfl
                            refine pure_ (i := 7) (N := some 41) (v := ?_) (a' := ?_) #[true, true, true, true, true, true, true, true, false] rfl rfl (any_of HT_.out (by kernel_rfl)) (fun _ _ _ h => h) (Or.inl ⟨by rfl, ?_⟩) ?_ ?_
                            rotate_left
                            · intro w'
                              go_simp
                              with_reducible rfl
                            rotate_left
                            · simp only [u64_ones_, Act.put, List.setIfInBounds_toArray, List.set_cons_zero, List.set_cons_succ, i64_w, i32_w]
                              rfl
                            refine last_ (i := 8) (N := none) #[true, true, true, true, true, true, true, true, true] rfl rfl (one_of HT_.out (by kernel_rfl)) (by decide) (fun K hK => ?_)
                            have hs50 : w48.cell? ⟨gb232, 1, none⟩ = some (u233001) := (blk_cell BK232.out 1).trans rfl
                            have hfs50 := blk_frozen BK232.out 1
                            have hns50_0 := NB224_232.out
                            have hms50_0 := NB232_224.out
                            refine skip_ (w1 := ?_) (by rfl) rfl ?_ ?_
                            rotate_left
                            · go_simp
                              rfl
                            refine hK.out _ _ ?_
                            clear hK K
                            refine done_ (done_of HT_.out (by kernel_rfl)) ?_
                            have n0_ : Aside0 (Kd.V (Kd.int .u8) 5 (w48.setCell ⟨gb232, 1, none⟩ (.slice Ao49 y239.length co49)) w.heap.size (fun k_ => (P0_ k_ ∨ w.heap.size ≤ k_) ∧ some k_ ≠ (.slice Ao49 y239.length co49 : Value).ownBlock ∧ k_ ≠ gb224 ∧ k_ ≠ gb232) (.slice (some ad225) l0.length c0) l0) := ⟨by (with_reducible repeat (first | apply Kd.V_alloc | apply Kd.V_drewN | apply Kd.V_drew)); exact Kd.V_mono (Kd.V_far (p := ⟨gb232, 1, none⟩) (Kd.V_mono HO_0.out (fun k_ hk => (⟨hk, hk.1.2.2⟩ : _ ∧ k_ ≠ gb232))) (fun _ hk => hk.2) (.slice Ao49 y239.length co49)) (fun _ hk => ⟨hk.1.1.1, ⟨hk.1.2, ⟨hk.1.1.2.1, hk.1.1.2.2⟩⟩⟩)⟩
                            have n1_ : Aside0 (Kd.V (Kd.int .u8) 5 (w48.setCell ⟨gb232, 1, none⟩ (.slice Ao49 y239.length co49)) w.heap.size (fun k_ => (P0_ k_ ∨ w.heap.size ≤ k_) ∧ some k_ ≠ (.slice Ao49 y239.length co49 : Value).ownBlock ∧ k_ ≠ gb224 ∧ k_ ≠ gb232) (.slice (some ad238) x5_1.length co46) x5_1) := ⟨by (with_reducible repeat (first | apply Kd.V_alloc | apply Kd.V_drewN | apply Kd.V_drew)); exact Kd.V_mono (Kd.V_far (p := ⟨gb232, 1, none⟩) (Kd.V_mono HO_5.out (fun k_ hk => (⟨hk, hk.1.2.2⟩ : _ ∧ k_ ≠ gb232))) (fun _ hk => hk.2) (.slice Ao49 y239.length co49)) (fun _ hk => ⟨hk.1.1.1, ⟨hk.1.2, ⟨hk.1.1.2.1, hk.1.1.2.2⟩⟩⟩)⟩
                            have n2_ : Aside0 (Kd.R (Kd.int .u8) 5 (w48.setCell ⟨gb232, 1, none⟩ (.slice Ao49 y239.length co49)) w.heap.size (fun k_ => (w.heap.size ≤ k_)) (.slice Ao49 y239.length co49) y239) := ⟨by (with_reducible repeat (first | apply Kd.R_alloc | apply Kd.R_drewN | apply Kd.R_drew)); exact Kd.R_mono (Kd.R_far (p := ⟨gb232, 1, none⟩) (Kd.R_types HO241.out BK232.out (by decide)) (fun _ hk => hk.2) (.slice Ao49 y239.length co49)) (fun _ hk => hk.1)⟩
                            have n3_ : Aside0 ((w48.setCell ⟨gb232, 1, none⟩ (.slice Ao49 y239.length co49)).heap[gb224]? = some (.cells #[.int .i64 0, .slice none 0 0, .int .u64 0] 25 (0, 0))) := ⟨by (with_reducible repeat (first | refine blk_drewN ?_ _ | refine blk_drew ?_ | refine blk_alloc ?_ _)); refine blk_far ?_ NB224_232.out _; (with_reducible repeat (first | refine blk_drewN ?_ _ | refine blk_drew ?_ | refine blk_alloc ?_ _)); exact BK224.out⟩
                            have n4_ : Aside0 ((w48.setCell ⟨gb232, 1, none⟩ (.slice Ao49 y239.length co49)).heap[gb232]? = some (.cells #[.int .i64 (wrap64 (rd l0 0)), .slice Ao49 y239.length co49, .int .u64 (Go.bits .xor .u64 18446744073709551615 t231)] 25 (0, 0))) := ⟨by (with_reducible repeat (first | refine blk_drewN ?_ _ | refine blk_drew ?_ | refine blk_alloc ?_ _)); refine blk_put (cs := #[.int .i64 (wrap64 (rd l0 0)), u233001, .int .u64 (Go.bits .xor .u64 18446744073709551615 t231)]) ?_ 1 _ rfl; (with_reducible repeat (first | refine blk_drewN ?_ _ | refine blk_drew ?_ | refine blk_alloc ?_ _)); exact BK232.out⟩
                            have n5_ : Aside0 (Below w.heap.size w (w48.setCell ⟨gb232, 1, none⟩ (.slice Ao49 y239.length co49))) := ⟨by repeat (first | (with_reducible first | exact HB.out | apply below_alloc | apply pw_below_drewN | apply below_drew1 | refine below_set ?_ GE224.out | refine below_set ?_ GE232.out) | exact HB.out)⟩
                            (try clear HO_0)
                            (try clear HO_5)
                            (try clear HO241)
                            (try clear BK224)
                            (try clear BK232)
                            (try clear HB)
                            generalize (w48.setCell ⟨gb232, 1, none⟩ (.slice Ao49 y239.length co49)) = w51 at n0_ n1_ n2_ n3_ n4_ n5_ ⊢
                            have HO_0 := n0_
                            have HO_5 := n1_
                            have HO241 := n2_
                            have BK224 := n3_
                            have BK232 := n4_
                            have HB := n5_
                            clear n0_ n1_ n2_ n3_ n4_ n5_
                            have p242 : 0 ≤ (0 : Int) := (by omega)
                            have q242 : 0 < (x5_1.length : Int) := of_decide_eq_true (by first | (with_reducible assumption) | assumption)
                            obtain ⟨ad242, e242, hx242_0⟩ := Kd.at_int (Kd.V_reads' HO_5.out).2.2 0 p242 q242
                            obtain rfl : ad238 = ad242 := (by injection e242)
                            have qi242 : (0 < x5_1.length) = True := eq_true (by omega)
                            (try rw [show ((0 : Int)).toNat = 0 from rfl] at hx242_0)
                            (try rw [Addr.add_zero'] at hx242_0)
                            replace p242 := eq_true p242
                            replace q242 := eq_true q242
                            have q52 : (1 : Int) ≤ ((x5_1.length : Int) : Int) := of_decide_eq_true (by first | (with_reducible assumption) | assumption)
                            obtain ⟨i052, hi052, _, hsz52, _⟩ := info_parts info5
                            have hroom52 : x5_1.length ≤ co46 := (Kd.V_reads' HO_5.out).2.1
                            have hC52 : Kd.F (Kd.int .u8) _ _ (some ad238) x5_1.length x5_1 := (Kd.V_at (base := w.heap.size) HO_5.out).2.2
                            have hcut52 := cut_from (P := Try.prog) 22 5 .i64 Try.underlying22 hi052 1 hsz52 (some ad238) x5_1.length co46 1 (by omega) q52
                            have hr52 := Kd.F_cut (m := (1 : Int).toNat) (c := co46) hC52 (by omega) hroom52
                            obtain ⟨A52, hA52⟩ : ∃ A1, A1 = (if co46 = (1 : Int).toNat then (some ad238) else ((some ad238) : Option Addr).map (·.add ((1 : Int).toNat * 1))) := ⟨_, rfl⟩
                            obtain ⟨c52, hc52⟩ : ∃ c1, c1 = co46 - (1 : Int).toNat := ⟨_, rfl⟩
                            have hy52 : y258.length = x5_1.length - (1 : Int).toNat := (by rw [Ny258.out, List.length_drop] <;> omega)
                            rw [show (x5_1).drop (1 : Int).toNat = y258 from Ny258.out.symm] at hr52
                            replace hr52 : Kd.F (Kd.int .u8) _ _ A52 y258.length y258 := (by rw [hA52]; exact hr52)
                            rw [← hy52, ← hA52, ← hc52] at hcut52
                            have HO262 := Aside0.mk (show Kd.V (Kd.int .u8) 5 _ w.heap.size _ (.slice A52 y258.length c52) y258 from Kd.V_mk (by rw [hy52, hc52]; exact Nat.sub_le_sub_right hroom52 _) hr52)
                            have HC262 := Aside0.mk (show y258.length ≤ c52 from by rw [hy52, hc52]; exact Nat.sub_le_sub_right hroom52 _)
                            clear hr52 hC52 hroom52 hi052 hsz52 hc52
                            have KY52 := Aside0.mk hy52
                            have KA52 := Aside0.mk hA52
                            clear hy52 hA52
                            replace q52 := eq_true q52
                            try go_wp2
                            go_roundg k1
                            case measure => have := HK1.out; omega
                            case rel => exact ⟨(y258), (y239), (.slice Ao49 y239.length co49), H', ⟨by have := HK1.out; omega⟩, ⟨by (with_reducible repeat (first | apply Kd.V_alloc | apply Kd.V_drewN | apply Kd.V_drew)); exact HO_0.out⟩, ⟨by (with_reducible repeat (first | apply Kd.V_alloc | apply Kd.V_drewN | apply Kd.V_drew)); exact HO262.out⟩, ⟨by (with_reducible repeat (first | apply Kd.R_alloc | apply Kd.R_drewN | apply Kd.R_drew)); exact HO241.out⟩, ⟨by (with_reducible repeat (first | refine blk_drewN ?_ _ | refine blk_drew ?_ | refine blk_alloc ?_ _)); exact BK224.out⟩, ⟨by (with_reducible repeat (first | refine blk_drewN ?_ _ | refine blk_drew ?_ | refine blk_alloc ?_ _)); exact BK232.out⟩, ⟨by repeat (first | (with_reducible first | exact HB.out | apply below_alloc | apply pw_below_drewN | apply below_drew1 | refine below_set ?_ GE224.out | refine below_set ?_ GE232.out) | exact HB.out)⟩⟩
                          · rw [if_neg c45] at H
                            exact absurd H (by simp)
                      · rw [if_neg c24] at H
                        exact absurd H (by simp)
                    · rw [if_neg c23] at H
                      exact absurd H (by simp)
                  · rw [if_neg c22] at H
                    have c22b0 : decide (0 < (x5_1.length : Int)) = false := decide_eq_false c22
                    have c22b1 : decide (0 < x5_1.length) = false := decide_eq_false (by omega)
                    clear c22
                    replace H := Option.bind_eq_some_iff.mp H
                    obtain ⟨⟨t263, t266⟩, A530, H⟩ := H
                    replace H : (if t266 = 0 then ((bytes_Equal.f l0 t263).bind fun t267 => (if t267 = true then (some ((wrap64 (rd l0 0)), x233001_1, (Go.bits .xor .u64 18446744073709551615 t231), 0)) else (some (0, ([] : List Int), 0, 11)))) else (some (0, ([] : List Int), 0, 11))) = some (r1, r2, r3, r4) := H
                    have A53 := Aside0.mk A530
                    clear A530
                    by_cases c54 : t266 = 0
                    · rw [if_pos c54] at H
                      have c54b0 : (t266 == 0) = true := beq_iff_eq.mpr c54
                      have c54b1 : (t266 != 0) = false := bne_eq_false_iff_eq.mpr c54
                      clear c54
                      replace H := Option.bind_eq_some_iff.mp H
                      obtain ⟨t267, A550, H⟩ := H
                      replace H : (if t267 = true then (some ((wrap64 (rd l0 0)), x233001_1, (Go.bits .xor .u64 18446744073709551615 t231), 0)) else (some (0, ([] : List Int), 0, 11))) = some (r1, r2, r3, r4) := H
                      have A55 := Aside0.mk A550
                      clear A550
                      by_cases c56 : t267 = true
                      · subst c56
                        have H1 : (some ((wrap64 (rd l0 0)), x233001_1, (Go.bits .xor .u64 18446744073709551615 t231), 0)) = some (r1, r2, r3, r4) := by rw [if_pos rfl] at H; exact H
                        clear H
                        have H := H1
                        clear H1
                        simp only [Option.some.injEq, Prod.mk.injEq] at H
                        obtain ⟨rfl, rfl, rfl, rfl⟩ := H
                        obtain ⟨Ao57, co57, eo57⟩ := Kd.V_slice HO_5.out
                        subst eo57
                        have hnb58 := NB232_224.out
                        have hnc58 := NB224_232.out
                        have hcz59_0 : wr.cell? ⟨gb232, 0, none⟩ = some (.int .i64 (wrap64 (rd l0 0))) := (blk_cell BK232.out 0).trans rfl
                        have hcz59_1 : wr.cell? ⟨gb232, 1, none⟩ = some (u233001) := (blk_cell BK232.out 1).trans rfl
                        have hcz59_2 : wr.cell? ⟨gb232, 2, none⟩ = some (.int .u64 (Go.bits .xor .u64 18446744073709551615 t231)) := (blk_cell BK232.out 2).trans rfl
                        have hfz59_0 := blk_frozen BK232.out 0
                        have hfz59_1 := blk_frozen BK232.out 1
                        have hfz59_2 := blk_frozen BK232.out 2
                        obtain ⟨Ao60, co60, eo60⟩ := Kd.R_slice HO_233001.out
                        subst eo60
                        go_wp2_with (first | ((with_reducible refine gate_callee (f := 9) rfl ?_); refine goesL_ (some 55) rfl rfl Try.func9 (by kernel_rfl) rfl #[.agg #[.int .i64 (wrap64 (rd l0 0)), .slice Ao60 x233001_1.length co60, .int .u64 (Go.bits .xor .u64 18446744073709551615 t231)]] rfl (by (try simp only [List.map_toArray, List.map_cons, List.map_nil]); first | done | rfl | (simp only [List.length_drop, List.length_take]; rfl)) ?_; (with_reducible refine (stamp_Write.calls k1 (wrap64 (rd l0 0)) _ _ x233001_1 (Go.bits .xor .u64 18446744073709551615 t231) t263 t266 _ ?side1 ?side2 A53.out).mono ?_); (case side1 => repeat (first | exact (Kd.R_reads' HO_233001.out).2.2 | (with_reducible refine Kd.C_alloc ?_ _) | (with_reducible refine Kd.C_drewN ?_ _) | (with_reducible refine Kd.C_drew ?_))); (case side2 => exact (Kd.R_reads' HO_233001.out).2.1); rintro e w61 ⟨v264, rfl, ho0, hb⟩; refine ⟨_, rfl, ?_⟩; have n0_ := Aside0.mk (Kd.V_elder' (by (with_reducible repeat (first | apply Kd.V_alloc | apply Kd.V_drewN | apply Kd.V_drew)); exact HO_0.out) (Kd.R_base ho0) hb); have n1_ := Aside0.mk (Kd.V_elder' (by (with_reducible repeat (first | apply Kd.V_alloc | apply Kd.V_drewN | apply Kd.V_drew)); exact HO_5.out) (Kd.R_base ho0) hb); have n2_ := Aside0.mk (Kd.R_elder' (by (with_reducible repeat (first | apply Kd.R_alloc | apply Kd.R_drewN | apply Kd.R_drew)); exact HO_233001.out) (Kd.R_base ho0) hb); have n3_ := Aside0.mk (Kd.R_lower (Kd.R_new' (Kd.R_newM (M := fun k_ => (w.heap.size ≤ k_)) ho0 (below_size (by repeat (first | (with_reducible first | exact HB.out | apply below_alloc | apply pw_below_drewN | apply below_drew1 | refine below_set ?_ GE224.out | refine below_set ?_ GE232.out) | exact HB.out))) (fun k_ h_ => h_)) (Kd.R_lt (by (with_reducible repeat (first | apply Kd.R_alloc | apply Kd.R_drewN | apply Kd.R_drew)); exact HO_233001.out))) (below_size (by repeat (first | (with_reducible first | exact HB.out | apply below_alloc | apply pw_below_drewN | apply below_drew1 | refine below_set ?_ GE224.out | refine below_set ?_ GE232.out) | exact HB.out)))); have n4_ := Aside0.mk (blk_below (g := gb224) (o := .cells #[.int .i64 0, .slice none 0 0, .int .u64 0] 25 (0, 0)) (by (with_reducible repeat (first | refine blk_drewN ?_ _ | refine blk_drew ?_ | refine blk_alloc ?_ _)); exact BK224.out) hb); have n5_ := Aside0.mk (blk_below (g := gb232) (o := .cells #[.int .i64 (wrap64 (rd l0 0)), .slice Ao60 x233001_1.length co60, .int .u64 (Go.bits .xor .u64 18446744073709551615 t231)] 25 (0, 0)) (by (with_reducible repeat (first | refine blk_drewN ?_ _ | refine blk_drew ?_ | refine blk_alloc ?_ _)); exact BK232.out) hb); have n6_ := Aside0.mk (below_step (by repeat (first | (with_reducible first | exact HB.out | apply below_alloc | apply pw_below_drewN | apply below_drew1 | refine below_set ?_ GE224.out | refine below_set ?_ GE232.out) | exact HB.out)) hb); clear HO_0; clear HO_5; clear HO_233001; clear BK224; clear BK232; clear HB; have HO_0 := n0_; have HO_5 := n1_; have HO_233001 := n2_; have HO265 := n3_; have BK224 := n4_; have BK232 := n5_; have HB := n6_; clear n0_ n1_ n2_ n3_ n4_ n5_ n6_; (try clear hb); (try clear hb2); (try clear hk); (try clear hi); (try clear ho0); obtain ⟨Ao62, co62, eo62⟩ := Kd.R_slice HO265.out; subst eo62) | (go_at_call 28; (with_reducible refine (bytes_Equal.calls _ _ l0 _ _ t263 true _ ?side1 ?side2 ?side3 ?side4 A55.out).mono ?_); (case side1 => repeat (first | exact (Kd.V_reads' HO_0.out).2.2 | (with_reducible refine Kd.C_alloc ?_ _) | (with_reducible refine Kd.C_drewN ?_ _) | (with_reducible refine Kd.C_drew ?_))); (case side2 => exact (Kd.V_reads' HO_0.out).2.1); (case side3 => repeat (first | exact (Kd.R_reads' HO265.out).2.2 | (with_reducible refine Kd.C_alloc ?_ _) | (with_reducible refine Kd.C_drewN ?_ _) | (with_reducible refine Kd.C_drew ?_))); (case side4 => exact (Kd.R_reads' HO265.out).2.1); rintro e w' ⟨rfl, ⟨nd, rfl⟩⟩; (try (rw [drewN_self w61]; generalize hq_ : World.drewN w61 _ = w61; have n0_ : Aside0 (Kd.R (Kd.int .u8) 5 w61 w.heap.size (fun k_ => (w.heap.size ≤ k_) ∧ some k_ ≠ (.slice Ao60 x233001_1.length co60 : Value).ownBlock) (.slice Ao62 t263.length co62) t263) := ⟨by rw [← hq_]; exact (by (with_reducible repeat (first | apply Kd.R_alloc | apply Kd.R_drewN | apply Kd.R_drew)); exact Kd.R_mono HO265.out (fun _ hk => ⟨hk.1.1, hk.2⟩))⟩; have n1_ : Aside0 (Kd.V (Kd.int .u8) 5 w61 w.heap.size (fun k_ => (P0_ k_ ∨ w.heap.size ≤ k_) ∧ some k_ ≠ (.slice Ao62 t263.length co62 : Value).ownBlock ∧ some k_ ≠ (.slice Ao60 x233001_1.length co60 : Value).ownBlock ∧ k_ ≠ gb224 ∧ k_ ≠ gb232) (.slice (some ad225) l0.length c0) l0) := ⟨by rw [← hq_]; exact (by (with_reducible repeat (first | apply Kd.V_alloc | apply Kd.V_drewN | apply Kd.V_drew)); exact Kd.V_mono HO_0.out (fun _ hk => ⟨hk.1.1, ⟨hk.2, ⟨hk.1.2.1, ⟨hk.1.2.2.1, hk.1.2.2.2⟩⟩⟩⟩))⟩; have n2_ : Aside0 (Kd.R (Kd.int .u8) 5 w61 w.heap.size (fun k_ => (w.heap.size ≤ k_) ∧ some k_ ≠ (.slice Ao62 t263.length co62 : Value).ownBlock) (.slice Ao60 x233001_1.length co60) x233001_1) := ⟨by rw [← hq_]; exact (by (with_reducible repeat (first | apply Kd.R_alloc | apply Kd.R_drewN | apply Kd.R_drew)); exact HO_233001.out)⟩; have n3_ : Aside0 (Kd.V (Kd.int .u8) 5 w61 w.heap.size (fun k_ => (P0_ k_ ∨ w.heap.size ≤ k_) ∧ some k_ ≠ (.slice Ao62 t263.length co62 : Value).ownBlock ∧ some k_ ≠ (.slice Ao60 x233001_1.length co60 : Value).ownBlock ∧ k_ ≠ gb224 ∧ k_ ≠ gb232) (.slice Ao57 x5_1.length co57) x5_1) := ⟨by rw [← hq_]; exact (by (with_reducible repeat (first | apply Kd.V_alloc | apply Kd.V_drewN | apply Kd.V_drew)); exact Kd.V_mono HO_5.out (fun _ hk => ⟨hk.1.1, ⟨hk.2, ⟨hk.1.2.1, ⟨hk.1.2.2.1, hk.1.2.2.2⟩⟩⟩⟩))⟩; have n4_ : Aside0 (w61.heap[gb224]? = some (.cells #[.int .i64 0, .slice none 0 0, .int .u64 0] 25 (0, 0))) := ⟨by rw [← hq_]; exact (by (with_reducible repeat (first | refine blk_drewN ?_ _ | refine blk_drew ?_ | refine blk_alloc ?_ _)); exact BK224.out)⟩; have n5_ : Aside0 (w61.heap[gb232]? = some (.cells #[.int .i64 (wrap64 (rd l0 0)), .slice Ao60 x233001_1.length co60, .int .u64 (Go.bits .xor .u64 18446744073709551615 t231)] 25 (0, 0))) := ⟨by rw [← hq_]; exact (by (with_reducible repeat (first | refine blk_drewN ?_ _ | refine blk_drew ?_ | refine blk_alloc ?_ _)); exact BK232.out)⟩; have n6_ : Aside0 (Below w.heap.size w w61) := ⟨by rw [← hq_]; exact (by repeat (first | (with_reducible first | exact HB.out | apply below_alloc | apply pw_below_drewN | apply below_drew1 | refine below_set ?_ GE224.out | refine below_set ?_ GE232.out) | exact HB.out))⟩; clear HO265 HO_0 HO_233001 HO_5 BK224 BK232 HB hq_; have HO265 := n0_; have HO_0 := n1_; have HO_233001 := n2_; have HO_5 := n3_; have BK224 := n4_; have BK232 := n5_; have HB := n6_; clear n0_ n1_ n2_ n3_ n4_ n5_ n6_)); have hcz63_0 : w61.cell? ⟨gb232, 0, none⟩ = some (.int .i64 (wrap64 (rd l0 0))) := (blk_cell BK232.out 0).trans rfl; have hcz63_1 : w61.cell? ⟨gb232, 1, none⟩ = some (.slice Ao60 x233001_1.length co60) := (blk_cell BK232.out 1).trans rfl; have hcz63_2 : w61.cell? ⟨gb232, 2, none⟩ = some (.int .u64 (Go.bits .xor .u64 18446744073709551615 t231)) := (blk_cell BK232.out 2).trans rfl; have hfz63_0 := blk_frozen BK232.out 0; have hfz63_1 := blk_frozen BK232.out 1; have hfz63_2 := blk_frozen BK232.out 2; have hcz64_0 : w61.cell? ⟨gb224, 0, none⟩ = some (.int .i64 0) := (blk_cell BK224.out 0).trans rfl; have hcz64_1 : w61.cell? ⟨gb224, 1, none⟩ = some (.slice none 0 0) := (blk_cell BK224.out 1).trans rfl; have hcz64_2 : w61.cell? ⟨gb224, 2, none⟩ = some (.int .u64 0) := (blk_cell BK224.out 2).trans rfl; have hfz64_0 := blk_frozen BK224.out 0; have hfz64_1 := blk_frozen BK224.out 1; have hfz64_2 := blk_frozen BK224.out 2))
                        refine bodyPost_ret (results_ct rfl _ _ gb224 25 #[.int .i64 (wrap64 (rd l0 0)), .slice Ao60 x233001_1.length co60, .int .u64 (Go.bits .xor .u64 18446744073709551615 t231)] (0, 0) _ rfl (by (with_reducible repeat (first | refine blk_drewN ?_ _ | refine blk_drew ?_ | refine blk_alloc ?_ _)); refine blk_put (cs := #[.int .i64 (wrap64 (rd l0 0)), .slice Ao60 x233001_1.length co60, .int .u64 0]) ?_ 2 _ rfl; (with_reducible repeat (first | refine blk_drewN ?_ _ | refine blk_drew ?_ | refine blk_alloc ?_ _)); refine blk_put (cs := #[.int .i64 (wrap64 (rd l0 0)), .slice none 0 0, .int .u64 0]) ?_ 1 _ rfl; (with_reducible repeat (first | refine blk_drewN ?_ _ | refine blk_drew ?_ | refine blk_alloc ?_ _)); refine blk_put (cs := #[.int .i64 0, .slice none 0 0, .int .u64 0]) ?_ 0 _ rfl; (with_reducible repeat (first | refine blk_drewN ?_ _ | refine blk_drew ?_ | refine blk_alloc ?_ _)); exact BK224.out) Try.underlying25 rfl (by kernel_rfl)) rfl ?_
                        exact ⟨_, by first | rfl | (simp [errW_none, errW_some] <;> rfl) | (simp only [← hji6]; first | rfl | (simp [errW_none, errW_some] <;> rfl)) | (simp [*, errW_none, errW_some] <;> rfl), by (with_reducible repeat (first | apply Kd.R_alloc | apply Kd.R_drewN | apply Kd.R_drew)); exact Kd.R_mono (Kd.R_far (p := ⟨gb224, 2, none⟩) (Kd.R_far (p := ⟨gb224, 1, none⟩) (Kd.R_far (p := ⟨gb224, 0, none⟩) (Kd.R_types HO_233001.out BK224.out (by decide)) (fun _ hk => hk.2) (.int .i64 (wrap64 (rd l0 0)))) (fun _ hk => hk.2) (.slice Ao60 x233001_1.length co60)) (fun _ hk => hk.2) (.int .u64 (Go.bits .xor .u64 18446744073709551615 t231))) (fun _ hk => hk.1.1), by repeat (first | (with_reducible first | exact HB.out | apply below_alloc | apply pw_below_drewN | apply below_drew1 | refine below_set ?_ GE224.out | refine below_set ?_ GE232.out) | exact HB.out)⟩
                      · replace c56 := Bool.eq_false_iff.mpr c56
                        subst c56
                        have H1 : (some (0, ([] : List Int), 0, 11)) = some (r1, r2, r3, r4) := by rw [if_neg (show ¬ (false = true) by decide)] at H; exact H
                        clear H
                        have H := H1
                        clear H1
                        simp only [Option.some.injEq, Prod.mk.injEq] at H
                        obtain ⟨rfl, rfl, rfl, rfl⟩ := H
                        obtain ⟨Ao65, co65, eo65⟩ := Kd.V_slice HO_5.out
                        subst eo65
                        have hnb66 := NB232_224.out
                        have hnc66 := NB224_232.out
                        have hcz67_0 : wr.cell? ⟨gb232, 0, none⟩ = some (.int .i64 (wrap64 (rd l0 0))) := (blk_cell BK232.out 0).trans rfl
                        have hcz67_1 : wr.cell? ⟨gb232, 1, none⟩ = some (u233001) := (blk_cell BK232.out 1).trans rfl
                        have hcz67_2 : wr.cell? ⟨gb232, 2, none⟩ = some (.int .u64 (Go.bits .xor .u64 18446744073709551615 t231)) := (blk_cell BK232.out 2).trans rfl
                        have hfz67_0 := blk_frozen BK232.out 0
                        have hfz67_1 := blk_frozen BK232.out 1
                        have hfz67_2 := blk_frozen BK232.out 2
                        obtain ⟨Ao68, co68, eo68⟩ := Kd.R_slice HO_233001.out
                        subst eo68
                        go_wp2_with (first | ((with_reducible refine gate_callee (f := 9) rfl ?_); refine goesL_ (some 55) rfl rfl Try.func9 (by kernel_rfl) rfl #[.agg #[.int .i64 (wrap64 (rd l0 0)), .slice Ao68 x233001_1.length co68, .int .u64 (Go.bits .xor .u64 18446744073709551615 t231)]] rfl (by (try simp only [List.map_toArray, List.map_cons, List.map_nil]); first | done | rfl | (simp only [List.length_drop, List.length_take]; rfl)) ?_; (with_reducible refine (stamp_Write.calls k1 (wrap64 (rd l0 0)) _ _ x233001_1 (Go.bits .xor .u64 18446744073709551615 t231) t263 t266 _ ?side1 ?side2 A53.out).mono ?_); (case side1 => repeat (first | exact (Kd.R_reads' HO_233001.out).2.2 | (with_reducible refine Kd.C_alloc ?_ _) | (with_reducible refine Kd.C_drewN ?_ _) | (with_reducible refine Kd.C_drew ?_))); (case side2 => exact (Kd.R_reads' HO_233001.out).2.1); rintro e w69 ⟨v264, rfl, ho0, hb⟩; refine ⟨_, rfl, ?_⟩; have n0_ := Aside0.mk (Kd.V_elder' (by (with_reducible repeat (first | apply Kd.V_alloc | apply Kd.V_drewN | apply Kd.V_drew)); exact HO_0.out) (Kd.R_base ho0) hb); have n1_ := Aside0.mk (Kd.V_elder' (by (with_reducible repeat (first | apply Kd.V_alloc | apply Kd.V_drewN | apply Kd.V_drew)); exact HO_5.out) (Kd.R_base ho0) hb); have n2_ := Aside0.mk (Kd.R_elder' (by (with_reducible repeat (first | apply Kd.R_alloc | apply Kd.R_drewN | apply Kd.R_drew)); exact HO_233001.out) (Kd.R_base ho0) hb); have n3_ := Aside0.mk (Kd.R_lower (Kd.R_new' (Kd.R_newM (M := fun k_ => (w.heap.size ≤ k_)) ho0 (below_size (by repeat (first | (with_reducible first | exact HB.out | apply below_alloc | apply pw_below_drewN | apply below_drew1 | refine below_set ?_ GE224.out | refine below_set ?_ GE232.out) | exact HB.out))) (fun k_ h_ => h_)) (Kd.R_lt (by (with_reducible repeat (first | apply Kd.R_alloc | apply Kd.R_drewN | apply Kd.R_drew)); exact HO_233001.out))) (below_size (by repeat (first | (with_reducible first | exact HB.out | apply below_alloc | apply pw_below_drewN | apply below_drew1 | refine below_set ?_ GE224.out | refine below_set ?_ GE232.out) | exact HB.out)))); have n4_ := Aside0.mk (blk_below (g := gb224) (o := .cells #[.int .i64 0, .slice none 0 0, .int .u64 0] 25 (0, 0)) (by (with_reducible repeat (first | refine blk_drewN ?_ _ | refine blk_drew ?_ | refine blk_alloc ?_ _)); exact BK224.out) hb); have n5_ := Aside0.mk (blk_below (g := gb232) (o := .cells #[.int .i64 (wrap64 (rd l0 0)), .slice Ao68 x233001_1.length co68, .int .u64 (Go.bits .xor .u64 18446744073709551615 t231)] 25 (0, 0)) (by (with_reducible repeat (first | refine blk_drewN ?_ _ | refine blk_drew ?_ | refine blk_alloc ?_ _)); exact BK232.out) hb); have n6_ := Aside0.mk (below_step (by repeat (first | (with_reducible first | exact HB.out | apply below_alloc | apply pw_below_drewN | apply below_drew1 | refine below_set ?_ GE224.out | refine below_set ?_ GE232.out) | exact HB.out)) hb); clear HO_0; clear HO_5; clear HO_233001; clear BK224; clear BK232; clear HB; have HO_0 := n0_; have HO_5 := n1_; have HO_233001 := n2_; have HO265 := n3_; have BK224 := n4_; have BK232 := n5_; have HB := n6_; clear n0_ n1_ n2_ n3_ n4_ n5_ n6_; (try clear hb); (try clear hb2); (try clear hk); (try clear hi); (try clear ho0); obtain ⟨Ao70, co70, eo70⟩ := Kd.R_slice HO265.out; subst eo70) | (go_at_call 28; (with_reducible refine (bytes_Equal.calls _ _ l0 _ _ t263 false _ ?side1 ?side2 ?side3 ?side4 A55.out).mono ?_); (case side1 => repeat (first | exact (Kd.V_reads' HO_0.out).2.2 | (with_reducible refine Kd.C_alloc ?_ _) | (with_reducible refine Kd.C_drewN ?_ _) | (with_reducible refine Kd.C_drew ?_))); (case side2 => exact (Kd.V_reads' HO_0.out).2.1); (case side3 => repeat (first | exact (Kd.R_reads' HO265.out).2.2 | (with_reducible refine Kd.C_alloc ?_ _) | (with_reducible refine Kd.C_drewN ?_ _) | (with_reducible refine Kd.C_drew ?_))); (case side4 => exact (Kd.R_reads' HO265.out).2.1); rintro e w' ⟨rfl, ⟨nd, rfl⟩⟩; (try (rw [drewN_self w69]; generalize hq_ : World.drewN w69 _ = w69; have n0_ : Aside0 (Kd.R (Kd.int .u8) 5 w69 w.heap.size (fun k_ => (w.heap.size ≤ k_) ∧ some k_ ≠ (.slice Ao68 x233001_1.length co68 : Value).ownBlock) (.slice Ao70 t263.length co70) t263) := ⟨by rw [← hq_]; exact (by (with_reducible repeat (first | apply Kd.R_alloc | apply Kd.R_drewN | apply Kd.R_drew)); exact Kd.R_mono HO265.out (fun _ hk => ⟨hk.1.1, hk.2⟩))⟩; have n1_ : Aside0 (Kd.V (Kd.int .u8) 5 w69 w.heap.size (fun k_ => (P0_ k_ ∨ w.heap.size ≤ k_) ∧ some k_ ≠ (.slice Ao70 t263.length co70 : Value).ownBlock ∧ some k_ ≠ (.slice Ao68 x233001_1.length co68 : Value).ownBlock ∧ k_ ≠ gb224 ∧ k_ ≠ gb232) (.slice (some ad225) l0.length c0) l0) := ⟨by rw [← hq_]; exact (by (with_reducible repeat (first | apply Kd.V_alloc | apply Kd.V_drewN | apply Kd.V_drew)); exact Kd.V_mono HO_0.out (fun _ hk => ⟨hk.1.1, ⟨hk.2, ⟨hk.1.2.1, ⟨hk.1.2.2.1, hk.1.2.2.2⟩⟩⟩⟩))⟩; have n2_ : Aside0 (Kd.R (Kd.int .u8) 5 w69 w.heap.size (fun k_ => (w.heap.size ≤ k_) ∧ some k_ ≠ (.slice Ao70 t263.length co70 : Value).ownBlock) (.slice Ao68 x233001_1.length co68) x233001_1) := ⟨by rw [← hq_]; exact (by (with_reducible repeat (first | apply Kd.R_alloc | apply Kd.R_drewN | apply Kd.R_drew)); exact HO_233001.out)⟩; have n3_ : Aside0 (Kd.V (Kd.int .u8) 5 w69 w.heap.size (fun k_ => (P0_ k_ ∨ w.heap.size ≤ k_) ∧ some k_ ≠ (.slice Ao70 t263.length co70 : Value).ownBlock ∧ some k_ ≠ (.slice Ao68 x233001_1.length co68 : Value).ownBlock ∧ k_ ≠ gb224 ∧ k_ ≠ gb232) (.slice Ao65 x5_1.length co65) x5_1) := ⟨by rw [← hq_]; exact (by (with_reducible repeat (first | apply Kd.V_alloc | apply Kd.V_drewN | apply Kd.V_drew)); exact Kd.V_mono HO_5.out (fun _ hk => ⟨hk.1.1, ⟨hk.2, ⟨hk.1.2.1, ⟨hk.1.2.2.1, hk.1.2.2.2⟩⟩⟩⟩))⟩; have n4_ : Aside0 (w69.heap[gb224]? = some (.cells #[.int .i64 0, .slice none 0 0, .int .u64 0] 25 (0, 0))) := ⟨by rw [← hq_]; exact (by (with_reducible repeat (first | refine blk_drewN ?_ _ | refine blk_drew ?_ | refine blk_alloc ?_ _)); exact BK224.out)⟩; have n5_ : Aside0 (w69.heap[gb232]? = some (.cells #[.int .i64 (wrap64 (rd l0 0)), .slice Ao68 x233001_1.length co68, .int .u64 (Go.bits .xor .u64 18446744073709551615 t231)] 25 (0, 0))) := ⟨by rw [← hq_]; exact (by (with_reducible repeat (first | refine blk_drewN ?_ _ | refine blk_drew ?_ | refine blk_alloc ?_ _)); exact BK232.out)⟩; have n6_ : Aside0 (Below w.heap.size w w69) := ⟨by rw [← hq_]; exact (by repeat (first | (with_reducible first | exact HB.out | apply below_alloc | apply pw_below_drewN | apply below_drew1 | refine below_set ?_ GE224.out | refine below_set ?_ GE232.out) | exact HB.out))⟩; clear HO265 HO_0 HO_233001 HO_5 BK224 BK232 HB hq_; have HO265 := n0_; have HO_0 := n1_; have HO_233001 := n2_; have HO_5 := n3_; have BK224 := n4_; have BK232 := n5_; have HB := n6_; clear n0_ n1_ n2_ n3_ n4_ n5_ n6_)); have hcz71_0 : w69.cell? ⟨gb224, 0, none⟩ = some (.int .i64 0) := (blk_cell BK224.out 0).trans rfl; have hcz71_1 : w69.cell? ⟨gb224, 1, none⟩ = some (.slice none 0 0) := (blk_cell BK224.out 1).trans rfl; have hcz71_2 : w69.cell? ⟨gb224, 2, none⟩ = some (.int .u64 0) := (blk_cell BK224.out 2).trans rfl; have hfz71_0 := blk_frozen BK224.out 0; have hfz71_1 := blk_frozen BK224.out 1; have hfz71_2 := blk_frozen BK224.out 2))
                        refine bodyPost_ret (results_ct rfl _ _ gb224 25 #[.int .i64 0, .slice none 0 0, .int .u64 0] (0, 0) _ rfl (by (with_reducible repeat (first | refine blk_drewN ?_ _ | refine blk_drew ?_ | refine blk_alloc ?_ _)); refine blk_put (cs := #[.int .i64 0, .slice none 0 0, .int .u64 0]) ?_ 2 _ rfl; (with_reducible repeat (first | refine blk_drewN ?_ _ | refine blk_drew ?_ | refine blk_alloc ?_ _)); refine blk_put (cs := #[.int .i64 0, .slice none 0 0, .int .u64 0]) ?_ 1 _ rfl; (with_reducible repeat (first | refine blk_drewN ?_ _ | refine blk_drew ?_ | refine blk_alloc ?_ _)); refine blk_put (cs := #[.int .i64 0, .slice none 0 0, .int .u64 0]) ?_ 0 _ rfl; (with_reducible repeat (first | refine blk_drewN ?_ _ | refine blk_drew ?_ | refine blk_alloc ?_ _)); exact BK224.out) Try.underlying25 rfl (by kernel_rfl)) rfl ?_
                        exact ⟨_, by first | rfl | (simp [errW_none, errW_some] <;> rfl) | (simp only [← hji6]; first | rfl | (simp [errW_none, errW_some] <;> rfl)) | (simp [*, errW_none, errW_some] <;> rfl), by first | exact Kd.R_nil _ _ _ _ _ | exact Kd.N_nil _ _ _ _ _ | exact Kd.V_nil _ _ _ _ _ | exact Kd.Q_nil _ _ _ _ _ | exact Kd.S_nil _ _ _ _ _, by repeat (first | (with_reducible first | exact HB.out | apply below_alloc | apply pw_below_drewN | apply below_drew1 | refine below_set ?_ GE224.out | refine below_set ?_ GE232.out) | exact HB.out)⟩
                    · rw [if_neg c54] at H
                      have c54b0 : (t266 == 0) = false := beq_eq_false_iff_ne.mpr c54
                      have c54b1 : (t266 != 0) = true := bne_iff_ne.mpr c54
                      simp only [Option.some.injEq, Prod.mk.injEq] at H
                      obtain ⟨rfl, rfl, rfl, rfl⟩ := H
                      obtain ⟨Ao72, co72, eo72⟩ := Kd.V_slice HO_5.out
                      subst eo72
                      have hnb73 := NB232_224.out
                      have hnc73 := NB224_232.out
                      have hcz74_0 : wr.cell? ⟨gb232, 0, none⟩ = some (.int .i64 (wrap64 (rd l0 0))) := (blk_cell BK232.out 0).trans rfl
                      have hcz74_1 : wr.cell? ⟨gb232, 1, none⟩ = some (u233001) := (blk_cell BK232.out 1).trans rfl
                      have hcz74_2 : wr.cell? ⟨gb232, 2, none⟩ = some (.int .u64 (Go.bits .xor .u64 18446744073709551615 t231)) := (blk_cell BK232.out 2).trans rfl
                      have hfz74_0 := blk_frozen BK232.out 0
                      have hfz74_1 := blk_frozen BK232.out 1
                      have hfz74_2 := blk_frozen BK232.out 2
                      obtain ⟨Ao75, co75, eo75⟩ := Kd.R_slice HO_233001.out
                      subst eo75
                      go_wp2_with (first | ((with_reducible refine gate_callee (f := 9) rfl ?_); refine goesL_ (some 55) rfl rfl Try.func9 (by kernel_rfl) rfl #[.agg #[.int .i64 (wrap64 (rd l0 0)), .slice Ao75 x233001_1.length co75, .int .u64 (Go.bits .xor .u64 18446744073709551615 t231)]] rfl (by (try simp only [List.map_toArray, List.map_cons, List.map_nil]); first | done | rfl | (simp only [List.length_drop, List.length_take]; rfl)) ?_; (with_reducible refine (stamp_Write.calls k1 (wrap64 (rd l0 0)) _ _ x233001_1 (Go.bits .xor .u64 18446744073709551615 t231) t263 t266 _ ?side1 ?side2 A53.out).mono ?_); (case side1 => repeat (first | exact (Kd.R_reads' HO_233001.out).2.2 | (with_reducible refine Kd.C_alloc ?_ _) | (with_reducible refine Kd.C_drewN ?_ _) | (with_reducible refine Kd.C_drew ?_))); (case side2 => exact (Kd.R_reads' HO_233001.out).2.1); rintro e w76 ⟨v264, rfl, ho0, hb⟩; refine ⟨_, rfl, ?_⟩; have n0_ := Aside0.mk (Kd.V_elder' (by (with_reducible repeat (first | apply Kd.V_alloc | apply Kd.V_drewN | apply Kd.V_drew)); exact HO_0.out) (Kd.R_base ho0) hb); have n1_ := Aside0.mk (Kd.V_elder' (by (with_reducible repeat (first | apply Kd.V_alloc | apply Kd.V_drewN | apply Kd.V_drew)); exact HO_5.out) (Kd.R_base ho0) hb); have n2_ := Aside0.mk (Kd.R_elder' (by (with_reducible repeat (first | apply Kd.R_alloc | apply Kd.R_drewN | apply Kd.R_drew)); exact HO_233001.out) (Kd.R_base ho0) hb); have n3_ := Aside0.mk (Kd.R_lower (Kd.R_new' (Kd.R_newM (M := fun k_ => (w.heap.size ≤ k_)) ho0 (below_size (by repeat (first | (with_reducible first | exact HB.out | apply below_alloc | apply pw_below_drewN | apply below_drew1 | refine below_set ?_ GE224.out | refine below_set ?_ GE232.out) | exact HB.out))) (fun k_ h_ => h_)) (Kd.R_lt (by (with_reducible repeat (first | apply Kd.R_alloc | apply Kd.R_drewN | apply Kd.R_drew)); exact HO_233001.out))) (below_size (by repeat (first | (with_reducible first | exact HB.out | apply below_alloc | apply pw_below_drewN | apply below_drew1 | refine below_set ?_ GE224.out | refine below_set ?_ GE232.out) | exact HB.out)))); have n4_ := Aside0.mk (blk_below (g := gb224) (o := .cells #[.int .i64 0, .slice none 0 0, .int .u64 0] 25 (0, 0)) (by (with_reducible repeat (first | refine blk_drewN ?_ _ | refine blk_drew ?_ | refine blk_alloc ?_ _)); exact BK224.out) hb); have n5_ := Aside0.mk (blk_below (g := gb232) (o := .cells #[.int .i64 (wrap64 (rd l0 0)), .slice Ao75 x233001_1.length co75, .int .u64 (Go.bits .xor .u64 18446744073709551615 t231)] 25 (0, 0)) (by (with_reducible repeat (first | refine blk_drewN ?_ _ | refine blk_drew ?_ | refine blk_alloc ?_ _)); exact BK232.out) hb); have n6_ := Aside0.mk (below_step (by repeat (first | (with_reducible first | exact HB.out | apply below_alloc | apply pw_below_drewN | apply below_drew1 | refine below_set ?_ GE224.out | refine below_set ?_ GE232.out) | exact HB.out)) hb); clear HO_0; clear HO_5; clear HO_233001; clear BK224; clear BK232; clear HB; have HO_0 := n0_; have HO_5 := n1_; have HO_233001 := n2_; have HO265 := n3_; have BK224 := n4_; have BK232 := n5_; have HB := n6_; clear n0_ n1_ n2_ n3_ n4_ n5_ n6_; (try clear hb); (try clear hb2); (try clear hk); (try clear hi); (try clear ho0); have hcz77_0 : w76.cell? ⟨gb224, 0, none⟩ = some (.int .i64 0) := (blk_cell BK224.out 0).trans rfl; have hcz77_1 : w76.cell? ⟨gb224, 1, none⟩ = some (.slice none 0 0) := (blk_cell BK224.out 1).trans rfl; have hcz77_2 : w76.cell? ⟨gb224, 2, none⟩ = some (.int .u64 0) := (blk_cell BK224.out 2).trans rfl; have hfz77_0 := blk_frozen BK224.out 0; have hfz77_1 := blk_frozen BK224.out 1; have hfz77_2 := blk_frozen BK224.out 2))
                      refine bodyPost_ret (results_ct rfl _ _ gb224 25 #[.int .i64 0, .slice none 0 0, .int .u64 0] (0, 0) _ rfl (by (with_reducible repeat (first | refine blk_drewN ?_ _ | refine blk_drew ?_ | refine blk_alloc ?_ _)); refine blk_put (cs := #[.int .i64 0, .slice none 0 0, .int .u64 0]) ?_ 2 _ rfl; (with_reducible repeat (first | refine blk_drewN ?_ _ | refine blk_drew ?_ | refine blk_alloc ?_ _)); refine blk_put (cs := #[.int .i64 0, .slice none 0 0, .int .u64 0]) ?_ 1 _ rfl; (with_reducible repeat (first | refine blk_drewN ?_ _ | refine blk_drew ?_ | refine blk_alloc ?_ _)); refine blk_put (cs := #[.int .i64 0, .slice none 0 0, .int .u64 0]) ?_ 0 _ rfl; (with_reducible repeat (first | refine blk_drewN ?_ _ | refine blk_drew ?_ | refine blk_alloc ?_ _)); exact BK224.out) Try.underlying25 rfl (by kernel_rfl)) rfl ?_
                      exact ⟨_, by first | rfl | (simp [errW_none, errW_some] <;> rfl) | (simp only [← hji6]; first | rfl | (simp [errW_none, errW_some] <;> rfl)) | (simp [*, errW_none, errW_some] <;> rfl), by first | exact Kd.R_nil _ _ _ _ _ | exact Kd.N_nil _ _ _ _ _ | exact Kd.V_nil _ _ _ _ _ | exact Kd.Q_nil _ _ _ _ _ | exact Kd.S_nil _ _ _ _ _, by repeat (first | (with_reducible first | exact HB.out | apply below_alloc | apply pw_below_drewN | apply below_drew1 | refine below_set ?_ GE224.out | refine below_set ?_ GE232.out) | exact HB.out)⟩
            · rw [if_neg c11] at H
              exact absurd H (by simp)
          · rw [if_neg c10] at H
            exact absurd H (by simp)
        · rw [if_neg c8] at H
          exact absurd H (by simp)
      · rw [if_neg c7] at H
        exact absurd H (by simp)
    · rw [if_neg c5] at H
      exact absurd H (by simp)

end Go.Proofs.Ytpbcjhckhocgeaa.PS
