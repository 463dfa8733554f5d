import Derived.Test.YteblbippmllfkaaDoorZpgtsPPx0
import Derived.Test.YteblbippmllfkaaDoorZpgtsPPx16
namespace Go.Proofs.YteblbippmllfkaaDoor.PP
open Go.RowKit Go.Proofs.YteblbippmllfkaaDoorW.PrintWords Go.Proofs.YteblbippmllfkaaDoorW.PrintLast Go.Proofs.YteblbippmllfkaaDoorW.PrintMore
attribute [local go_sem] max2_mx_ min2_mn_ max_two min_two max_three min_three max_four min_four   -- for this text's walks alone
set_option linter.unusedVariables false
set_option linter.unusedSimpArgs false
mutual
def munimentref01_formed.j0 : Nat → Bool → Int → Int → ByteArray → List ByteArray → List (S30) → Option (Bool)
  | 0, _, _, _, _, _, _ => none
  | k + 1, x32, x187000, x187001, x187002, x187003, x187004 => if x32 = true then (some false) else (if x187000 = 6 then (if x187000 < 5 then (if (x187004.length : Int) > 0 then (munimentref01_formed.j1 k true x187000 x187001 x187002 x187003 x187004) else (if (x187004.length : Int) > 24 then (munimentref01_formed.j1 k true x187000 x187001 x187002 x187003 x187004) else ((munimentref01_text.f x187002).bind fun t187 => (munimentref01_formed.j1 k (!t187) x187000 x187001 x187002 x187003 x187004)))) else (if (x187004.length : Int) > 24 then (munimentref01_formed.j1 k true x187000 x187001 x187002 x187003 x187004) else ((munimentref01_text.f x187002).bind fun t188 => (munimentref01_formed.j1 k (!t188) x187000 x187001 x187002 x187003 x187004)))) else (if (x187003.length : Int) > 0 then (munimentref01_formed.j1 k true x187000 x187001 x187002 x187003 x187004) else (if x187000 < 5 then (if (x187004.length : Int) > 0 then (munimentref01_formed.j1 k true x187000 x187001 x187002 x187003 x187004) else (if (x187004.length : Int) > 24 then (munimentref01_formed.j1 k true x187000 x187001 x187002 x187003 x187004) else ((munimentref01_text.f x187002).bind fun t189 => (munimentref01_formed.j1 k (!t189) x187000 x187001 x187002 x187003 x187004)))) else (if (x187004.length : Int) > 24 then (munimentref01_formed.j1 k true x187000 x187001 x187002 x187003 x187004) else ((munimentref01_text.f x187002).bind fun t190 => (munimentref01_formed.j1 k (!t190) x187000 x187001 x187002 x187003 x187004))))))
def munimentref01_formed.j1 : Nat → Bool → Int → Int → ByteArray → List ByteArray → List (S30) → Option (Bool)
  | 0, _, _, _, _, _, _ => none
  | k + 1, x64, x187000, x187001, x187002, x187003, x187004 => if x64 = true then (some false) else (if x187000 = 6 then (munimentref01_formed.j2 k ((x187003.length : Int) != (x187004.length : Int)) x187000 x187001 x187002 x187003 x187004) else (munimentref01_formed.j2 k false x187000 x187001 x187002 x187003 x187004))
def munimentref01_formed.j2 : Nat → Bool → Int → Int → ByteArray → List ByteArray → List (S30) → Option (Bool)
  | 0, _, _, _, _, _, _ => none
  | k + 1, x76, x187000, x187001, x187002, x187003, x187004 => if x76 = true then (some false) else (munimentref01_formed.l0 k 0 x187000 x187001 x187002 x187003 x187004)
def munimentref01_formed.l0 : Nat → Int → Int → Int → ByteArray → List ByteArray → List (S30) → Option (Bool)
  | 0, _, _, _, _, _, _ => none
  | k + 1, x3, x187000, x187001, x187002, x187003, x187004 => if x3 < (x187003.length : Int) then (if 0 ≤ x3 then ((munimentref01_text.f (rdOf ByteArray.empty x187003 x3)).bind fun t192 => (if t192 = true then (if x3 > 0 then (if 0 ≤ (wrap64 (x3 - 1)) then (if (wrap64 (x3 - 1)) < (x187003.length : Int) then (if ((Op.bytesLess ((rdOf ByteArray.empty x187003 (wrap64 (x3 - 1))).toList) ((rdOf ByteArray.empty x187003 x3).toList)) = true) then (munimentref01_formed.l0 k (wrap64 (x3 + 1)) x187000 x187001 x187002 x187003 x187004) else (some false)) else (none)) else (none)) else (munimentref01_formed.l0 k (wrap64 (x3 + 1)) x187000 x187001 x187002 x187003 x187004)) else (some false))) else (none)) else (munimentref01_formed.l1 k 0 x187000 x187001 x187002 x187003 x187004)
def munimentref01_formed.l1 : Nat → Int → Int → Int → ByteArray → List ByteArray → List (S30) → Option (Bool)
  | 0, _, _, _, _, _, _ => none
  | k + 1, x4, x187000, x187001, x187002, x187003, x187004 => if x4 < (x187004.length : Int) then (if 0 ≤ x4 then ((munimentref01_formed.f k ((rd_T30 x187004 x4).f0) ((rd_T30 x187004 x4).f1) ((rd_T30 x187004 x4).f2) ((rd_T30 x187004 x4).f3) ((rd_T30 x187004 x4).f4)).bind fun t196 => (if t196 = true then (munimentref01_formed.l1 k (wrap64 (x4 + 1)) x187000 x187001 x187002 x187003 x187004) else (some false))) else (none)) else (some true)
def munimentref01_formed.f : Nat → Int → Int → ByteArray → List ByteArray → List (S30) → Option (Bool)
  | 0, _, _, _, _, _ => none
  | k + 1, a0_0, a0_1, a0_2, l0_3, l0_4 => if a0_0 < 0 then (munimentref01_formed.j0 k true a0_0 a0_1 a0_2 l0_3 l0_4) else (if a0_0 > 6 then (munimentref01_formed.j0 k true a0_0 a0_1 a0_2 l0_3 l0_4) else (if a0_0 = 3 then (if a0_0 = 4 then (munimentref01_formed.j0 k false a0_0 a0_1 a0_2 l0_3 l0_4) else (munimentref01_formed.j0 k (a0_2.toList != ([] : List UInt8)) a0_0 a0_1 a0_2 l0_3 l0_4)) else (if a0_1 = 0 then (if a0_0 = 4 then (munimentref01_formed.j0 k false a0_0 a0_1 a0_2 l0_3 l0_4) else (munimentref01_formed.j0 k (a0_2.toList != ([] : List UInt8)) a0_0 a0_1 a0_2 l0_3 l0_4)) else (munimentref01_formed.j0 k true a0_0 a0_1 a0_2 l0_3 l0_4))))
end
def munimentref01_formed.T10 : Bool × List (List Nat × List Nat) := (true, [([], []), ([0], [0]), ([], []), ([1, 2], [1, 2]), ([3], [3]), ([4], [4]), ([5], [5]), ([6, 5], [6]), ([7], [7]), ([8, 7], [7, 8]), ([9, 7, 7], [7, 9]), ([10], [10]), ([11, 10], [10, 11]), ([10], [10]), ([13, 10], [10, 13]), ([12, 14, 10], [10, 12, 14]), ([15, 10], [10, 15]), ([10], [10]), ([17, 10], [10, 17]), ([10], [10]), ([18, 19, 10], [10, 18, 19]), ([20, 10], [10, 20]), ([16, 21, 10], [10, 16, 21]), ([10, 22, 7], [7, 10, 22]), ([7, 23], [7, 23])])
def munimentref01_formed.B10 : List Nat := [0, 1, 0, 7, 15, 31, 63, 127, 255, 511, 1023, 2047, 4095, 2047, 10239, 32767, 65535, 2047, 133119, 2047, 919551, 1968127, 4194303, 8388607, 16777215]
theorem munimentref01_formed.tab10 : rtab .any (opsOf Tryd.f33 10) = munimentref01_formed.T10 := by kernel_rfl
theorem munimentref01_formed.bits10 : waitsOk munimentref01_formed.T10.2 munimentref01_formed.B10 = true := by kernel_rfl
set_option maxHeartbeats 8000000 in
set_option maxRecDepth 100000 in
theorem munimentref01_formed.calls (k : Nat) : ∀ (a0_0 : Int) (a0_1 : Int) (a0_2 : ByteArray) (A0_3 : Option Addr) (c0_3 : Nat) (l0_3 : List ByteArray) (A0_4 : Option Addr) (c0_4 : Nat) (l0_4 : List (S30)) (r : Bool) (w : World) (hr0_3 : Kd.C Kd.string w A0_3 l0_3.length l0_3) (hc0_3 : l0_3.length ≤ c0_3) (hr0_4 : Kd.C k30 w A0_4 l0_4.length l0_4) (hc0_4 : l0_4.length ≤ c0_4) (h : munimentref01_formed.f k a0_0 a0_1 a0_2 l0_3 l0_4 = some r),
    Calls Tryd.prog 33 #[.agg #[.int .i64 a0_0, .int .i64 a0_1, .string a0_2, .slice A0_3 l0_3.length c0_3, .slice A0_4 l0_4.length c0_4]] w fun e w' => e = .returned (.bool r) ∧ Below w.heap.size w w' := by
  induction k using Nat.strongRecOn with
  | _ k ih =>
  intro a0_0 a0_1 a0_2 A0_3 c0_3 l0_3 A0_4 c0_4 l0_4 r w hr0_3 hc0_3 hr0_4 hc0_4 h
  cases k with
  | zero => exact absurd h (by simp [munimentref01_formed.f])
  | succ k =>
  simp only [munimentref01_formed.f] at h
  have hu30 := Tryd.underlying30
  have HR0_3 := Aside0.mk hr0_3
  have HC0_3 := Aside0.mk hc0_3
  clear hr0_3 hc0_3
  have HR0_4 := Aside0.mk hr0_4
  have HC0_4 := Aside0.mk hc0_4
  clear hr0_4 hc0_4
  have HB := Aside0.mk (Below.refl w.heap.size w)
  have H : (if a0_0 < 0 then (munimentref01_formed.j0 k true a0_0 a0_1 a0_2 l0_3 l0_4) else (if a0_0 > 6 then (munimentref01_formed.j0 k true a0_0 a0_1 a0_2 l0_3 l0_4) else (if a0_0 = 3 then (if a0_0 = 4 then (munimentref01_formed.j0 k false a0_0 a0_1 a0_2 l0_3 l0_4) else (munimentref01_formed.j0 k (a0_2.toList != ([] : List UInt8)) a0_0 a0_1 a0_2 l0_3 l0_4)) else (if a0_1 = 0 then (if a0_0 = 4 then (munimentref01_formed.j0 k false a0_0 a0_1 a0_2 l0_3 l0_4) else (munimentref01_formed.j0 k (a0_2.toList != ([] : List UInt8)) a0_0 a0_1 a0_2 l0_3 l0_4)) else (munimentref01_formed.j0 k true a0_0 a0_1 a0_2 l0_3 l0_4))))) = some r := h
  clear h
  have HC2 := Aside0.mk H
  clear H
  go_enter Tryd.func33, Tryd.ntmps33
  go_upto_region 1 with (first | ((with_reducible refine gate_dst (N := 1) rfl ?_); (try (refine gate_guard (by rfl) ?_; dsimp only)); refine box_event ?hg (N := 1) ?hd (cs := #[.int .i64 a0_0, .int .i64 a0_1, .string a0_2, .slice A0_3 l0_3.length c0_3, .slice A0_4 l0_4.length c0_4]) (t := 30) ?hr ?_; (case hd => rfl); (case hg => rfl); (case hr => first | (go_simp; done) | (go_simp; rfl)); intro gb186 hg w3 hbox hb; have n0_ := Aside0.mk (below_step (by repeat (first | (with_reducible first | exact HB.out | apply below_alloc | apply pw_below_drewN | apply below_drew1) | exact HB.out)) hb); have n1_ := Aside0.mk (hbox); have n2_ := Aside0.mk ((by rw [hg]; exact (below_size (by repeat (first | (with_reducible first | exact HB.out | apply below_alloc | apply pw_below_drewN | apply below_drew1) | exact HB.out))) : w.heap.size ≤ gb186)); have n3_ := Aside0.mk ((by rw [hg]; exact (below_size (by repeat (first | (with_reducible first | exact HB.out | apply below_alloc | apply pw_below_drewN | apply below_drew1) | exact HB.out))) : w.heap.size ≤ gb186)); clear HB; have HB := n0_; have BK186 := n1_; have GW186 := n2_; have GE186 := n3_; clear n0_ n1_ n2_ n3_; clear hb hbox hg))
  (try simp only [Act.put, List.setIfInBounds_toArray, List.set_cons_zero, List.set_cons_succ])
  go_cut [32] (fun v32 wc => ∃ (kq : Nat) (x32_1 : Bool), v32 = .bool x32_1 ∧ Aside0 (munimentref01_formed.j0 kq x32_1 a0_0 a0_1 a0_2 l0_3 l0_4 = some r) ∧ Aside0 (kq ≤ k) ∧ Aside0 (wc.heap[gb186]? = some (.cells #[.int .i64 a0_0, .int .i64 a0_1, .string a0_2, (.slice A0_3 l0_3.length c0_3), (.slice A0_4 l0_4.length c0_4)] 30 (0, 0))) ∧ Aside0 (Below w.heap.size w wc))
  case first =>
    have H := HC2.out
    clear HC2
    by_cases c4 : a0_0 < 0
    · rw [if_pos c4] at H
      have c4b0 : decide (a0_0 < 0) = true := decide_eq_true c4
      clear c4
      (first | rw [c4b0] | (simp only [i64_w, i32_w]; rw [c4b0]) | skip)
      have H' := Aside0.mk H
      clear H
      have hcz5_0 : w3.cell? ⟨gb186, 0, none⟩ = some (.int .i64 a0_0) := (blk_cell BK186.out 0).trans rfl
      have hcz5_1 : w3.cell? ⟨gb186, 1, none⟩ = some (.int .i64 a0_1) := (blk_cell BK186.out 1).trans rfl
      have hcz5_2 : w3.cell? ⟨gb186, 2, none⟩ = some (.string a0_2) := (blk_cell BK186.out 2).trans rfl
      have hcz5_3 : w3.cell? ⟨gb186, 3, none⟩ = some (.slice A0_3 l0_3.length c0_3) := (blk_cell BK186.out 3).trans rfl
      have hcz5_4 : w3.cell? ⟨gb186, 4, none⟩ = some (.slice A0_4 l0_4.length c0_4) := (blk_cell BK186.out 4).trans rfl
      have hfz5_0 := blk_frozen BK186.out 0
      have hfz5_1 := blk_frozen BK186.out 1
      have hfz5_2 := blk_frozen BK186.out 2
      have hfz5_3 := blk_frozen BK186.out 3
      have hfz5_4 := blk_frozen BK186.out 4
      go_wp2
      go_meet
      case rel => exact ⟨_, (true), (by first | rfl | (simp; done) | (simp [*]; done)), H', ⟨by first | omega | exact Nat.le_refl _⟩, ⟨by (with_reducible repeat (first | refine blk_drewN ?_ _ | refine blk_drew ?_ | refine blk_alloc ?_ _)); exact BK186.out⟩, ⟨by repeat (first | (with_reducible first | exact HB.out | apply below_alloc | apply pw_below_drewN | apply below_drew1 | refine below_set ?_ GE186.out) | exact HB.out)⟩⟩
    · rw [if_neg c4] at H
      have c4b0 : decide (a0_0 < 0) = false := decide_eq_false c4
      clear c4
      (first | rw [c4b0] | (simp only [i64_w, i32_w]; rw [c4b0]) | skip)
      by_cases c6 : a0_0 > 6
      · rw [if_pos c6] at H
        have c6b0 : decide (6 < a0_0) = true := decide_eq_true c6
        clear c6
        have H' := Aside0.mk H
        clear H
        have hcz7_0 : w3.cell? ⟨gb186, 0, none⟩ = some (.int .i64 a0_0) := (blk_cell BK186.out 0).trans rfl
        have hcz7_1 : w3.cell? ⟨gb186, 1, none⟩ = some (.int .i64 a0_1) := (blk_cell BK186.out 1).trans rfl
        have hcz7_2 : w3.cell? ⟨gb186, 2, none⟩ = some (.string a0_2) := (blk_cell BK186.out 2).trans rfl
        have hcz7_3 : w3.cell? ⟨gb186, 3, none⟩ = some (.slice A0_3 l0_3.length c0_3) := (blk_cell BK186.out 3).trans rfl
        have hcz7_4 : w3.cell? ⟨gb186, 4, none⟩ = some (.slice A0_4 l0_4.length c0_4) := (blk_cell BK186.out 4).trans rfl
        have hfz7_0 := blk_frozen BK186.out 0
        have hfz7_1 := blk_frozen BK186.out 1
        have hfz7_2 := blk_frozen BK186.out 2
        have hfz7_3 := blk_frozen BK186.out 3
        have hfz7_4 := blk_frozen BK186.out 4
        go_wp2
        go_meet
        case rel => exact ⟨_, (true), (by first | rfl | (simp; done) | (simp [*]; done)), H', ⟨by first | omega | exact Nat.le_refl _⟩, ⟨by (with_reducible repeat (first | refine blk_drewN ?_ _ | refine blk_drew ?_ | refine blk_alloc ?_ _)); exact BK186.out⟩, ⟨by repeat (first | (with_reducible first | exact HB.out | apply below_alloc | apply pw_below_drewN | apply below_drew1 | refine below_set ?_ GE186.out) | exact HB.out)⟩⟩
      · rw [if_neg c6] at H
        have c6b0 : decide (6 < a0_0) = false := decide_eq_false c6
        clear c6
        by_cases c8 : a0_0 = 3
        · rw [if_pos c8] at H
          have c8b0 : (a0_0 == 3) = true := beq_iff_eq.mpr c8
          have c8b1 : (a0_0 != 3) = false := bne_eq_false_iff_eq.mpr c8
          clear c8
          by_cases c9 : a0_0 = 4
          · rw [if_pos c9] at H
            have c9b0 : (a0_0 == 4) = true := beq_iff_eq.mpr c9
            have c9b1 : (a0_0 != 4) = false := bne_eq_false_iff_eq.mpr c9
            clear c9
            have H' := Aside0.mk H
            clear H
            have hcz10_0 : w3.cell? ⟨gb186, 0, none⟩ = some (.int .i64 a0_0) := (blk_cell BK186.out 0).trans rfl
            have hcz10_1 : w3.cell? ⟨gb186, 1, none⟩ = some (.int .i64 a0_1) := (blk_cell BK186.out 1).trans rfl
            have hcz10_2 : w3.cell? ⟨gb186, 2, none⟩ = some (.string a0_2) := (blk_cell BK186.out 2).trans rfl
            have hcz10_3 : w3.cell? ⟨gb186, 3, none⟩ = some (.slice A0_3 l0_3.length c0_3) := (blk_cell BK186.out 3).trans rfl
            have hcz10_4 : w3.cell? ⟨gb186, 4, none⟩ = some (.slice A0_4 l0_4.length c0_4) := (blk_cell BK186.out 4).trans rfl
            have hfz10_0 := blk_frozen BK186.out 0
            have hfz10_1 := blk_frozen BK186.out 1
            have hfz10_2 := blk_frozen BK186.out 2
            have hfz10_3 := blk_frozen BK186.out 3
            have hfz10_4 := blk_frozen BK186.out 4
            go_wp2
            go_meet
            case rel => exact ⟨_, (false), (by first | rfl | (simp; done) | (simp [*]; done)), H', ⟨by first | omega | exact Nat.le_refl _⟩, ⟨by (with_reducible repeat (first | refine blk_drewN ?_ _ | refine blk_drew ?_ | refine blk_alloc ?_ _)); exact BK186.out⟩, ⟨by repeat (first | (with_reducible first | exact HB.out | apply below_alloc | apply pw_below_drewN | apply below_drew1 | refine below_set ?_ GE186.out) | exact HB.out)⟩⟩
          · rw [if_neg c9] at H
            have c9b0 : (a0_0 == 4) = false := beq_eq_false_iff_ne.mpr c9
            have c9b1 : (a0_0 != 4) = true := bne_iff_ne.mpr c9
            have H' := Aside0.mk H
            clear H
            have hcz11_0 : w3.cell? ⟨gb186, 0, none⟩ = some (.int .i64 a0_0) := (blk_cell BK186.out 0).trans rfl
            have hcz11_1 : w3.cell? ⟨gb186, 1, none⟩ = some (.int .i64 a0_1) := (blk_cell BK186.out 1).trans rfl
            have hcz11_2 : w3.cell? ⟨gb186, 2, none⟩ = some (.string a0_2) := (blk_cell BK186.out 2).trans rfl
            have hcz11_3 : w3.cell? ⟨gb186, 3, none⟩ = some (.slice A0_3 l0_3.length c0_3) := (blk_cell BK186.out 3).trans rfl
            have hcz11_4 : w3.cell? ⟨gb186, 4, none⟩ = some (.slice A0_4 l0_4.length c0_4) := (blk_cell BK186.out 4).trans rfl
            have hfz11_0 := blk_frozen BK186.out 0
            have hfz11_1 := blk_frozen BK186.out 1
            have hfz11_2 := blk_frozen BK186.out 2
            have hfz11_3 := blk_frozen BK186.out 3
            have hfz11_4 := blk_frozen BK186.out 4
            go_wp2
            go_meet
            case rel => exact ⟨_, ((a0_2.toList != ([] : List UInt8))), (by first | rfl | (simp; done) | (simp [*]; done)), H', ⟨by first | omega | exact Nat.le_refl _⟩, ⟨by (with_reducible repeat (first | refine blk_drewN ?_ _ | refine blk_drew ?_ | refine blk_alloc ?_ _)); exact BK186.out⟩, ⟨by repeat (first | (with_reducible first | exact HB.out | apply below_alloc | apply pw_below_drewN | apply below_drew1 | refine below_set ?_ GE186.out) | exact HB.out)⟩⟩
        · rw [if_neg c8] at H
          have c8b0 : (a0_0 == 3) = false := beq_eq_false_iff_ne.mpr c8
          have c8b1 : (a0_0 != 3) = true := bne_iff_ne.mpr c8
          by_cases c12 : a0_1 = 0
          · rw [if_pos c12] at H
            have c12b0 : (a0_1 == 0) = true := beq_iff_eq.mpr c12
            have c12b1 : (a0_1 != 0) = false := bne_eq_false_iff_eq.mpr c12
            clear c12
            by_cases c13 : a0_0 = 4
            · rw [if_pos c13] at H
              have c13b0 : (a0_0 == 4) = true := beq_iff_eq.mpr c13
              have c13b1 : (a0_0 != 4) = false := bne_eq_false_iff_eq.mpr c13
              clear c13
              have H' := Aside0.mk H
              clear H
              have hcz14_0 : w3.cell? ⟨gb186, 0, none⟩ = some (.int .i64 a0_0) := (blk_cell BK186.out 0).trans rfl
              have hcz14_1 : w3.cell? ⟨gb186, 1, none⟩ = some (.int .i64 a0_1) := (blk_cell BK186.out 1).trans rfl
              have hcz14_2 : w3.cell? ⟨gb186, 2, none⟩ = some (.string a0_2) := (blk_cell BK186.out 2).trans rfl
              have hcz14_3 : w3.cell? ⟨gb186, 3, none⟩ = some (.slice A0_3 l0_3.length c0_3) := (blk_cell BK186.out 3).trans rfl
              have hcz14_4 : w3.cell? ⟨gb186, 4, none⟩ = some (.slice A0_4 l0_4.length c0_4) := (blk_cell BK186.out 4).trans rfl
              have hfz14_0 := blk_frozen BK186.out 0
              have hfz14_1 := blk_frozen BK186.out 1
              have hfz14_2 := blk_frozen BK186.out 2
              have hfz14_3 := blk_frozen BK186.out 3
              have hfz14_4 := blk_frozen BK186.out 4
              go_wp2
              go_meet
              case rel => exact ⟨_, (false), (by first | rfl | (simp; done) | (simp [*]; done)), H', ⟨by first | omega | exact Nat.le_refl _⟩, ⟨by (with_reducible repeat (first | refine blk_drewN ?_ _ | refine blk_drew ?_ | refine blk_alloc ?_ _)); exact BK186.out⟩, ⟨by repeat (first | (with_reducible first | exact HB.out | apply below_alloc | apply pw_below_drewN | apply below_drew1 | refine below_set ?_ GE186.out) | exact HB.out)⟩⟩
            · rw [if_neg c13] at H
              have c13b0 : (a0_0 == 4) = false := beq_eq_false_iff_ne.mpr c13
              have c13b1 : (a0_0 != 4) = true := bne_iff_ne.mpr c13
              have H' := Aside0.mk H
              clear H
              have hcz15_0 : w3.cell? ⟨gb186, 0, none⟩ = some (.int .i64 a0_0) := (blk_cell BK186.out 0).trans rfl
              have hcz15_1 : w3.cell? ⟨gb186, 1, none⟩ = some (.int .i64 a0_1) := (blk_cell BK186.out 1).trans rfl
              have hcz15_2 : w3.cell? ⟨gb186, 2, none⟩ = some (.string a0_2) := (blk_cell BK186.out 2).trans rfl
              have hcz15_3 : w3.cell? ⟨gb186, 3, none⟩ = some (.slice A0_3 l0_3.length c0_3) := (blk_cell BK186.out 3).trans rfl
              have hcz15_4 : w3.cell? ⟨gb186, 4, none⟩ = some (.slice A0_4 l0_4.length c0_4) := (blk_cell BK186.out 4).trans rfl
              have hfz15_0 := blk_frozen BK186.out 0
              have hfz15_1 := blk_frozen BK186.out 1
              have hfz15_2 := blk_frozen BK186.out 2
              have hfz15_3 := blk_frozen BK186.out 3
              have hfz15_4 := blk_frozen BK186.out 4
              go_wp2
              go_meet
              case rel => exact ⟨_, ((a0_2.toList != ([] : List UInt8))), (by first | rfl | (simp; done) | (simp [*]; done)), H', ⟨by first | omega | exact Nat.le_refl _⟩, ⟨by (with_reducible repeat (first | refine blk_drewN ?_ _ | refine blk_drew ?_ | refine blk_alloc ?_ _)); exact BK186.out⟩, ⟨by repeat (first | (with_reducible first | exact HB.out | apply below_alloc | apply pw_below_drewN | apply below_drew1 | refine below_set ?_ GE186.out) | exact HB.out)⟩⟩
          · rw [if_neg c12] at H
            have c12b0 : (a0_1 == 0) = false := beq_eq_false_iff_ne.mpr c12
            have c12b1 : (a0_1 != 0) = true := bne_iff_ne.mpr c12
            have H' := Aside0.mk H
            clear H
            have hcz16_0 : w3.cell? ⟨gb186, 0, none⟩ = some (.int .i64 a0_0) := (blk_cell BK186.out 0).trans rfl
            have hcz16_1 : w3.cell? ⟨gb186, 1, none⟩ = some (.int .i64 a0_1) := (blk_cell BK186.out 1).trans rfl
            have hcz16_2 : w3.cell? ⟨gb186, 2, none⟩ = some (.string a0_2) := (blk_cell BK186.out 2).trans rfl
            have hcz16_3 : w3.cell? ⟨gb186, 3, none⟩ = some (.slice A0_3 l0_3.length c0_3) := (blk_cell BK186.out 3).trans rfl
            have hcz16_4 : w3.cell? ⟨gb186, 4, none⟩ = some (.slice A0_4 l0_4.length c0_4) := (blk_cell BK186.out 4).trans rfl
            have hfz16_0 := blk_frozen BK186.out 0
            have hfz16_1 := blk_frozen BK186.out 1
            have hfz16_2 := blk_frozen BK186.out 2
            have hfz16_3 := blk_frozen BK186.out 3
            have hfz16_4 := blk_frozen BK186.out 4
            go_wp2
            go_meet
            case rel => exact ⟨_, (true), (by first | rfl | (simp; done) | (simp [*]; done)), H', ⟨by first | omega | exact Nat.le_refl _⟩, ⟨by (with_reducible repeat (first | refine blk_drewN ?_ _ | refine blk_drew ?_ | refine blk_alloc ?_ _)); exact BK186.out⟩, ⟨by repeat (first | (with_reducible first | exact HB.out | apply below_alloc | apply pw_below_drewN | apply below_drew1 | refine below_set ?_ GE186.out) | exact HB.out)⟩⟩
  case rest =>
    clear HC2
    try clear c1
    try clear p2
    try clear c3
    try clear c4
    try clear c4b0
    try clear c6
    try clear c6b0
    try clear c8
    try clear c8b0
    try clear c8b1
    try clear c9
    try clear c9b0
    try clear c9b1
    try clear c12
    try clear c12b0
    try clear c12b1
    try clear c13
    try clear c13b0
    try clear c13b1
    try clear hcz10_0
    try clear hcz10_1
    try clear hcz10_2
    try clear hcz10_3
    try clear hcz10_4
    try clear hcz11_0
    try clear hcz11_1
    try clear hcz11_2
    try clear hcz11_3
    try clear hcz11_4
    try clear hcz14_0
    try clear hcz14_1
    try clear hcz14_2
    try clear hcz14_3
    try clear hcz14_4
    try clear hcz15_0
    try clear hcz15_1
    try clear hcz15_2
    try clear hcz15_3
    try clear hcz15_4
    try clear hcz16_0
    try clear hcz16_1
    try clear hcz16_2
    try clear hcz16_3
    try clear hcz16_4
    try clear hcz5_0
    try clear hcz5_1
    try clear hcz5_2
    try clear hcz5_3
    try clear hcz5_4
    try clear hcz7_0
    try clear hcz7_1
    try clear hcz7_2
    try clear hcz7_3
    try clear hcz7_4
    try clear hfz10_0
    try clear hfz10_1
    try clear hfz10_2
    try clear hfz10_3
    try clear hfz10_4
    try clear hfz11_0
    try clear hfz11_1
    try clear hfz11_2
    try clear hfz11_3
    try clear hfz11_4
    try clear hfz14_0
    try clear hfz14_1
    try clear hfz14_2
    try clear hfz14_3
    try clear hfz14_4
    try clear hfz15_0
    try clear hfz15_1
    try clear hfz15_2
    try clear hfz15_3
    try clear hfz15_4
    try clear hfz16_0
    try clear hfz16_1
    try clear hfz16_2
    try clear hfz16_3
    try clear hfz16_4
    try clear hfz5_0
    try clear hfz5_1
    try clear hfz5_2
    try clear hfz5_3
    try clear hfz5_4
    try clear hfz7_0
    try clear hfz7_1
    try clear hfz7_2
    try clear hfz7_3
    try clear hfz7_4
    obtain ⟨kq, x32_1, rfl, HA, HJ1, BK186, HB⟩ := hcut
    cases kq with
    | zero => exact absurd HA.out (by simp [munimentref01_formed.j0])
    | succ kj1 =>
      have H := HA.out
      clear HA
      simp only [munimentref01_formed.j0] at H
      by_cases c17 : x32_1 = true
      · subst c17
        have H1 : (some false) = some r := by rw [if_pos rfl] at H; exact H
        clear H
        have H := H1
        clear H1
        obtain rfl := Option.some.inj H
        go_wp2
        go_ret
        exact ⟨by first | rfl | (simp [errW_none, errW_some] <;> rfl) | (simp [*, errW_none, errW_some] <;> rfl), by repeat (first | (with_reducible first | exact HB.out | apply below_alloc | apply pw_below_drewN | apply below_drew1 | refine below_set ?_ GE186.out) | exact HB.out)⟩
      · replace c17 := Bool.eq_false_iff.mpr c17
        subst c17
        have H1 : (if a0_0 = 6 then (if a0_0 < 5 then (if (l0_4.length : Int) > 0 then (munimentref01_formed.j1 kj1 true a0_0 a0_1 a0_2 l0_3 l0_4) else (if (l0_4.length : Int) > 24 then (munimentref01_formed.j1 kj1 true a0_0 a0_1 a0_2 l0_3 l0_4) else ((munimentref01_text.f a0_2).bind fun t187 => (munimentref01_formed.j1 kj1 (!t187) a0_0 a0_1 a0_2 l0_3 l0_4)))) else (if (l0_4.length : Int) > 24 then (munimentref01_formed.j1 kj1 true a0_0 a0_1 a0_2 l0_3 l0_4) else ((munimentref01_text.f a0_2).bind fun t188 => (munimentref01_formed.j1 kj1 (!t188) a0_0 a0_1 a0_2 l0_3 l0_4)))) else (if (l0_3.length : Int) > 0 then (munimentref01_formed.j1 kj1 true a0_0 a0_1 a0_2 l0_3 l0_4) else (if a0_0 < 5 then (if (l0_4.length : Int) > 0 then (munimentref01_formed.j1 kj1 true a0_0 a0_1 a0_2 l0_3 l0_4) else (if (l0_4.length : Int) > 24 then (munimentref01_formed.j1 kj1 true a0_0 a0_1 a0_2 l0_3 l0_4) else ((munimentref01_text.f a0_2).bind fun t189 => (munimentref01_formed.j1 kj1 (!t189) a0_0 a0_1 a0_2 l0_3 l0_4)))) else (if (l0_4.length : Int) > 24 then (munimentref01_formed.j1 kj1 true a0_0 a0_1 a0_2 l0_3 l0_4) else ((munimentref01_text.f a0_2).bind fun t190 => (munimentref01_formed.j1 kj1 (!t190) a0_0 a0_1 a0_2 l0_3 l0_4)))))) = some r := by rw [if_neg (show ¬ (false = true) by decide)] at H; exact H
        clear H
        have H := H1
        clear H1
        have HC18 := Aside0.mk H
        clear H
        go_upto_region 3 with (fail)
        go_cut [64] (fun v64 wc => ∃ (kq : Nat) (x64_17 : Bool), v64 = .bool x64_17 ∧ Aside0 (munimentref01_formed.j1 kq x64_17 a0_0 a0_1 a0_2 l0_3 l0_4 = some r) ∧ Aside0 (kq ≤ kj1) ∧ Aside0 (wc.heap[gb186]? = some (.cells #[.int .i64 a0_0, .int .i64 a0_1, .string a0_2, (.slice A0_3 l0_3.length c0_3), (.slice A0_4 l0_4.length c0_4)] 30 (0, 0))) ∧ Aside0 (Below w.heap.size w wc))
        case first =>
          have H := HC18.out
          clear HC18
          by_cases c19 : a0_0 = 6
          · rw [if_pos c19] at H
            have c19b0 : (a0_0 == 6) = true := beq_iff_eq.mpr c19
            have c19b1 : (a0_0 != 6) = false := bne_eq_false_iff_eq.mpr c19
            clear c19
            (first | rw [c19b0] | (simp only [i64_w, i32_w]; rw [c19b0]) | skip)
            by_cases c20 : a0_0 < 5
            · rw [if_pos c20] at H
              have c20b0 : decide (a0_0 < 5) = true := decide_eq_true c20
              clear c20
              by_cases c21 : (l0_4.length : Int) > 0
              · rw [if_pos c21] at H
                have c21b0 : decide (0 < (l0_4.length : Int)) = true := decide_eq_true c21
                have c21b1 : decide (0 < l0_4.length) = true := decide_eq_true (by omega)
                clear c21
                have H' := Aside0.mk H
                clear H
                have hcz22_0 : wc.cell? ⟨gb186, 0, none⟩ = some (.int .i64 a0_0) := (blk_cell BK186.out 0).trans rfl
                have hcz22_1 : wc.cell? ⟨gb186, 1, none⟩ = some (.int .i64 a0_1) := (blk_cell BK186.out 1).trans rfl
                have hcz22_2 : wc.cell? ⟨gb186, 2, none⟩ = some (.string a0_2) := (blk_cell BK186.out 2).trans rfl
                have hcz22_3 : wc.cell? ⟨gb186, 3, none⟩ = some (.slice A0_3 l0_3.length c0_3) := (blk_cell BK186.out 3).trans rfl
                have hcz22_4 : wc.cell? ⟨gb186, 4, none⟩ = some (.slice A0_4 l0_4.length c0_4) := (blk_cell BK186.out 4).trans rfl
                have hfz22_0 := blk_frozen BK186.out 0
                have hfz22_1 := blk_frozen BK186.out 1
                have hfz22_2 := blk_frozen BK186.out 2
                have hfz22_3 := blk_frozen BK186.out 3
                have hfz22_4 := blk_frozen BK186.out 4
                go_wp2
                go_meet
                case rel => exact ⟨_, (true), (by first | rfl | (simp; done) | (simp [*]; done)), H', ⟨by have := HJ1.out; first | omega | exact Nat.le_refl _⟩, ⟨by (with_reducible repeat (first | refine blk_drewN ?_ _ | refine blk_drew ?_ | refine blk_alloc ?_ _)); exact BK186.out⟩, ⟨by repeat (first | (with_reducible first | exact HB.out | apply below_alloc | apply pw_below_drewN | apply below_drew1 | refine below_set ?_ GE186.out) | exact HB.out)⟩⟩
              · rw [if_neg c21] at H
                have c21b0 : decide (0 < (l0_4.length : Int)) = false := decide_eq_false c21
                have c21b1 : decide (0 < l0_4.length) = false := decide_eq_false (by omega)
                clear c21
                by_cases c23 : (l0_4.length : Int) > 24
                · rw [if_pos c23] at H
                  have c23b0 : decide (24 < (l0_4.length : Int)) = true := decide_eq_true c23
                  have c23b1 : decide (24 < l0_4.length) = true := decide_eq_true (by omega)
                  clear c23
                  have H' := Aside0.mk H
                  clear H
                  have hcz24_0 : wc.cell? ⟨gb186, 0, none⟩ = some (.int .i64 a0_0) := (blk_cell BK186.out 0).trans rfl
                  have hcz24_1 : wc.cell? ⟨gb186, 1, none⟩ = some (.int .i64 a0_1) := (blk_cell BK186.out 1).trans rfl
                  have hcz24_2 : wc.cell? ⟨gb186, 2, none⟩ = some (.string a0_2) := (blk_cell BK186.out 2).trans rfl
                  have hcz24_3 : wc.cell? ⟨gb186, 3, none⟩ = some (.slice A0_3 l0_3.length c0_3) := (blk_cell BK186.out 3).trans rfl
                  have hcz24_4 : wc.cell? ⟨gb186, 4, none⟩ = some (.slice A0_4 l0_4.length c0_4) := (blk_cell BK186.out 4).trans rfl
                  have hfz24_0 := blk_frozen BK186.out 0
                  have hfz24_1 := blk_frozen BK186.out 1
                  have hfz24_2 := blk_frozen BK186.out 2
                  have hfz24_3 := blk_frozen BK186.out 3
                  have hfz24_4 := blk_frozen BK186.out 4
                  go_wp2
                  go_meet
                  case rel => exact ⟨_, (true), (by first | rfl | (simp; done) | (simp [*]; done)), H', ⟨by have := HJ1.out; first | omega | exact Nat.le_refl _⟩, ⟨by (with_reducible repeat (first | refine blk_drewN ?_ _ | refine blk_drew ?_ | refine blk_alloc ?_ _)); exact BK186.out⟩, ⟨by repeat (first | (with_reducible first | exact HB.out | apply below_alloc | apply pw_below_drewN | apply below_drew1 | refine below_set ?_ GE186.out) | exact HB.out)⟩⟩
                · rw [if_neg c23] at H
                  have c23b0 : decide (24 < (l0_4.length : Int)) = false := decide_eq_false c23
                  have c23b1 : decide (24 < l0_4.length) = false := decide_eq_false (by omega)
                  clear c23
                  replace H := Option.bind_eq_some_iff.mp H
                  obtain ⟨t187, A250, H⟩ := H
                  replace H : (munimentref01_formed.j1 kj1 (!t187) a0_0 a0_1 a0_2 l0_3 l0_4) = some r := H
                  have A25 := Aside0.mk A250
                  clear A250
                  have H' := Aside0.mk H
                  clear H
                  have hcz26_0 : wc.cell? ⟨gb186, 0, none⟩ = some (.int .i64 a0_0) := (blk_cell BK186.out 0).trans rfl
                  have hcz26_1 : wc.cell? ⟨gb186, 1, none⟩ = some (.int .i64 a0_1) := (blk_cell BK186.out 1).trans rfl
                  have hcz26_2 : wc.cell? ⟨gb186, 2, none⟩ = some (.string a0_2) := (blk_cell BK186.out 2).trans rfl
                  have hcz26_3 : wc.cell? ⟨gb186, 3, none⟩ = some (.slice A0_3 l0_3.length c0_3) := (blk_cell BK186.out 3).trans rfl
                  have hcz26_4 : wc.cell? ⟨gb186, 4, none⟩ = some (.slice A0_4 l0_4.length c0_4) := (blk_cell BK186.out 4).trans rfl
                  have hfz26_0 := blk_frozen BK186.out 0
                  have hfz26_1 := blk_frozen BK186.out 1
                  have hfz26_2 := blk_frozen BK186.out 2
                  have hfz26_3 := blk_frozen BK186.out 3
                  have hfz26_4 := blk_frozen BK186.out 4
                  go_wp2_with (first | (go_at_call 39; (with_reducible refine (munimentref01_text.calls a0_2 t187 _ A25.out).mono ?_); rintro e w27 ⟨rfl, hb⟩; have n0_ := Aside0.mk (blk_below (g := gb186) (o := .cells #[.int .i64 a0_0, .int .i64 a0_1, .string a0_2, .slice A0_3 l0_3.length c0_3, .slice A0_4 l0_4.length c0_4] 30 (0, 0)) (by (with_reducible repeat (first | refine blk_drewN ?_ _ | refine blk_drew ?_ | refine blk_alloc ?_ _)); exact BK186.out) hb); have n1_ := Aside0.mk (below_step (by repeat (first | (with_reducible first | exact HB.out | apply below_alloc | apply pw_below_drewN | apply below_drew1 | refine below_set ?_ GE186.out) | exact HB.out)) hb); clear BK186; clear HB; have BK186 := n0_; have HB := n1_; clear n0_ n1_; (try clear hb); (try clear hb2); (try clear hk); (try clear hi)))
                  go_meet
                  case rel => exact ⟨_, (!t187), (by first | rfl | (simp; done) | (simp [*]; done)), H', ⟨by have := HJ1.out; first | omega | exact Nat.le_refl _⟩, ⟨by (with_reducible repeat (first | refine blk_drewN ?_ _ | refine blk_drew ?_ | refine blk_alloc ?_ _)); exact BK186.out⟩, ⟨by repeat (first | (with_reducible first | exact HB.out | apply below_alloc | apply pw_below_drewN | apply below_drew1 | refine below_set ?_ GE186.out) | exact HB.out)⟩⟩
            · rw [if_neg c20] at H
              have c20b0 : decide (a0_0 < 5) = false := decide_eq_false c20
              clear c20
              by_cases c28 : (l0_4.length : Int) > 24
              · rw [if_pos c28] at H
                have c28b0 : decide (24 < (l0_4.length : Int)) = true := decide_eq_true c28
                have c28b1 : decide (24 < l0_4.length) = true := decide_eq_true (by omega)
                clear c28
                have H' := Aside0.mk H
                clear H
                have hcz29_0 : wc.cell? ⟨gb186, 0, none⟩ = some (.int .i64 a0_0) := (blk_cell BK186.out 0).trans rfl
                have hcz29_1 : wc.cell? ⟨gb186, 1, none⟩ = some (.int .i64 a0_1) := (blk_cell BK186.out 1).trans rfl
                have hcz29_2 : wc.cell? ⟨gb186, 2, none⟩ = some (.string a0_2) := (blk_cell BK186.out 2).trans rfl
                have hcz29_3 : wc.cell? ⟨gb186, 3, none⟩ = some (.slice A0_3 l0_3.length c0_3) := (blk_cell BK186.out 3).trans rfl
                have hcz29_4 : wc.cell? ⟨gb186, 4, none⟩ = some (.slice A0_4 l0_4.length c0_4) := (blk_cell BK186.out 4).trans rfl
                have hfz29_0 := blk_frozen BK186.out 0
                have hfz29_1 := blk_frozen BK186.out 1
                have hfz29_2 := blk_frozen BK186.out 2
                have hfz29_3 := blk_frozen BK186.out 3
                have hfz29_4 := blk_frozen BK186.out 4
                go_wp2
                go_meet
                case rel => exact ⟨_, (true), (by first | rfl | (simp; done) | (simp [*]; done)), H', ⟨by have := HJ1.out; first | omega | exact Nat.le_refl _⟩, ⟨by (with_reducible repeat (first | refine blk_drewN ?_ _ | refine blk_drew ?_ | refine blk_alloc ?_ _)); exact BK186.out⟩, ⟨by repeat (first | (with_reducible first | exact HB.out | apply below_alloc | apply pw_below_drewN | apply below_drew1 | refine below_set ?_ GE186.out) | exact HB.out)⟩⟩
              · rw [if_neg c28] at H
                have c28b0 : decide (24 < (l0_4.length : Int)) = false := decide_eq_false c28
                have c28b1 : decide (24 < l0_4.length) = false := decide_eq_false (by omega)
                clear c28
                replace H := Option.bind_eq_some_iff.mp H
                obtain ⟨t188, A300, H⟩ := H
                replace H : (munimentref01_formed.j1 kj1 (!t188) a0_0 a0_1 a0_2 l0_3 l0_4) = some r := H
                have A30 := Aside0.mk A300
                clear A300
                have H' := Aside0.mk H
                clear H
                have hcz31_0 : wc.cell? ⟨gb186, 0, none⟩ = some (.int .i64 a0_0) := (blk_cell BK186.out 0).trans rfl
                have hcz31_1 : wc.cell? ⟨gb186, 1, none⟩ = some (.int .i64 a0_1) := (blk_cell BK186.out 1).trans rfl
                have hcz31_2 : wc.cell? ⟨gb186, 2, none⟩ = some (.string a0_2) := (blk_cell BK186.out 2).trans rfl
                have hcz31_3 : wc.cell? ⟨gb186, 3, none⟩ = some (.slice A0_3 l0_3.length c0_3) := (blk_cell BK186.out 3).trans rfl
                have hcz31_4 : wc.cell? ⟨gb186, 4, none⟩ = some (.slice A0_4 l0_4.length c0_4) := (blk_cell BK186.out 4).trans rfl
                have hfz31_0 := blk_frozen BK186.out 0
                have hfz31_1 := blk_frozen BK186.out 1
                have hfz31_2 := blk_frozen BK186.out 2
                have hfz31_3 := blk_frozen BK186.out 3
                have hfz31_4 := blk_frozen BK186.out 4
                go_wp2_with (first | (go_at_call 39; (with_reducible refine (munimentref01_text.calls a0_2 t188 _ A30.out).mono ?_); rintro e w32 ⟨rfl, hb⟩; have n0_ := Aside0.mk (blk_below (g := gb186) (o := .cells #[.int .i64 a0_0, .int .i64 a0_1, .string a0_2, .slice A0_3 l0_3.length c0_3, .slice A0_4 l0_4.length c0_4] 30 (0, 0)) (by (with_reducible repeat (first | refine blk_drewN ?_ _ | refine blk_drew ?_ | refine blk_alloc ?_ _)); exact BK186.out) hb); have n1_ := Aside0.mk (below_step (by repeat (first | (with_reducible first | exact HB.out | apply below_alloc | apply pw_below_drewN | apply below_drew1 | refine below_set ?_ GE186.out) | exact HB.out)) hb); clear BK186; clear HB; have BK186 := n0_; have HB := n1_; clear n0_ n1_; (try clear hb); (try clear hb2); (try clear hk); (try clear hi)))
                go_meet
                case rel => exact ⟨_, (!t188), (by first | rfl | (simp; done) | (simp [*]; done)), H', ⟨by have := HJ1.out; first | omega | exact Nat.le_refl _⟩, ⟨by (with_reducible repeat (first | refine blk_drewN ?_ _ | refine blk_drew ?_ | refine blk_alloc ?_ _)); exact BK186.out⟩, ⟨by repeat (first | (with_reducible first | exact HB.out | apply below_alloc | apply pw_below_drewN | apply below_drew1 | refine below_set ?_ GE186.out) | exact HB.out)⟩⟩
          · rw [if_neg c19] at H
            have c19b0 : (a0_0 == 6) = false := beq_eq_false_iff_ne.mpr c19
            have c19b1 : (a0_0 != 6) = true := bne_iff_ne.mpr c19
            (first | rw [c19b0] | (simp only [i64_w, i32_w]; rw [c19b0]) | skip)
            by_cases c33 : (l0_3.length : Int) > 0
            · rw [if_pos c33] at H
              have c33b0 : decide (0 < (l0_3.length : Int)) = true := decide_eq_true c33
              have c33b1 : decide (0 < l0_3.length) = true := decide_eq_true (by omega)
              clear c33
              have H' := Aside0.mk H
              clear H
              have hcz34_0 : wc.cell? ⟨gb186, 0, none⟩ = some (.int .i64 a0_0) := (blk_cell BK186.out 0).trans rfl
              have hcz34_1 : wc.cell? ⟨gb186, 1, none⟩ = some (.int .i64 a0_1) := (blk_cell BK186.out 1).trans rfl
              have hcz34_2 : wc.cell? ⟨gb186, 2, none⟩ = some (.string a0_2) := (blk_cell BK186.out 2).trans rfl
              have hcz34_3 : wc.cell? ⟨gb186, 3, none⟩ = some (.slice A0_3 l0_3.length c0_3) := (blk_cell BK186.out 3).trans rfl
              have hcz34_4 : wc.cell? ⟨gb186, 4, none⟩ = some (.slice A0_4 l0_4.length c0_4) := (blk_cell BK186.out 4).trans rfl
              have hfz34_0 := blk_frozen BK186.out 0
              have hfz34_1 := blk_frozen BK186.out 1
              have hfz34_2 := blk_frozen BK186.out 2
              have hfz34_3 := blk_frozen BK186.out 3
              have hfz34_4 := blk_frozen BK186.out 4
              go_wp2
              go_meet
              case rel => exact ⟨_, (true), (by first | rfl | (simp; done) | (simp [*]; done)), H', ⟨by have := HJ1.out; first | omega | exact Nat.le_refl _⟩, ⟨by (with_reducible repeat (first | refine blk_drewN ?_ _ | refine blk_drew ?_ | refine blk_alloc ?_ _)); exact BK186.out⟩, ⟨by repeat (first | (with_reducible first | exact HB.out | apply below_alloc | apply pw_below_drewN | apply below_drew1 | refine below_set ?_ GE186.out) | exact HB.out)⟩⟩
            · rw [if_neg c33] at H
              have c33b0 : decide (0 < (l0_3.length : Int)) = false := decide_eq_false c33
              have c33b1 : decide (0 < l0_3.length) = false := decide_eq_false (by omega)
              clear c33
              by_cases c35 : a0_0 < 5
              · rw [if_pos c35] at H
                have c35b0 : decide (a0_0 < 5) = true := decide_eq_true c35
                clear c35
                by_cases c36 : (l0_4.length : Int) > 0
                · rw [if_pos c36] at H
                  have c36b0 : decide (0 < (l0_4.length : Int)) = true := decide_eq_true c36
                  have c36b1 : decide (0 < l0_4.length) = true := decide_eq_true (by omega)
                  clear c36
                  have H' := Aside0.mk H
                  clear H
                  have hcz37_0 : wc.cell? ⟨gb186, 0, none⟩ = some (.int .i64 a0_0) := (blk_cell BK186.out 0).trans rfl
                  have hcz37_1 : wc.cell? ⟨gb186, 1, none⟩ = some (.int .i64 a0_1) := (blk_cell BK186.out 1).trans rfl
                  have hcz37_2 : wc.cell? ⟨gb186, 2, none⟩ = some (.string a0_2) := (blk_cell BK186.out 2).trans rfl
                  have hcz37_3 : wc.cell? ⟨gb186, 3, none⟩ = some (.slice A0_3 l0_3.length c0_3) := (blk_cell BK186.out 3).trans rfl
                  have hcz37_4 : wc.cell? ⟨gb186, 4, none⟩ = some (.slice A0_4 l0_4.length c0_4) := (blk_cell BK186.out 4).trans rfl
                  have hfz37_0 := blk_frozen BK186.out 0
                  have hfz37_1 := blk_frozen BK186.out 1
                  have hfz37_2 := blk_frozen BK186.out 2
                  have hfz37_3 := blk_frozen BK186.out 3
                  have hfz37_4 := blk_frozen BK186.out 4
                  go_wp2
                  go_meet
                  case rel => exact ⟨_, (true), (by first | rfl | (simp; done) | (simp [*]; done)), H', ⟨by have := HJ1.out; first | omega | exact Nat.le_refl _⟩, ⟨by (with_reducible repeat (first | refine blk_drewN ?_ _ | refine blk_drew ?_ | refine blk_alloc ?_ _)); exact BK186.out⟩, ⟨by repeat (first | (with_reducible first | exact HB.out | apply below_alloc | apply pw_below_drewN | apply below_drew1 | refine below_set ?_ GE186.out) | exact HB.out)⟩⟩
                · rw [if_neg c36] at H
                  have c36b0 : decide (0 < (l0_4.length : Int)) = false := decide_eq_false c36
                  have c36b1 : decide (0 < l0_4.length) = false := decide_eq_false (by omega)
                  clear c36
                  by_cases c38 : (l0_4.length : Int) > 24
                  · rw [if_pos c38] at H
                    have c38b0 : decide (24 < (l0_4.length : Int)) = true := decide_eq_true c38
                    have c38b1 : decide (24 < l0_4.length) = true := decide_eq_true (by omega)
                    clear c38
                    have H' := Aside0.mk H
                    clear H
                    have hcz39_0 : wc.cell? ⟨gb186, 0, none⟩ = some (.int .i64 a0_0) := (blk_cell BK186.out 0).trans rfl
                    have hcz39_1 : wc.cell? ⟨gb186, 1, none⟩ = some (.int .i64 a0_1) := (blk_cell BK186.out 1).trans rfl
                    have hcz39_2 : wc.cell? ⟨gb186, 2, none⟩ = some (.string a0_2) := (blk_cell BK186.out 2).trans rfl
                    have hcz39_3 : wc.cell? ⟨gb186, 3, none⟩ = some (.slice A0_3 l0_3.length c0_3) := (blk_cell BK186.out 3).trans rfl
                    have hcz39_4 : wc.cell? ⟨gb186, 4, none⟩ = some (.slice A0_4 l0_4.length c0_4) := (blk_cell BK186.out 4).trans rfl
                    have hfz39_0 := blk_frozen BK186.out 0
                    have hfz39_1 := blk_frozen BK186.out 1
                    have hfz39_2 := blk_frozen BK186.out 2
                    have hfz39_3 := blk_frozen BK186.out 3
                    have hfz39_4 := blk_frozen BK186.out 4
                    go_wp2
                    go_meet
                    case rel => exact ⟨_, (true), (by first | rfl | (simp; done) | (simp [*]; done)), H', ⟨by have := HJ1.out; first | omega | exact Nat.le_refl _⟩, ⟨by (with_reducible repeat (first | refine blk_drewN ?_ _ | refine blk_drew ?_ | refine blk_alloc ?_ _)); exact BK186.out⟩, ⟨by repeat (first | (with_reducible first | exact HB.out | apply below_alloc | apply pw_below_drewN | apply below_drew1 | refine below_set ?_ GE186.out) | exact HB.out)⟩⟩
                  · rw [if_neg c38] at H
                    have c38b0 : decide (24 < (l0_4.length : Int)) = false := decide_eq_false c38
                    have c38b1 : decide (24 < l0_4.length) = false := decide_eq_false (by omega)
                    clear c38
                    replace H := Option.bind_eq_some_iff.mp H
                    obtain ⟨t189, A400, H⟩ := H
                    replace H : (munimentref01_formed.j1 kj1 (!t189) a0_0 a0_1 a0_2 l0_3 l0_4) = some r := H
                    have A40 := Aside0.mk A400
                    clear A400
                    have H' := Aside0.mk H
                    clear H
                    have hcz41_0 : wc.cell? ⟨gb186, 0, none⟩ = some (.int .i64 a0_0) := (blk_cell BK186.out 0).trans rfl
                    have hcz41_1 : wc.cell? ⟨gb186, 1, none⟩ = some (.int .i64 a0_1) := (blk_cell BK186.out 1).trans rfl
                    have hcz41_2 : wc.cell? ⟨gb186, 2, none⟩ = some (.string a0_2) := (blk_cell BK186.out 2).trans rfl
                    have hcz41_3 : wc.cell? ⟨gb186, 3, none⟩ = some (.slice A0_3 l0_3.length c0_3) := (blk_cell BK186.out 3).trans rfl
                    have hcz41_4 : wc.cell? ⟨gb186, 4, none⟩ = some (.slice A0_4 l0_4.length c0_4) := (blk_cell BK186.out 4).trans rfl
                    have hfz41_0 := blk_frozen BK186.out 0
                    have hfz41_1 := blk_frozen BK186.out 1
                    have hfz41_2 := blk_frozen BK186.out 2
                    have hfz41_3 := blk_frozen BK186.out 3
                    have hfz41_4 := blk_frozen BK186.out 4
                    go_wp2_with (first | (go_at_call 39; (with_reducible refine (munimentref01_text.calls a0_2 t189 _ A40.out).mono ?_); rintro e w42 ⟨rfl, hb⟩; have n0_ := Aside0.mk (blk_below (g := gb186) (o := .cells #[.int .i64 a0_0, .int .i64 a0_1, .string a0_2, .slice A0_3 l0_3.length c0_3, .slice A0_4 l0_4.length c0_4] 30 (0, 0)) (by (with_reducible repeat (first | refine blk_drewN ?_ _ | refine blk_drew ?_ | refine blk_alloc ?_ _)); exact BK186.out) hb); have n1_ := Aside0.mk (below_step (by repeat (first | (with_reducible first | exact HB.out | apply below_alloc | apply pw_below_drewN | apply below_drew1 | refine below_set ?_ GE186.out) | exact HB.out)) hb); clear BK186; clear HB; have BK186 := n0_; have HB := n1_; clear n0_ n1_; (try clear hb); (try clear hb2); (try clear hk); (try clear hi)))
                    go_meet
                    case rel => exact ⟨_, (!t189), (by first | rfl | (simp; done) | (simp [*]; done)), H', ⟨by have := HJ1.out; first | omega | exact Nat.le_refl _⟩, ⟨by (with_reducible repeat (first | refine blk_drewN ?_ _ | refine blk_drew ?_ | refine blk_alloc ?_ _)); exact BK186.out⟩, ⟨by repeat (first | (with_reducible first | exact HB.out | apply below_alloc | apply pw_below_drewN | apply below_drew1 | refine below_set ?_ GE186.out) | exact HB.out)⟩⟩
              · rw [if_neg c35] at H
                have c35b0 : decide (a0_0 < 5) = false := decide_eq_false c35
                clear c35
                by_cases c43 : (l0_4.length : Int) > 24
                · rw [if_pos c43] at H
                  have c43b0 : decide (24 < (l0_4.length : Int)) = true := decide_eq_true c43
                  have c43b1 : decide (24 < l0_4.length) = true := decide_eq_true (by omega)
                  clear c43
                  have H' := Aside0.mk H
                  clear H
                  have hcz44_0 : wc.cell? ⟨gb186, 0, none⟩ = some (.int .i64 a0_0) := (blk_cell BK186.out 0).trans rfl
                  have hcz44_1 : wc.cell? ⟨gb186, 1, none⟩ = some (.int .i64 a0_1) := (blk_cell BK186.out 1).trans rfl
                  have hcz44_2 : wc.cell? ⟨gb186, 2, none⟩ = some (.string a0_2) := (blk_cell BK186.out 2).trans rfl
                  have hcz44_3 : wc.cell? ⟨gb186, 3, none⟩ = some (.slice A0_3 l0_3.length c0_3) := (blk_cell BK186.out 3).trans rfl
                  have hcz44_4 : wc.cell? ⟨gb186, 4, none⟩ = some (.slice A0_4 l0_4.length c0_4) := (blk_cell BK186.out 4).trans rfl
                  have hfz44_0 := blk_frozen BK186.out 0
                  have hfz44_1 := blk_frozen BK186.out 1
                  have hfz44_2 := blk_frozen BK186.out 2
                  have hfz44_3 := blk_frozen BK186.out 3
                  have hfz44_4 := blk_frozen BK186.out 4
                  go_wp2
                  go_meet
                  case rel => exact ⟨_, (true), (by first | rfl | (simp; done) | (simp [*]; done)), H', ⟨by have := HJ1.out; first | omega | exact Nat.le_refl _⟩, ⟨by (with_reducible repeat (first | refine blk_drewN ?_ _ | refine blk_drew ?_ | refine blk_alloc ?_ _)); exact BK186.out⟩, ⟨by repeat (first | (with_reducible first | exact HB.out | apply below_alloc | apply pw_below_drewN | apply below_drew1 | refine below_set ?_ GE186.out) | exact HB.out)⟩⟩
                · rw [if_neg c43] at H
                  have c43b0 : decide (24 < (l0_4.length : Int)) = false := decide_eq_false c43
                  have c43b1 : decide (24 < l0_4.length) = false := decide_eq_false (by omega)
                  clear c43
                  replace H := Option.bind_eq_some_iff.mp H
                  obtain ⟨t190, A450, H⟩ := H
                  replace H : (munimentref01_formed.j1 kj1 (!t190) a0_0 a0_1 a0_2 l0_3 l0_4) = some r := H
                  have A45 := Aside0.mk A450
                  clear A450
                  have H' := Aside0.mk H
                  clear H
                  have hcz46_0 : wc.cell? ⟨gb186, 0, none⟩ = some (.int .i64 a0_0) := (blk_cell BK186.out 0).trans rfl
                  have hcz46_1 : wc.cell? ⟨gb186, 1, none⟩ = some (.int .i64 a0_1) := (blk_cell BK186.out 1).trans rfl
                  have hcz46_2 : wc.cell? ⟨gb186, 2, none⟩ = some (.string a0_2) := (blk_cell BK186.out 2).trans rfl
                  have hcz46_3 : wc.cell? ⟨gb186, 3, none⟩ = some (.slice A0_3 l0_3.length c0_3) := (blk_cell BK186.out 3).trans rfl
                  have hcz46_4 : wc.cell? ⟨gb186, 4, none⟩ = some (.slice A0_4 l0_4.length c0_4) := (blk_cell BK186.out 4).trans rfl
                  have hfz46_0 := blk_frozen BK186.out 0
                  have hfz46_1 := blk_frozen BK186.out 1
                  have hfz46_2 := blk_frozen BK186.out 2
                  have hfz46_3 := blk_frozen BK186.out 3
                  have hfz46_4 := blk_frozen BK186.out 4
                  go_wp2_with (first | (go_at_call 39; (with_reducible refine (munimentref01_text.calls a0_2 t190 _ A45.out).mono ?_); rintro e w47 ⟨rfl, hb⟩; have n0_ := Aside0.mk (blk_below (g := gb186) (o := .cells #[.int .i64 a0_0, .int .i64 a0_1, .string a0_2, .slice A0_3 l0_3.length c0_3, .slice A0_4 l0_4.length c0_4] 30 (0, 0)) (by (with_reducible repeat (first | refine blk_drewN ?_ _ | refine blk_drew ?_ | refine blk_alloc ?_ _)); exact BK186.out) hb); have n1_ := Aside0.mk (below_step (by repeat (first | (with_reducible first | exact HB.out | apply below_alloc | apply pw_below_drewN | apply below_drew1 | refine below_set ?_ GE186.out) | exact HB.out)) hb); clear BK186; clear HB; have BK186 := n0_; have HB := n1_; clear n0_ n1_; (try clear hb); (try clear hb2); (try clear hk); (try clear hi)))
                  go_meet
                  case rel => exact ⟨_, (!t190), (by first | rfl | (simp; done) | (simp [*]; done)), H', ⟨by have := HJ1.out; first | omega | exact Nat.le_refl _⟩, ⟨by (with_reducible repeat (first | refine blk_drewN ?_ _ | refine blk_drew ?_ | refine blk_alloc ?_ _)); exact BK186.out⟩, ⟨by repeat (first | (with_reducible first | exact HB.out | apply below_alloc | apply pw_below_drewN | apply below_drew1 | refine below_set ?_ GE186.out) | exact HB.out)⟩⟩
        case rest =>
          clear HC18
          try clear c1
          try clear c2
          try clear p2
          try clear c3
          try clear c4
          try clear c4b0
          try clear c6
          try clear c6b0
          try clear c8
          try clear c8b0
          try clear c8b1
          try clear c9
          try clear c9b0
          try clear c9b1
          try clear c12
          try clear c12b0
          try clear c12b1
          try clear c13
          try clear c13b0
          try clear c13b1
          try clear c17
          try clear c19
          try clear c19b0
          try clear c19b1
          try clear c20
          try clear c20b0
          try clear c21
          try clear c21b0
          try clear c21b1
          try clear c23
          try clear c23b0
          try clear c23b1
          try clear c28
          try clear c28b0
          try clear c28b1
          try clear c33
          try clear c33b0
          try clear c33b1
          try clear c35
          try clear c35b0
          try clear c36
          try clear c36b0
          try clear c36b1
          try clear c38
          try clear c38b0
          try clear c38b1
          try clear c43
          try clear c43b0
          try clear c43b1
          try clear hcz10_0
          try clear hcz10_1
          try clear hcz10_2
          try clear hcz10_3
          try clear hcz10_4
          try clear hcz11_0
          try clear hcz11_1
          try clear hcz11_2
          try clear hcz11_3
          try clear hcz11_4
          try clear hcz14_0
          try clear hcz14_1
          try clear hcz14_2
          try clear hcz14_3
          try clear hcz14_4
          try clear hcz15_0
          try clear hcz15_1
          try clear hcz15_2
          try clear hcz15_3
          try clear hcz15_4
          try clear hcz16_0
          try clear hcz16_1
          try clear hcz16_2
          try clear hcz16_3
          try clear hcz16_4
          try clear hcz22_0
          try clear hcz22_1
          try clear hcz22_2
          try clear hcz22_3
          try clear hcz22_4
          try clear hcz24_0
          try clear hcz24_1
          try clear hcz24_2
          try clear hcz24_3
          try clear hcz24_4
          try clear hcz26_0
          try clear hcz26_1
          try clear hcz26_2
          try clear hcz26_3
          try clear hcz26_4
          try clear hcz29_0
          try clear hcz29_1
          try clear hcz29_2
          try clear hcz29_3
          try clear hcz29_4
          try clear hcz31_0
          try clear hcz31_1
          try clear hcz31_2
          try clear hcz31_3
          try clear hcz31_4
          try clear hcz34_0
          try clear hcz34_1
          try clear hcz34_2
          try clear hcz34_3
          try clear hcz34_4
          try clear hcz37_0
          try clear hcz37_1
          try clear hcz37_2
          try clear hcz37_3
          try clear hcz37_4
          try clear hcz39_0
          try clear hcz39_1
          try clear hcz39_2
          try clear hcz39_3
          try clear hcz39_4
          try clear hcz41_0
          try clear hcz41_1
          try clear hcz41_2
          try clear hcz41_3
          try clear hcz41_4
          try clear hcz44_0
          try clear hcz44_1
          try clear hcz44_2
          try clear hcz44_3
          try clear hcz44_4
          try clear hcz46_0
          try clear hcz46_1
          try clear hcz46_2
          try clear hcz46_3
          try clear hcz46_4
          try clear hcz5_0
          try clear hcz5_1
          try clear hcz5_2
          try clear hcz5_3
          try clear hcz5_4
          try clear hcz7_0
          try clear hcz7_1
          try clear hcz7_2
          try clear hcz7_3
          try clear hcz7_4
          try clear hfz10_0
          try clear hfz10_1
          try clear hfz10_2
          try clear hfz10_3
          try clear hfz10_4
          try clear hfz11_0
          try clear hfz11_1
          try clear hfz11_2
          try clear hfz11_3
          try clear hfz11_4
          try clear hfz14_0
          try clear hfz14_1
          try clear hfz14_2
          try clear hfz14_3
          try clear hfz14_4
          try clear hfz15_0
          try clear hfz15_1
          try clear hfz15_2
          try clear hfz15_3
          try clear hfz15_4
          try clear hfz16_0
          try clear hfz16_1
          try clear hfz16_2
          try clear hfz16_3
          try clear hfz16_4
          try clear hfz22_0
          try clear hfz22_1
          try clear hfz22_2
          try clear hfz22_3
          try clear hfz22_4
          try clear hfz24_0
          try clear hfz24_1
          try clear hfz24_2
          try clear hfz24_3
          try clear hfz24_4
          try clear hfz26_0
          try clear hfz26_1
          try clear hfz26_2
          try clear hfz26_3
          try clear hfz26_4
          try clear hfz29_0
          try clear hfz29_1
          try clear hfz29_2
          try clear hfz29_3
          try clear hfz29_4
          try clear hfz31_0
          try clear hfz31_1
          try clear hfz31_2
          try clear hfz31_3
          try clear hfz31_4
          try clear hfz34_0
          try clear hfz34_1
          try clear hfz34_2
          try clear hfz34_3
          try clear hfz34_4
          try clear hfz37_0
          try clear hfz37_1
          try clear hfz37_2
          try clear hfz37_3
          try clear hfz37_4
          try clear hfz39_0
          try clear hfz39_1
          try clear hfz39_2
          try clear hfz39_3
          try clear hfz39_4
          try clear hfz41_0
          try clear hfz41_1
          try clear hfz41_2
          try clear hfz41_3
          try clear hfz41_4
          try clear hfz44_0
          try clear hfz44_1
          try clear hfz44_2
          try clear hfz44_3
          try clear hfz44_4
          try clear hfz46_0
          try clear hfz46_1
          try clear hfz46_2
          try clear hfz46_3
          try clear hfz46_4
          try clear hfz5_0
          try clear hfz5_1
          try clear hfz5_2
          try clear hfz5_3
          try clear hfz5_4
          try clear hfz7_0
          try clear hfz7_1
          try clear hfz7_2
          try clear hfz7_3
          try clear hfz7_4
          try clear p2
          obtain ⟨kq, x64_17, rfl, HA, HJ17, BK186, HB⟩ := hcut
          cases kq with
          | zero => exact absurd HA.out (by simp [munimentref01_formed.j1])
          | succ kj17 =>
            have H := HA.out
            clear HA
            simp only [munimentref01_formed.j1] at H
            by_cases c48 : x64_17 = true
            · subst c48
              have H1 : (some false) = some r := by rw [if_pos rfl] at H; exact H
              clear H
              have H := H1
              clear H1
              obtain rfl := Option.some.inj H
              go_wp2
              go_ret
              exact ⟨by first | rfl | (simp [errW_none, errW_some] <;> rfl) | (simp [*, errW_none, errW_some] <;> rfl), by repeat (first | (with_reducible first | exact HB.out | apply below_alloc | apply pw_below_drewN | apply below_drew1 | refine below_set ?_ GE186.out) | exact HB.out)⟩
            · replace c48 := Bool.eq_false_iff.mpr c48
              subst c48
              have H1 : (if a0_0 = 6 then (munimentref01_formed.j2 kj17 ((l0_3.length : Int) != (l0_4.length : Int)) a0_0 a0_1 a0_2 l0_3 l0_4) else (munimentref01_formed.j2 kj17 false a0_0 a0_1 a0_2 l0_3 l0_4)) = some r := by rw [if_neg (show ¬ (false = true) by decide)] at H; exact H
              clear H
              have H := H1
              clear H1
              have HC49 := Aside0.mk H
              clear H
              go_upto_region 5 with (fail)
              go_cut [76] (fun v76 wc => ∃ (kq : Nat) (x76_48 : Bool), v76 = .bool x76_48 ∧ Aside0 (munimentref01_formed.j2 kq x76_48 a0_0 a0_1 a0_2 l0_3 l0_4 = some r) ∧ Aside0 (kq ≤ kj17) ∧ Aside0 (wc.heap[gb186]? = some (.cells #[.int .i64 a0_0, .int .i64 a0_1, .string a0_2, (.slice A0_3 l0_3.length c0_3), (.slice A0_4 l0_4.length c0_4)] 30 (0, 0))) ∧ Aside0 (Below w.heap.size w wc))
              case first =>
                have H := HC49.out
                clear HC49
                by_cases c50 : a0_0 = 6
                · rw [if_pos c50] at H
                  have c50b0 : (a0_0 == 6) = true := beq_iff_eq.mpr c50
                  have c50b1 : (a0_0 != 6) = false := bne_eq_false_iff_eq.mpr c50
                  clear c50
                  (first | rw [c50b0] | (simp only [i64_w, i32_w]; rw [c50b0]) | skip)
                  have H' := Aside0.mk H
                  clear H
                  have hcz51_0 : wc.cell? ⟨gb186, 0, none⟩ = some (.int .i64 a0_0) := (blk_cell BK186.out 0).trans rfl
                  have hcz51_1 : wc.cell? ⟨gb186, 1, none⟩ = some (.int .i64 a0_1) := (blk_cell BK186.out 1).trans rfl
                  have hcz51_2 : wc.cell? ⟨gb186, 2, none⟩ = some (.string a0_2) := (blk_cell BK186.out 2).trans rfl
                  have hcz51_3 : wc.cell? ⟨gb186, 3, none⟩ = some (.slice A0_3 l0_3.length c0_3) := (blk_cell BK186.out 3).trans rfl
                  have hcz51_4 : wc.cell? ⟨gb186, 4, none⟩ = some (.slice A0_4 l0_4.length c0_4) := (blk_cell BK186.out 4).trans rfl
                  have hfz51_0 := blk_frozen BK186.out 0
                  have hfz51_1 := blk_frozen BK186.out 1
                  have hfz51_2 := blk_frozen BK186.out 2
                  have hfz51_3 := blk_frozen BK186.out 3
                  have hfz51_4 := blk_frozen BK186.out 4
                  go_wp2
                  go_meet
                  case rel => exact ⟨_, (((l0_3.length : Int) != (l0_4.length : Int))), (by first | rfl | (simp; done) | (simp [*]; done)), H', ⟨by have := HJ1.out; have := HJ17.out; first | omega | exact Nat.le_refl _⟩, ⟨by (with_reducible repeat (first | refine blk_drewN ?_ _ | refine blk_drew ?_ | refine blk_alloc ?_ _)); exact BK186.out⟩, ⟨by repeat (first | (with_reducible first | exact HB.out | apply below_alloc | apply pw_below_drewN | apply below_drew1 | refine below_set ?_ GE186.out) | exact HB.out)⟩⟩
                · rw [if_neg c50] at H
                  have c50b0 : (a0_0 == 6) = false := beq_eq_false_iff_ne.mpr c50
                  have c50b1 : (a0_0 != 6) = true := bne_iff_ne.mpr c50
                  (first | rw [c50b0] | (simp only [i64_w, i32_w]; rw [c50b0]) | skip)
                  have H' := Aside0.mk H
                  clear H
                  have hcz52_0 : wc.cell? ⟨gb186, 0, none⟩ = some (.int .i64 a0_0) := (blk_cell BK186.out 0).trans rfl
                  have hcz52_1 : wc.cell? ⟨gb186, 1, none⟩ = some (.int .i64 a0_1) := (blk_cell BK186.out 1).trans rfl
                  have hcz52_2 : wc.cell? ⟨gb186, 2, none⟩ = some (.string a0_2) := (blk_cell BK186.out 2).trans rfl
                  have hcz52_3 : wc.cell? ⟨gb186, 3, none⟩ = some (.slice A0_3 l0_3.length c0_3) := (blk_cell BK186.out 3).trans rfl
                  have hcz52_4 : wc.cell? ⟨gb186, 4, none⟩ = some (.slice A0_4 l0_4.length c0_4) := (blk_cell BK186.out 4).trans rfl
                  have hfz52_0 := blk_frozen BK186.out 0
                  have hfz52_1 := blk_frozen BK186.out 1
                  have hfz52_2 := blk_frozen BK186.out 2
                  have hfz52_3 := blk_frozen BK186.out 3
                  have hfz52_4 := blk_frozen BK186.out 4
                  go_wp2
                  go_meet
                  case rel => exact ⟨_, (false), (by first | rfl | (simp; done) | (simp [*]; done)), H', ⟨by have := HJ1.out; have := HJ17.out; first | omega | exact Nat.le_refl _⟩, ⟨by (with_reducible repeat (first | refine blk_drewN ?_ _ | refine blk_drew ?_ | refine blk_alloc ?_ _)); exact BK186.out⟩, ⟨by repeat (first | (with_reducible first | exact HB.out | apply below_alloc | apply pw_below_drewN | apply below_drew1 | refine below_set ?_ GE186.out) | exact HB.out)⟩⟩
              case rest =>
                clear HC49
                try clear c1
                try clear c2
                try clear p2
                try clear c3
                try clear c4
                try clear c4b0
                try clear c5
                try clear c6
                try clear c6b0
                try clear c8
                try clear c8b0
                try clear c8b1
                try clear c9
                try clear c9b0
                try clear c9b1
                try clear c12
                try clear c12b0
                try clear c12b1
                try clear c13
                try clear c13b0
                try clear c13b1
                try clear c17
                try clear c19
                try clear c19b0
                try clear c19b1
                try clear c20
                try clear c20b0
                try clear c21
                try clear c21b0
                try clear c21b1
                try clear c23
                try clear c23b0
                try clear c23b1
                try clear c28
                try clear c28b0
                try clear c28b1
                try clear c33
                try clear c33b0
                try clear c33b1
                try clear c35
                try clear c35b0
                try clear c36
                try clear c36b0
                try clear c36b1
                try clear c38
                try clear c38b0
                try clear c38b1
                try clear c43
                try clear c43b0
                try clear c43b1
                try clear c48
                try clear c50
                try clear c50b0
                try clear c50b1
                try clear hcz10_0
                try clear hcz10_1
                try clear hcz10_2
                try clear hcz10_3
                try clear hcz10_4
                try clear hcz11_0
                try clear hcz11_1
                try clear hcz11_2
                try clear hcz11_3
                try clear hcz11_4
                try clear hcz14_0
                try clear hcz14_1
                try clear hcz14_2
                try clear hcz14_3
                try clear hcz14_4
                try clear hcz15_0
                try clear hcz15_1
                try clear hcz15_2
                try clear hcz15_3
                try clear hcz15_4
                try clear hcz16_0
                try clear hcz16_1
                try clear hcz16_2
                try clear hcz16_3
                try clear hcz16_4
                try clear hcz22_0
                try clear hcz22_1
                try clear hcz22_2
                try clear hcz22_3
                try clear hcz22_4
                try clear hcz24_0
                try clear hcz24_1
                try clear hcz24_2
                try clear hcz24_3
                try clear hcz24_4
                try clear hcz26_0
                try clear hcz26_1
                try clear hcz26_2
                try clear hcz26_3
                try clear hcz26_4
                try clear hcz29_0
                try clear hcz29_1
                try clear hcz29_2
                try clear hcz29_3
                try clear hcz29_4
                try clear hcz31_0
                try clear hcz31_1
                try clear hcz31_2
                try clear hcz31_3
                try clear hcz31_4
                try clear hcz34_0
                try clear hcz34_1
                try clear hcz34_2
                try clear hcz34_3
                try clear hcz34_4
                try clear hcz37_0
                try clear hcz37_1
                try clear hcz37_2
                try clear hcz37_3
                try clear hcz37_4
                try clear hcz39_0
                try clear hcz39_1
                try clear hcz39_2
                try clear hcz39_3
                try clear hcz39_4
                try clear hcz41_0
                try clear hcz41_1
                try clear hcz41_2
                try clear hcz41_3
                try clear hcz41_4
                try clear hcz44_0
                try clear hcz44_1
                try clear hcz44_2
                try clear hcz44_3
                try clear hcz44_4
                try clear hcz46_0
                try clear hcz46_1
                try clear hcz46_2
                try clear hcz46_3
                try clear hcz46_4
                try clear hcz51_0
                try clear hcz51_1
                try clear hcz51_2
                try clear hcz51_3
                try clear hcz51_4
                try clear hcz52_0
                try clear hcz52_1
                try clear hcz52_2
                try clear hcz52_3
                try clear hcz52_4
                try clear hcz5_0
                try clear hcz5_1
                try clear hcz5_2
                try clear hcz5_3
                try clear hcz5_4
                try clear hcz7_0
                try clear hcz7_1
                try clear hcz7_2
                try clear hcz7_3
                try clear hcz7_4
                try clear hfz10_0
                try clear hfz10_1
                try clear hfz10_2
                try clear hfz10_3
                try clear hfz10_4
                try clear hfz11_0
                try clear hfz11_1
                try clear hfz11_2
                try clear hfz11_3
                try clear hfz11_4
                try clear hfz14_0
                try clear hfz14_1
                try clear hfz14_2
                try clear hfz14_3
                try clear hfz14_4
                try clear hfz15_0
                try clear hfz15_1
                try clear hfz15_2
                try clear hfz15_3
                try clear hfz15_4
                try clear hfz16_0
                try clear hfz16_1
                try clear hfz16_2
                try clear hfz16_3
                try clear hfz16_4
                try clear hfz22_0
                try clear hfz22_1
                try clear hfz22_2
                try clear hfz22_3
                try clear hfz22_4
                try clear hfz24_0
                try clear hfz24_1
                try clear hfz24_2
                try clear hfz24_3
                try clear hfz24_4
                try clear hfz26_0
                try clear hfz26_1
                try clear hfz26_2
                try clear hfz26_3
                try clear hfz26_4
                try clear hfz29_0
                try clear hfz29_1
                try clear hfz29_2
                try clear hfz29_3
                try clear hfz29_4
                try clear hfz31_0
                try clear hfz31_1
                try clear hfz31_2
                try clear hfz31_3
                try clear hfz31_4
                try clear hfz34_0
                try clear hfz34_1
                try clear hfz34_2
                try clear hfz34_3
                try clear hfz34_4
                try clear hfz37_0
                try clear hfz37_1
                try clear hfz37_2
                try clear hfz37_3
                try clear hfz37_4
                try clear hfz39_0
                try clear hfz39_1
                try clear hfz39_2
                try clear hfz39_3
                try clear hfz39_4
                try clear hfz41_0
                try clear hfz41_1
                try clear hfz41_2
                try clear hfz41_3
                try clear hfz41_4
                try clear hfz44_0
                try clear hfz44_1
                try clear hfz44_2
                try clear hfz44_3
                try clear hfz44_4
                try clear hfz46_0
                try clear hfz46_1
                try clear hfz46_2
                try clear hfz46_3
                try clear hfz46_4
                try clear hfz51_0
                try clear hfz51_1
                try clear hfz51_2
                try clear hfz51_3
                try clear hfz51_4
                try clear hfz52_0
                try clear hfz52_1
                try clear hfz52_2
                try clear hfz52_3
                try clear hfz52_4
                try clear hfz5_0
                try clear hfz5_1
                try clear hfz5_2
                try clear hfz5_3
                try clear hfz5_4
                try clear hfz7_0
                try clear hfz7_1
                try clear hfz7_2
                try clear hfz7_3
                try clear hfz7_4
                try clear p2
                obtain ⟨kq, x76_48, rfl, HA, HJ48, BK186, HB⟩ := hcut
                cases kq with
                | zero => exact absurd HA.out (by simp [munimentref01_formed.j2])
                | succ kj48 =>
                  have H := HA.out
                  clear HA
                  simp only [munimentref01_formed.j2] at H
                  by_cases c53 : x76_48 = true
                  · subst c53
                    have H1 : (some false) = some r := by rw [if_pos rfl] at H; exact H
                    clear H
                    have H := H1
                    clear H1
                    obtain rfl := Option.some.inj H
                    go_wp2
                    go_ret
                    exact ⟨by first | rfl | (simp [errW_none, errW_some] <;> rfl) | (simp [*, errW_none, errW_some] <;> rfl), by repeat (first | (with_reducible first | exact HB.out | apply below_alloc | apply pw_below_drewN | apply below_drew1 | refine below_set ?_ GE186.out) | exact HB.out)⟩
                  · replace c53 := Bool.eq_false_iff.mpr c53
                    subst c53
                    have H1 : (munimentref01_formed.l0 kj48 0 a0_0 a0_1 a0_2 l0_3 l0_4) = some r := by rw [if_neg (show ¬ (false = true) by decide)] at H; exact H
                    clear H
                    have H := H1
                    clear H1
                    have H' := Aside0.mk H
                    clear H
                    go_wp2
                    go_loopg [3] kj48 (fun kq v3 w' => ∃ (x3_4 : Int), v3 = .int .i64 x3_4 ∧ Aside0 (munimentref01_formed.l0 kq x3_4 a0_0 a0_1 a0_2 l0_3 l0_4 = some r) ∧ Aside0 (kq ≤ kj48) ∧ Aside0 (w'.heap[gb186]? = some (.cells #[.int .i64 a0_0, .int .i64 a0_1, .string a0_2, (.slice A0_3 l0_3.length c0_3), (.slice A0_4 l0_4.length c0_4)] 30 (0, 0))) ∧ Aside0 (Below w.heap.size w w'))
                    case atStart => exact ⟨(0), (by first | rfl | (simp; done) | (simp [*]; done)), H', ⟨Nat.le_refl _⟩, ⟨by (with_reducible repeat (first | refine blk_drewN ?_ _ | refine blk_drew ?_ | refine blk_alloc ?_ _)); exact BK186.out⟩, ⟨by repeat (first | (with_reducible first | exact HB.out | apply below_alloc | apply pw_below_drewN | apply below_drew1 | refine below_set ?_ GE186.out) | exact HB.out)⟩⟩
                    case round =>
                      clear H'
                      try clear c1
                      try clear c2
                      try clear p2
                      try clear c3
                      try clear c4
                      try clear c4b0
                      try clear c5
                      try clear c6
                      try clear c6b0
                      try clear c8
                      try clear c8b0
                      try clear c8b1
                      try clear c9
                      try clear c9b0
                      try clear c9b1
                      try clear c12
                      try clear c12b0
                      try clear c12b1
                      try clear c13
                      try clear c13b0
                      try clear c13b1
                      try clear c17
                      try clear c19
                      try clear c19b0
                      try clear c19b1
                      try clear c20
                      try clear c20b0
                      try clear c21
                      try clear c21b0
                      try clear c21b1
                      try clear c23
                      try clear c23b0
                      try clear c23b1
                      try clear c28
                      try clear c28b0
                      try clear c28b1
                      try clear c33
                      try clear c33b0
                      try clear c33b1
                      try clear c35
                      try clear c35b0
                      try clear c36
                      try clear c36b0
                      try clear c36b1
                      try clear c38
                      try clear c38b0
                      try clear c38b1
                      try clear c43
                      try clear c43b0
                      try clear c43b1
                      try clear c48
                      try clear c50
                      try clear c50b0
                      try clear c50b1
                      try clear c53
                      try clear hcz10_0
                      try clear hcz10_1
                      try clear hcz10_2
                      try clear hcz10_3
                      try clear hcz10_4
                      try clear hcz11_0
                      try clear hcz11_1
                      try clear hcz11_2
                      try clear hcz11_3
                      try clear hcz11_4
                      try clear hcz14_0
                      try clear hcz14_1
                      try clear hcz14_2
                      try clear hcz14_3
                      try clear hcz14_4
                      try clear hcz15_0
                      try clear hcz15_1
                      try clear hcz15_2
                      try clear hcz15_3
                      try clear hcz15_4
                      try clear hcz16_0
                      try clear hcz16_1
                      try clear hcz16_2
                      try clear hcz16_3
                      try clear hcz16_4
                      try clear hcz22_0
                      try clear hcz22_1
                      try clear hcz22_2
                      try clear hcz22_3
                      try clear hcz22_4
                      try clear hcz24_0
                      try clear hcz24_1
                      try clear hcz24_2
                      try clear hcz24_3
                      try clear hcz24_4
                      try clear hcz26_0
                      try clear hcz26_1
                      try clear hcz26_2
                      try clear hcz26_3
                      try clear hcz26_4
                      try clear hcz29_0
                      try clear hcz29_1
                      try clear hcz29_2
                      try clear hcz29_3
                      try clear hcz29_4
                      try clear hcz31_0
                      try clear hcz31_1
                      try clear hcz31_2
                      try clear hcz31_3
                      try clear hcz31_4
                      try clear hcz34_0
                      try clear hcz34_1
                      try clear hcz34_2
                      try clear hcz34_3
                      try clear hcz34_4
                      try clear hcz37_0
                      try clear hcz37_1
                      try clear hcz37_2
                      try clear hcz37_3
                      try clear hcz37_4
                      try clear hcz39_0
                      try clear hcz39_1
                      try clear hcz39_2
                      try clear hcz39_3
                      try clear hcz39_4
                      try clear hcz41_0
                      try clear hcz41_1
                      try clear hcz41_2
                      try clear hcz41_3
                      try clear hcz41_4
                      try clear hcz44_0
                      try clear hcz44_1
                      try clear hcz44_2
                      try clear hcz44_3
                      try clear hcz44_4
                      try clear hcz46_0
                      try clear hcz46_1
                      try clear hcz46_2
                      try clear hcz46_3
                      try clear hcz46_4
                      try clear hcz51_0
                      try clear hcz51_1
                      try clear hcz51_2
                      try clear hcz51_3
                      try clear hcz51_4
                      try clear hcz52_0
                      try clear hcz52_1
                      try clear hcz52_2
                      try clear hcz52_3
                      try clear hcz52_4
                      try clear hcz5_0
                      try clear hcz5_1
                      try clear hcz5_2
                      try clear hcz5_3
                      try clear hcz5_4
                      try clear hcz7_0
                      try clear hcz7_1
                      try clear hcz7_2
                      try clear hcz7_3
                      try clear hcz7_4
                      try clear hfz10_0
                      try clear hfz10_1
                      try clear hfz10_2
                      try clear hfz10_3
                      try clear hfz10_4
                      try clear hfz11_0
                      try clear hfz11_1
                      try clear hfz11_2
                      try clear hfz11_3
                      try clear hfz11_4
                      try clear hfz14_0
                      try clear hfz14_1
                      try clear hfz14_2
                      try clear hfz14_3
                      try clear hfz14_4
                      try clear hfz15_0
                      try clear hfz15_1
                      try clear hfz15_2
                      try clear hfz15_3
                      try clear hfz15_4
                      try clear hfz16_0
                      try clear hfz16_1
                      try clear hfz16_2
                      try clear hfz16_3
                      try clear hfz16_4
                      try clear hfz22_0
                      try clear hfz22_1
                      try clear hfz22_2
                      try clear hfz22_3
                      try clear hfz22_4
                      try clear hfz24_0
                      try clear hfz24_1
                      try clear hfz24_2
                      try clear hfz24_3
                      try clear hfz24_4
                      try clear hfz26_0
                      try clear hfz26_1
                      try clear hfz26_2
                      try clear hfz26_3
                      try clear hfz26_4
                      try clear hfz29_0
                      try clear hfz29_1
                      try clear hfz29_2
                      try clear hfz29_3
                      try clear hfz29_4
                      try clear hfz31_0
                      try clear hfz31_1
                      try clear hfz31_2
                      try clear hfz31_3
                      try clear hfz31_4
                      try clear hfz34_0
                      try clear hfz34_1
                      try clear hfz34_2
                      try clear hfz34_3
                      try clear hfz34_4
                      try clear hfz37_0
                      try clear hfz37_1
                      try clear hfz37_2
                      try clear hfz37_3
                      try clear hfz37_4
                      try clear hfz39_0
                      try clear hfz39_1
                      try clear hfz39_2
                      try clear hfz39_3
                      try clear hfz39_4
                      try clear hfz41_0
                      try clear hfz41_1
                      try clear hfz41_2
                      try clear hfz41_3
                      try clear hfz41_4
                      try clear hfz44_0
                      try clear hfz44_1
                      try clear hfz44_2
                      try clear hfz44_3
                      try clear hfz44_4
                      try clear hfz46_0
                      try clear hfz46_1
                      try clear hfz46_2
                      try clear hfz46_3
                      try clear hfz46_4
                      try clear hfz51_0
                      try clear hfz51_1
                      try clear hfz51_2
                      try clear hfz51_3
                      try clear hfz51_4
                      try clear hfz52_0
                      try clear hfz52_1
                      try clear hfz52_2
                      try clear hfz52_3
                      try clear hfz52_4
                      try clear hfz5_0
                      try clear hfz5_1
                      try clear hfz5_2
                      try clear hfz5_3
                      try clear hfz5_4
                      try clear hfz7_0
                      try clear hfz7_1
                      try clear hfz7_2
                      try clear hfz7_3
                      try clear hfz7_4
                      try clear p2
                      try clear BK186
                      obtain ⟨x3_4, rfl, HA, HK4, BK186, HB⟩ := hrel
                      cases gk with
                      | zero => exact absurd HA.out (by simp [munimentref01_formed.l0])
                      | succ k4 =>
                        have H := HA.out
                        clear HA
                        simp only [munimentref01_formed.l0] at H
                        by_cases c54 : x3_4 < (l0_3.length : Int)
                        · rw [if_pos c54] at H
                          have c54b0 : decide (x3_4 < (l0_3.length : Int)) = true := decide_eq_true c54
                          clear c54
                          by_cases c55 : 0 ≤ x3_4
                          · rw [if_pos c55] at H
                            have c55b0 : decide (0 ≤ x3_4) = true := decide_eq_true c55
                            clear c55
                            replace H := Option.bind_eq_some_iff.mp H
                            obtain ⟨t192, A560, H⟩ := H
                            replace H : (if t192 = true then (if x3_4 > 0 then (if 0 ≤ (wrap64 (x3_4 - 1)) then (if (wrap64 (x3_4 - 1)) < (l0_3.length : Int) then (if ((Op.bytesLess ((rdOf ByteArray.empty l0_3 (wrap64 (x3_4 - 1))).toList) ((rdOf ByteArray.empty l0_3 x3_4).toList)) = true) then (munimentref01_formed.l0 k4 (wrap64 (x3_4 + 1)) a0_0 a0_1 a0_2 l0_3 l0_4) else (some false)) else (none)) else (none)) else (munimentref01_formed.l0 k4 (wrap64 (x3_4 + 1)) a0_0 a0_1 a0_2 l0_3 l0_4)) else (some false)) = some r := H
                            have A56 := Aside0.mk A560
                            clear A560
                            by_cases c57 : t192 = true
                            · subst c57
                              have H1 : (if x3_4 > 0 then (if 0 ≤ (wrap64 (x3_4 - 1)) then (if (wrap64 (x3_4 - 1)) < (l0_3.length : Int) then (if ((Op.bytesLess ((rdOf ByteArray.empty l0_3 (wrap64 (x3_4 - 1))).toList) ((rdOf ByteArray.empty l0_3 x3_4).toList)) = true) then (munimentref01_formed.l0 k4 (wrap64 (x3_4 + 1)) a0_0 a0_1 a0_2 l0_3 l0_4) else (some false)) else (none)) else (none)) else (munimentref01_formed.l0 k4 (wrap64 (x3_4 + 1)) a0_0 a0_1 a0_2 l0_3 l0_4)) = some r := by rw [if_pos rfl] at H; exact H
                              clear H
                              have H := H1
                              clear H1
                              by_cases c58 : x3_4 > 0
                              · rw [if_pos c58] at H
                                have c58b0 : decide (0 < x3_4) = true := decide_eq_true c58
                                clear c58
                                obtain ⟨ji59, hji59⟩ : ∃ j_ : Int, (wrap64 (x3_4 - 1)) = j_ := ⟨_, rfl⟩
                                replace H : (if 0 ≤ (ji59) then (if (ji59) < (l0_3.length : Int) then (if ((Op.bytesLess ((rdOf ByteArray.empty l0_3 (ji59)).toList) ((rdOf ByteArray.empty l0_3 x3_4).toList)) = true) then (munimentref01_formed.l0 k4 (wrap64 (x3_4 + 1)) a0_0 a0_1 a0_2 l0_3 l0_4) else (some false)) else (none)) else (none)) = some r := by first | (rw [hji59] at H; exact H) | (simp only [hji59] at H ⊢; exact H)
                                (try rw [hji59] at A56)
                                have hji59w : (IntKind.i64.wrap (x3_4 - 1)) = ji59 := (i64_w _).trans hji59
                                by_cases c60 : 0 ≤ (ji59)
                                · rw [if_pos c60] at H
                                  have c60b0 : decide (0 ≤ (ji59)) = true := decide_eq_true c60
                                  clear c60
                                  by_cases c61 : (ji59) < (l0_3.length : Int)
                                  · rw [if_pos c61] at H
                                    have c61b0 : decide ((ji59) < (l0_3.length : Int)) = true := decide_eq_true c61
                                    clear c61
                                    by_cases c62 : ((Op.bytesLess ((rdOf ByteArray.empty l0_3 (ji59)).toList) ((rdOf ByteArray.empty l0_3 x3_4).toList)) = true)
                                    · rw [if_pos c62] at H
                                      have c62b0 : (Op.bytesLess ((rdOf ByteArray.empty l0_3 (ji59)).toList) ((rdOf ByteArray.empty l0_3 x3_4).toList)) = true := c62
                                      clear c62
                                      have H' := Aside0.mk H
                                      clear H
                                      have hcz63_0 : wr.cell? ⟨gb186, 0, none⟩ = some (.int .i64 a0_0) := (blk_cell BK186.out 0).trans rfl
                                      have hcz63_1 : wr.cell? ⟨gb186, 1, none⟩ = some (.int .i64 a0_1) := (blk_cell BK186.out 1).trans rfl
                                      have hcz63_2 : wr.cell? ⟨gb186, 2, none⟩ = some (.string a0_2) := (blk_cell BK186.out 2).trans rfl
                                      have hcz63_3 : wr.cell? ⟨gb186, 3, none⟩ = some (.slice A0_3 l0_3.length c0_3) := (blk_cell BK186.out 3).trans rfl
                                      have hcz63_4 : wr.cell? ⟨gb186, 4, none⟩ = some (.slice A0_4 l0_4.length c0_4) := (blk_cell BK186.out 4).trans rfl
                                      have hfz63_0 := blk_frozen BK186.out 0
                                      have hfz63_1 := blk_frozen BK186.out 1
                                      have hfz63_2 := blk_frozen BK186.out 2
                                      have hfz63_3 := blk_frozen BK186.out 3
                                      have hfz63_4 := blk_frozen BK186.out 4
                                      try go_wp2
                                      have n0_ := Aside0.mk (blk_drew BK186.out)
                                      have n1_ := Aside0.mk (below_drew1 HB.out)
                                      clear BK186
                                      clear HB
                                      have BK186 := n0_
                                      have HB := n1_
                                      clear n0_ n1_
                                      have p191 : 0 ≤ (x3_4 : Int) := of_decide_eq_true (by first | (with_reducible assumption) | assumption)
                                      have q191 : x3_4 < (l0_3.length : Int) := of_decide_eq_true (by first | (with_reducible assumption) | assumption)
                                      obtain ⟨ad191, e191, hx191_0⟩ := Kd.at_string HR0_3.out x3_4 p191 q191
                                      have hw191_0 := hx191_0
                                      cases e191
                                      replace hx191_0 := (HB.out.cell (World.block_lt_of_cell? w _ hx191_0)).trans hx191_0
                                      replace p191 := eq_true p191
                                      replace q191 := eq_true q191
                                      have p193 : 0 ≤ ((ji59) : Int) := of_decide_eq_true (by first | (with_reducible assumption) | assumption)
                                      have q193 : (ji59) < (l0_3.length : Int) := of_decide_eq_true (by first | (with_reducible assumption) | assumption)
                                      obtain ⟨ad193, e193, hx193_0⟩ := Kd.at_string HR0_3.out (ji59) p193 q193
                                      have hw193_0 := hx193_0
                                      obtain rfl : ad191 = ad193 := (by injection e193)
                                      replace hx193_0 := (HB.out.cell (World.block_lt_of_cell? w _ hx193_0)).trans hx193_0
                                      replace p193 := eq_true p193
                                      replace q193 := eq_true q193
                                      have p194 : 0 ≤ (x3_4 : Int) := of_decide_eq_true (by first | (with_reducible assumption) | assumption)
                                      have q194 : x3_4 < (l0_3.length : Int) := of_decide_eq_true (by first | (with_reducible assumption) | assumption)
                                      obtain ⟨ad194, e194, hx194_0⟩ := Kd.at_string HR0_3.out x3_4 p194 q194
                                      have hw194_0 := hx194_0
                                      obtain rfl : ad191 = ad194 := (by injection e194)
                                      replace hx194_0 := (HB.out.cell (World.block_lt_of_cell? w _ hx194_0)).trans hx194_0
                                      replace p194 := eq_true p194
                                      replace q194 := eq_true q194
                                      refine start_ (n := 25) (S := fun w' => w'.cell? ⟨gb186, 0, none⟩ = some (.int .i64 a0_0) ∧ w'.cell? ⟨gb186, 1, none⟩ = some (.int .i64 a0_1) ∧ w'.cell? ⟨gb186, 2, none⟩ = some (.string a0_2) ∧ w'.cell? ⟨gb186, 3, none⟩ = some (.slice (some ad191) l0_3.length c0_3) ∧ w'.cell? ⟨gb186, 4, none⟩ = some (.slice A0_4 l0_4.length c0_4) ∧ w'.cell? (ad191.add (x3_4).toNat) = some (.string (rdOf ByteArray.empty l0_3 x3_4)) ∧ w'.cell? (ad191.add ((ji59)).toNat) = some (.string (rdOf ByteArray.empty l0_3 (ji59))) ∧ w'.cell? (ad191.add (x3_4).toNat) = some (.string (rdOf ByteArray.empty l0_3 x3_4))) (ds := []) #[false, false, false, false, false, false, false, false, false, false, false, false, false, false, false, false, false, false, false, false, false, false, false, false, false] (by kernel_rfl) rfl rfl ⟨(blk_cell BK186.out 0).trans rfl, (blk_cell BK186.out 1).trans rfl, (blk_cell BK186.out 2).trans rfl, (blk_cell BK186.out 3).trans rfl, (blk_cell BK186.out 4).trans rfl, ((HB.out.cell (World.block_lt_of_cell? w _ hw191_0)).trans hw191_0), ((HB.out.cell (World.block_lt_of_cell? w _ hw193_0)).trans hw193_0), ((HB.out.cell (World.block_lt_of_cell? w _ hw194_0)).trans hw194_0)⟩ (fun hHeld => ?_); refine with_tabW munimentref01_formed.tab10 munimentref01_formed.bits10 (fun HT_ HW_ => ?_)
                                      generalize wr.drew = w64 at BK186 HB hx191_0 hx193_0 hx194_0 hHeld ⊢
                                      refine pure_ (i := 0) (N := some 84) (v := ?_) (a' := ?_) #[true, false, false, false, false, false, false, false, false, false, false, false, false, false, false, false, false, false, false, false, false, false, false, false, false] rfl rfl (any_of HT_.out (by kernel_rfl)) (fun _ _ _ h => h) (Or.inl ⟨by rfl, ?_⟩) ?_ ?_
                                      rotate_left
                                      · intro w'
                                        go_simp
                                        with_reducible rfl
                                      rotate_left
                                      · simp only [Act.put, List.setIfInBounds_toArray, List.set_cons_zero, List.set_cons_succ, i64_w, i32_w]
                                        rfl
                                      refine pure_ (i := 2) (N := some 86) (v := ?_) (a' := ?_) #[true, false, true, false, false, false, false, false, false, false, false, false, false, false, false, false, false, false, false, false, false, false, false, false, false] rfl rfl (any_of HT_.out (by kernel_rfl)) (fun _ _ _ h => h) (Or.inl ⟨by rfl, ?_⟩) ?_ ?_
                                      rotate_left
                                      · intro w'
                                        go_simp
                                        with_reducible rfl
                                      rotate_left
                                      · simp only [Act.put, List.setIfInBounds_toArray, List.set_cons_zero, List.set_cons_succ, i64_w, i32_w]
                                        rfl
                                      refine take_ (i := 1) (N := some 85) (v := ?_) (a' := ?_) #[true, true, true, false, false, false, false, false, false, false, false, false, false, false, false, false, false, false, false, false, false, false, false, false, false] rfl rfl (take_ofW HT_.out HW_.out (by kernel_rfl)) (fun _ _ _ h => h) (Or.inl ⟨by rfl, ?_⟩) hHeld ?_ ?_
                                      rotate_left
                                      · rintro w' ⟨s0, s1, s2, s3, s4, s5, s6, s7⟩
                                        go_simp
                                        with_reducible rfl
                                      rotate_left
                                      · simp only [Act.put, List.setIfInBounds_toArray, List.set_cons_zero, List.set_cons_succ, i64_w, i32_w]
                                        rfl
                                      refine pure_ (i := 3) (N := some 87) (v := ?_) (a' := ?_) #[true, true, true, true, false, false, false, false, false, false, false, false, false, false, false, false, false, false, false, false, false, false, false, false, false] rfl rfl (any_of HT_.out (by kernel_rfl)) (fun _ _ _ h => h) (Or.inl ⟨by rfl, ?_⟩) ?_ ?_
                                      rotate_left
                                      · intro w'
                                        go_simp
                                        with_reducible rfl
                                      rotate_left
                                      · simp only [Act.put, List.setIfInBounds_toArray, List.set_cons_zero, List.set_cons_succ, i64_w, i32_w]
                                        rfl
                                      refine take_ (i := 4) (N := some 88) (v := ?_) (a' := ?_) #[true, true, true, true, true, false, false, false, false, false, false, false, false, false, false, false, false, false, false, false, false, false, false, false, false] rfl rfl (take_ofW HT_.out HW_.out (by kernel_rfl)) (fun _ _ _ h => h) (Or.inl ⟨by rfl, ?_⟩) hHeld ?_ ?_
                                      rotate_left
                                      · rintro w' ⟨s0, s1, s2, s3, s4, s5, s6, s7⟩
                                        go_simp
                                        with_reducible rfl
                                      rotate_left
                                      · simp only [Act.put, List.setIfInBounds_toArray, List.set_cons_zero, List.set_cons_succ, i64_w, i32_w]
                                        rfl
                                      refine one_ (i := 5) (N := some 89) #[true, true, true, true, true, true, false, false, false, false, false, false, false, false, false, false, false, false, false, false, false, false, false, false, false] rfl rfl (one_of HT_.out (by kernel_rfl)) (by decide) (fun K hK => ?_)
                                      refine goes_ Tryd.func39 (by kernel_rfl) rfl #[.string (rdOf ByteArray.empty l0_3 x3_4)] (by rfl) rfl rfl (by (try simp only [List.map_toArray, List.map_cons, List.map_nil]); first | done | rfl | (simp only [List.length_drop, List.length_take]; rfl)) ?_
                                      with_reducible refine (munimentref01_text.calls (rdOf ByteArray.empty l0_3 x3_4) true _ A56.out).mono ?_
                                      rintro e w65 ⟨rfl, hb⟩
                                      refine ⟨_, rfl, ?_⟩
                                      have n0_ := Aside0.mk (blk_below (g := gb186) (o := .cells #[.int .i64 a0_0, .int .i64 a0_1, .string a0_2, .slice (some ad191) l0_3.length c0_3, .slice A0_4 l0_4.length c0_4] 30 (0, 0)) (by (with_reducible repeat (first | refine blk_drewN ?_ _ | refine blk_drew ?_ | refine blk_alloc ?_ _)); exact BK186.out) hb)
                                      have n1_ := Aside0.mk (below_step (by repeat (first | (with_reducible first | exact HB.out | apply below_alloc | apply pw_below_drewN | apply below_drew1 | refine below_set ?_ GE186.out) | exact HB.out)) hb)
                                      clear BK186
                                      clear HB
                                      have BK186 := n0_
                                      have HB := n1_
                                      clear n0_ n1_
                                      (try clear hb)
                                      (try clear hb2)
                                      (try clear hk)
                                      (try clear hi)
                                      refine hK.out _ _ ⟨(blk_cell BK186.out 0).trans rfl, (blk_cell BK186.out 1).trans rfl, (blk_cell BK186.out 2).trans rfl, (blk_cell BK186.out 3).trans rfl, (blk_cell BK186.out 4).trans rfl, ((HB.out.cell (World.block_lt_of_cell? w _ hw191_0)).trans hw191_0), ((HB.out.cell (World.block_lt_of_cell? w _ hw193_0)).trans hw193_0), ((HB.out.cell (World.block_lt_of_cell? w _ hw194_0)).trans hw194_0)⟩ (fun hHeld => ?_)
                                      clear hK K
                                      refine norm_ (a' := ?_) ?_ ?_
                                      rotate_left
                                      · show Act.put _ (some 89) _ = _
                                        simp only [Act.put, List.setIfInBounds_toArray, List.set_cons_zero, List.set_cons_succ, i64_w, i32_w]
                                        rfl
                                      refine pure_ (i := 6) (N := some 90) (v := ?_) (a' := ?_) #[true, true, true, true, true, true, true, false, false, false, false, false, false, false, false, false, false, false, false, false, false, false, false, false, false] rfl rfl (any_of HT_.out (by kernel_rfl)) (fun _ _ _ h => h) (Or.inl ⟨by rfl, ?_⟩) ?_ ?_
                                      rotate_left
                                      · intro w'
                                        go_simp
                                        with_reducible rfl
                                      rotate_left
                                      · simp only [Act.put, List.setIfInBounds_toArray, List.set_cons_zero, List.set_cons_succ, i64_w, i32_w]
                                        rfl
                                      refine pure_ (i := 7) (N := some 91) (v := ?_) (a' := ?_) #[true, true, true, true, true, true, true, true, false, false, false, false, false, false, false, false, false, false, false, false, false, false, false, false, false] rfl rfl (any_of HT_.out (by kernel_rfl)) (fun _ _ _ h => h) (Or.inl ⟨by rfl, ?_⟩) ?_ ?_
                                      rotate_left
                                      · intro w'
                                        go_simp
                                        with_reducible rfl
                                      rotate_left
                                      · simp only [Act.put, List.setIfInBounds_toArray, List.set_cons_zero, List.set_cons_succ, i64_w, i32_w]
                                        rfl
                                      refine pure_ (i := 8) (N := some 92) (v := ?_) (a' := ?_) #[true, true, true, true, true, true, true, true, true, false, false, false, false, false, false, false, false, false, false, false, false, false, false, false, false] rfl rfl (any_of HT_.out (by kernel_rfl)) (fun _ _ _ h => h) (Or.inl ⟨by rfl, ?_⟩) ?_ ?_
                                      rotate_left
                                      · intro w'
                                        go_simp
                                        with_reducible rfl
                                      rotate_left
                                      · simp only [Act.put, List.setIfInBounds_toArray, List.set_cons_zero, List.set_cons_succ, i64_w, i32_w]
                                        rfl
                                      refine pure_ (i := 9) (N := some 93) (v := ?_) (a' := ?_) #[true, true, true, true, true, true, true, true, true, true, false, false, false, false, false, false, false, false, false, false, false, false, false, false, false] rfl rfl (any_of HT_.out (by kernel_rfl)) (fun _ _ _ h => h) (Or.inl ⟨by rfl, ?_⟩) ?_ ?_
                                      rotate_left
                                      · intro w'
                                        go_simp
                                        with_reducible rfl
                                      rotate_left
                                      · simp only [Act.put, List.setIfInBounds_toArray, List.set_cons_zero, List.set_cons_succ, i64_w, i32_w]
                                        rfl
                                      refine pure_ (i := 10) (N := some 94) (v := ?_) (a' := ?_) #[true, true, true, true, true, true, true, true, true, true, true, false, false, false, false, false, false, false, false, false, false, false, false, false, false] rfl rfl (any_of HT_.out (by kernel_rfl)) (fun _ _ _ h => h) (Or.inl ⟨by rfl, ?_⟩) ?_ ?_
                                      rotate_left
                                      · intro w'
                                        go_simp
                                        with_reducible rfl
                                      rotate_left
                                      · simp only [Act.put, List.setIfInBounds_toArray, List.set_cons_zero, List.set_cons_succ, i64_w, i32_w]
                                        rfl
                                      refine pure_ (i := 11) (N := some 95) (v := ?_) (a' := ?_) #[true, true, true, true, true, true, true, true, true, true, true, true, false, false, false, false, false, false, false, false, false, false, false, false, false] rfl rfl (any_of HT_.out (by kernel_rfl)) (fun _ _ _ h => h) (Or.inl ⟨by rfl, ?_⟩) ?_ ?_
                                      rotate_left
                                      · intro w'
                                        go_simp
                                        with_reducible rfl
                                      rotate_left
                                      · simp only [Act.put, List.setIfInBounds_toArray, List.set_cons_zero, List.set_cons_succ, i64_w, i32_w]
                                        rfl
                                      refine pure_ (i := 13) (N := some 97) (v := ?_) (a' := ?_) #[true, true, true, true, true, true, true, true, true, true, true, true, false, true, false, false, false, false, false, false, false, false, false, false, false] rfl rfl (any_of HT_.out (by kernel_rfl)) (fun _ _ _ h => h) (Or.inl ⟨by rfl, ?_⟩) ?_ ?_
                                      rotate_left
                                      · intro w'
                                        go_simp
                                        with_reducible rfl
                                      rotate_left
                                      · simp only [Act.put, List.setIfInBounds_toArray, List.set_cons_zero, List.set_cons_succ, i64_w, i32_w]
                                        rfl
                                      refine pure_ (i := 14) (N := some 98) (v := ?_) (a' := ?_) #[true, true, true, true, true, true, true, true, true, true, true, true, false, true, true, false, false, false, false, false, false, false, false, false, false] rfl rfl (any_of HT_.out (by kernel_rfl)) (fun _ _ _ h => h) (Or.inl ⟨by rfl, ?_⟩) ?_ ?_
                                      rotate_left
                                      · intro w'
                                        go_simp
                                        with_reducible rfl
                                      rotate_left
                                      · simp only [Act.put, List.setIfInBounds_toArray, List.set_cons_zero, List.set_cons_succ, i64_w, i32_w]
                                        rfl
                                      refine pure_ (i := 17) (N := some 101) (v := ?_) (a' := ?_) #[true, true, true, true, true, true, true, true, true, true, true, true, false, true, true, false, false, true, false, false, false, false, false, false, false] rfl rfl (any_of HT_.out (by kernel_rfl)) (fun _ _ _ h => h) (Or.inl ⟨by rfl, ?_⟩) ?_ ?_
                                      rotate_left
                                      · intro w'
                                        go_simp
                                        with_reducible rfl
                                      rotate_left
                                      · simp only [Act.put, List.setIfInBounds_toArray, List.set_cons_zero, List.set_cons_succ, i64_w, i32_w]
                                        rfl
                                      refine pure_ (i := 19) (N := some 103) (v := ?_) (a' := ?_) #[true, true, true, true, true, true, true, true, true, true, true, true, false, true, true, false, false, true, false, true, false, false, false, false, false] rfl rfl (any_of HT_.out (by kernel_rfl)) (fun _ _ _ h => h) (Or.inl ⟨by rfl, ?_⟩) ?_ ?_
                                      rotate_left
                                      · intro w'
                                        go_simp
                                        with_reducible rfl
                                      rotate_left
                                      · simp only [Act.put, List.setIfInBounds_toArray, List.set_cons_zero, List.set_cons_succ, i64_w, i32_w]
                                        rfl
                                      refine take_ (i := 12) (N := some 96) (v := ?_) (a' := ?_) #[true, true, true, true, true, true, true, true, true, true, true, true, true, true, true, false, false, true, false, true, false, false, false, false, false] rfl rfl (take_ofW HT_.out HW_.out (by kernel_rfl)) (fun _ _ _ h => h) (Or.inl ⟨by rfl, ?_⟩) hHeld ?_ ?_
                                      rotate_left
                                      · rintro w' ⟨s0, s1, s2, s3, s4, s5, s6, s7⟩
                                        go_simp
                                        with_reducible rfl
                                      rotate_left
                                      · simp only [Act.put, List.setIfInBounds_toArray, List.set_cons_zero, List.set_cons_succ, i64_w, i32_w]
                                        rfl
                                      refine pure_ (i := 15) (N := some 99) (v := ?_) (a' := ?_) #[true, true, true, true, true, true, true, true, true, true, true, true, true, true, true, true, false, true, false, true, false, false, false, false, false] rfl rfl (any_of HT_.out (by kernel_rfl)) (fun _ _ _ h => h) (Or.inl ⟨by rfl, ?_⟩) ?_ ?_
                                      rotate_left
                                      · intro w'
                                        go_simp
                                        with_reducible rfl
                                      rotate_left
                                      · simp only [Act.put, List.setIfInBounds_toArray, List.set_cons_zero, List.set_cons_succ, i64_w, i32_w]
                                        rfl
                                      refine take_ (i := 16) (N := some 100) (v := ?_) (a' := ?_) #[true, true, true, true, true, true, true, true, true, true, true, true, true, true, true, true, true, true, false, true, false, false, false, false, false] rfl rfl (take_ofW HT_.out HW_.out (by kernel_rfl)) (fun _ _ _ h => h) (Or.inl ⟨by rfl, ?_⟩) hHeld ?_ ?_
                                      rotate_left
                                      · rintro w' ⟨s0, s1, s2, s3, s4, s5, s6, s7⟩
                                        go_simp
                                        with_reducible rfl
                                      rotate_left
                                      · simp only [Act.put, List.setIfInBounds_toArray, List.set_cons_zero, List.set_cons_succ, i64_w, i32_w]
                                        rfl
                                      refine take_ (i := 18) (N := some 102) (v := ?_) (a' := ?_) #[true, true, true, true, true, true, true, true, true, true, true, true, true, true, true, true, true, true, true, true, false, false, false, false, false] rfl rfl (take_ofW HT_.out HW_.out (by kernel_rfl)) (fun _ _ _ h => h) (Or.inl ⟨by rfl, ?_⟩) hHeld ?_ ?_
                                      rotate_left
                                      · rintro w' ⟨s0, s1, s2, s3, s4, s5, s6, s7⟩
                                        go_simp
                                        with_reducible rfl
                                      rotate_left
                                      · simp only [Act.put, List.setIfInBounds_toArray, List.set_cons_zero, List.set_cons_succ, i64_w, i32_w]
                                        rfl
                                      refine pure_ (i := 20) (N := some 104) (v := ?_) (a' := ?_) #[true, true, true, true, true, true, true, true, true, true, true, true, true, true, true, true, true, true, true, true, true, false, false, false, false] rfl rfl (any_of HT_.out (by kernel_rfl)) (fun _ _ _ h => h) (Or.inl ⟨by rfl, ?_⟩) ?_ ?_
                                      rotate_left
                                      · intro w'
                                        go_simp
                                        with_reducible rfl
                                      rotate_left
                                      · simp only [Act.put, List.setIfInBounds_toArray, List.set_cons_zero, List.set_cons_succ, i64_w, i32_w]
                                        rfl
                                      refine take_ (i := 21) (N := some 105) (v := ?_) (a' := ?_) #[true, true, true, true, true, true, true, true, true, true, true, true, true, true, true, true, true, true, true, true, true, true, false, false, false] rfl rfl (take_ofW HT_.out HW_.out (by kernel_rfl)) (fun _ _ _ h => h) (Or.inl ⟨by rfl, ?_⟩) hHeld ?_ ?_
                                      rotate_left
                                      · rintro w' ⟨s0, s1, s2, s3, s4, s5, s6, s7⟩
                                        go_simp
                                        with_reducible rfl
                                      rotate_left
                                      · simp only [Act.put, List.setIfInBounds_toArray, List.set_cons_zero, List.set_cons_succ, i64_w, i32_w]
                                        rfl
                                      refine pure_ (i := 22) (N := some 106) (v := ?_) (a' := ?_) #[true, true, true, true, true, true, true, true, true, true, true, true, true, true, true, true, true, true, true, true, true, true, true, false, false] rfl rfl (any_of HT_.out (by kernel_rfl)) (fun _ _ _ h => h) (Or.inl ⟨by rfl, ?_⟩) ?_ ?_
                                      rotate_left
                                      · intro w'
                                        go_simp
                                        with_reducible rfl
                                      rotate_left
                                      · simp only [Act.put, List.setIfInBounds_toArray, List.set_cons_zero, List.set_cons_succ, i64_w, i32_w]
                                        rfl
                                      refine pure_ (i := 23) (N := some 107) (v := ?_) (a' := ?_) #[true, true, true, true, true, true, true, true, true, true, true, true, true, true, true, true, true, true, true, true, true, true, true, true, false] rfl rfl (any_of HT_.out (by kernel_rfl)) (fun _ _ _ h => h) (Or.inl ⟨by rfl, ?_⟩) ?_ ?_
                                      rotate_left
                                      · intro w'
                                        go_simp
                                        with_reducible rfl
                                      rotate_left
                                      · simp only [Act.put, List.setIfInBounds_toArray, List.set_cons_zero, List.set_cons_succ, i64_w, i32_w]
                                        rfl
                                      refine pure_ (i := 24) (N := some 108) (v := ?_) (a' := ?_) #[true, true, true, true, true, true, true, true, true, true, true, true, true, true, true, true, true, true, true, true, true, true, true, true, true] rfl rfl (any_of HT_.out (by kernel_rfl)) (fun _ _ _ h => h) (Or.inl ⟨by rfl, ?_⟩) ?_ ?_
                                      rotate_left
                                      · intro w'
                                        go_simp
                                        with_reducible rfl
                                      rotate_left
                                      · simp only [Act.put, List.setIfInBounds_toArray, List.set_cons_zero, List.set_cons_succ, i64_w, i32_w]
                                        rfl
                                      refine done_ (done_of HT_.out (by kernel_rfl)) ?_
                                      try go_wp2
                                      go_roundg k4
                                      case measure => have := HJ1.out; have := HJ17.out; have := HJ48.out; have := HK4.out; omega
                                      case rel => exact ⟨(wrap64 (x3_4 + 1)), (by first | rfl | (simp; done) | (simp [*]; done)), H', ⟨by have := HJ1.out; have := HJ17.out; have := HJ48.out; have := HK4.out; omega⟩, ⟨by (with_reducible repeat (first | refine blk_drewN ?_ _ | refine blk_drew ?_ | refine blk_alloc ?_ _)); exact BK186.out⟩, ⟨by repeat (first | (with_reducible first | exact HB.out | apply below_alloc | apply pw_below_drewN | apply below_drew1 | refine below_set ?_ GE186.out) | exact HB.out)⟩⟩
                                    · rw [if_neg c62] at H
                                      have c62b0 : (Op.bytesLess ((rdOf ByteArray.empty l0_3 (ji59)).toList) ((rdOf ByteArray.empty l0_3 x3_4).toList)) = false := by simpa using c62
                                      clear c62
                                      obtain rfl := Option.some.inj H
                                      have hcz66_0 : wr.cell? ⟨gb186, 0, none⟩ = some (.int .i64 a0_0) := (blk_cell BK186.out 0).trans rfl
                                      have hcz66_1 : wr.cell? ⟨gb186, 1, none⟩ = some (.int .i64 a0_1) := (blk_cell BK186.out 1).trans rfl
                                      have hcz66_2 : wr.cell? ⟨gb186, 2, none⟩ = some (.string a0_2) := (blk_cell BK186.out 2).trans rfl
                                      have hcz66_3 : wr.cell? ⟨gb186, 3, none⟩ = some (.slice A0_3 l0_3.length c0_3) := (blk_cell BK186.out 3).trans rfl
                                      have hcz66_4 : wr.cell? ⟨gb186, 4, none⟩ = some (.slice A0_4 l0_4.length c0_4) := (blk_cell BK186.out 4).trans rfl
                                      have hfz66_0 := blk_frozen BK186.out 0
                                      have hfz66_1 := blk_frozen BK186.out 1
                                      have hfz66_2 := blk_frozen BK186.out 2
                                      have hfz66_3 := blk_frozen BK186.out 3
                                      have hfz66_4 := blk_frozen BK186.out 4
                                      try go_wp2
                                      have n0_ := Aside0.mk (blk_drew BK186.out)
                                      have n1_ := Aside0.mk (below_drew1 HB.out)
                                      clear BK186
                                      clear HB
                                      have BK186 := n0_
                                      have HB := n1_
                                      clear n0_ n1_
                                      have p191 : 0 ≤ (x3_4 : Int) := of_decide_eq_true (by first | (with_reducible assumption) | assumption)
                                      have q191 : x3_4 < (l0_3.length : Int) := of_decide_eq_true (by first | (with_reducible assumption) | assumption)
                                      obtain ⟨ad191, e191, hx191_0⟩ := Kd.at_string HR0_3.out x3_4 p191 q191
                                      have hw191_0 := hx191_0
                                      cases e191
                                      replace hx191_0 := (HB.out.cell (World.block_lt_of_cell? w _ hx191_0)).trans hx191_0
                                      replace p191 := eq_true p191
                                      replace q191 := eq_true q191
                                      have p193 : 0 ≤ ((ji59) : Int) := of_decide_eq_true (by first | (with_reducible assumption) | assumption)
                                      have q193 : (ji59) < (l0_3.length : Int) := of_decide_eq_true (by first | (with_reducible assumption) | assumption)
                                      obtain ⟨ad193, e193, hx193_0⟩ := Kd.at_string HR0_3.out (ji59) p193 q193
                                      have hw193_0 := hx193_0
                                      obtain rfl : ad191 = ad193 := (by injection e193)
                                      replace hx193_0 := (HB.out.cell (World.block_lt_of_cell? w _ hx193_0)).trans hx193_0
                                      replace p193 := eq_true p193
                                      replace q193 := eq_true q193
                                      have p194 : 0 ≤ (x3_4 : Int) := of_decide_eq_true (by first | (with_reducible assumption) | assumption)
                                      have q194 : x3_4 < (l0_3.length : Int) := of_decide_eq_true (by first | (with_reducible assumption) | assumption)
                                      obtain ⟨ad194, e194, hx194_0⟩ := Kd.at_string HR0_3.out x3_4 p194 q194
                                      have hw194_0 := hx194_0
                                      obtain rfl : ad191 = ad194 := (by injection e194)
                                      replace hx194_0 := (HB.out.cell (World.block_lt_of_cell? w _ hx194_0)).trans hx194_0
                                      replace p194 := eq_true p194
                                      replace q194 := eq_true q194
                                      refine start_ (n := 25) (S := fun w' => w'.cell? ⟨gb186, 0, none⟩ = some (.int .i64 a0_0) ∧ w'.cell? ⟨gb186, 1, none⟩ = some (.int .i64 a0_1) ∧ w'.cell? ⟨gb186, 2, none⟩ = some (.string a0_2) ∧ w'.cell? ⟨gb186, 3, none⟩ = some (.slice (some ad191) l0_3.length c0_3) ∧ w'.cell? ⟨gb186, 4, none⟩ = some (.slice A0_4 l0_4.length c0_4) ∧ w'.cell? (ad191.add (x3_4).toNat) = some (.string (rdOf ByteArray.empty l0_3 x3_4)) ∧ w'.cell? (ad191.add ((ji59)).toNat) = some (.string (rdOf ByteArray.empty l0_3 (ji59))) ∧ w'.cell? (ad191.add (x3_4).toNat) = some (.string (rdOf ByteArray.empty l0_3 x3_4))) (ds := []) #[false, false, false, false, false, false, false, false, false, false, false, false, false, false, false, false, false, false, false, false, false, false, false, false, false] (by kernel_rfl) rfl rfl ⟨(blk_cell BK186.out 0).trans rfl, (blk_cell BK186.out 1).trans rfl, (blk_cell BK186.out 2).trans rfl, (blk_cell BK186.out 3).trans rfl, (blk_cell BK186.out 4).trans rfl, ((HB.out.cell (World.block_lt_of_cell? w _ hw191_0)).trans hw191_0), ((HB.out.cell (World.block_lt_of_cell? w _ hw193_0)).trans hw193_0), ((HB.out.cell (World.block_lt_of_cell? w _ hw194_0)).trans hw194_0)⟩ (fun hHeld => ?_); refine with_tabW munimentref01_formed.tab10 munimentref01_formed.bits10 (fun HT_ HW_ => ?_)
                                      generalize wr.drew = w67 at BK186 HB hx191_0 hx193_0 hx194_0 hHeld ⊢
                                      refine pure_ (i := 0) (N := some 84) (v := ?_) (a' := ?_) #[true, false, false, false, false, false, false, false, false, false, false, false, false, false, false, false, false, false, false, false, false, false, false, false, false] rfl rfl (any_of HT_.out (by kernel_rfl)) (fun _ _ _ h => h) (Or.inl ⟨by rfl, ?_⟩) ?_ ?_
                                      rotate_left
                                      · intro w'
                                        go_simp
                                        with_reducible rfl
                                      rotate_left
                                      · simp only [Act.put, List.setIfInBounds_toArray, List.set_cons_zero, List.set_cons_succ, i64_w, i32_w]
                                        rfl
                                      refine pure_ (i := 2) (N := some 86) (v := ?_) (a' := ?_) #[true, false, true, false, false, false, false, false, false, false, false, false, false, false, false, false, false, false, false, false, false, false, false, false, false] rfl rfl (any_of HT_.out (by kernel_rfl)) (fun _ _ _ h => h) (Or.inl ⟨by rfl, ?_⟩) ?_ ?_
                                      rotate_left
                                      · intro w'
                                        go_simp
                                        with_reducible rfl
                                      rotate_left
                                      · simp only [Act.put, List.setIfInBounds_toArray, List.set_cons_zero, List.set_cons_succ, i64_w, i32_w]
                                        rfl
                                      refine take_ (i := 1) (N := some 85) (v := ?_) (a' := ?_) #[true, true, true, false, false, false, false, false, false, false, false, false, false, false, false, false, false, false, false, false, false, false, false, false, false] rfl rfl (take_ofW HT_.out HW_.out (by kernel_rfl)) (fun _ _ _ h => h) (Or.inl ⟨by rfl, ?_⟩) hHeld ?_ ?_
                                      rotate_left
                                      · rintro w' ⟨s0, s1, s2, s3, s4, s5, s6, s7⟩
                                        go_simp
                                        with_reducible rfl
                                      rotate_left
                                      · simp only [Act.put, List.setIfInBounds_toArray, List.set_cons_zero, List.set_cons_succ, i64_w, i32_w]
                                        rfl
                                      refine pure_ (i := 3) (N := some 87) (v := ?_) (a' := ?_) #[true, true, true, true, false, false, false, false, false, false, false, false, false, false, false, false, false, false, false, false, false, false, false, false, false] rfl rfl (any_of HT_.out (by kernel_rfl)) (fun _ _ _ h => h) (Or.inl ⟨by rfl, ?_⟩) ?_ ?_
                                      rotate_left
                                      · intro w'
                                        go_simp
                                        with_reducible rfl
                                      rotate_left
                                      · simp only [Act.put, List.setIfInBounds_toArray, List.set_cons_zero, List.set_cons_succ, i64_w, i32_w]
                                        rfl
                                      refine take_ (i := 4) (N := some 88) (v := ?_) (a' := ?_) #[true, true, true, true, true, false, false, false, false, false, false, false, false, false, false, false, false, false, false, false, false, false, false, false, false] rfl rfl (take_ofW HT_.out HW_.out (by kernel_rfl)) (fun _ _ _ h => h) (Or.inl ⟨by rfl, ?_⟩) hHeld ?_ ?_
                                      rotate_left
                                      · rintro w' ⟨s0, s1, s2, s3, s4, s5, s6, s7⟩
                                        go_simp
                                        with_reducible rfl
                                      rotate_left
                                      · simp only [Act.put, List.setIfInBounds_toArray, List.set_cons_zero, List.set_cons_succ, i64_w, i32_w]
                                        rfl
                                      refine one_ (i := 5) (N := some 89) #[true, true, true, true, true, true, false, false, false, false, false, false, false, false, false, false, false, false, false, false, false, false, false, false, false] rfl rfl (one_of HT_.out (by kernel_rfl)) (by decide) (fun K hK => ?_)
                                      refine goes_ Tryd.func39 (by kernel_rfl) rfl #[.string (rdOf ByteArray.empty l0_3 x3_4)] (by rfl) rfl rfl (by (try simp only [List.map_toArray, List.map_cons, List.map_nil]); first | done | rfl | (simp only [List.length_drop, List.length_take]; rfl)) ?_
                                      with_reducible refine (munimentref01_text.calls (rdOf ByteArray.empty l0_3 x3_4) true _ A56.out).mono ?_
                                      rintro e w68 ⟨rfl, hb⟩
                                      refine ⟨_, rfl, ?_⟩
                                      have n0_ := Aside0.mk (blk_below (g := gb186) (o := .cells #[.int .i64 a0_0, .int .i64 a0_1, .string a0_2, .slice (some ad191) l0_3.length c0_3, .slice A0_4 l0_4.length c0_4] 30 (0, 0)) (by (with_reducible repeat (first | refine blk_drewN ?_ _ | refine blk_drew ?_ | refine blk_alloc ?_ _)); exact BK186.out) hb)
                                      have n1_ := Aside0.mk (below_step (by repeat (first | (with_reducible first | exact HB.out | apply below_alloc | apply pw_below_drewN | apply below_drew1 | refine below_set ?_ GE186.out) | exact HB.out)) hb)
                                      clear BK186
                                      clear HB
                                      have BK186 := n0_
                                      have HB := n1_
                                      clear n0_ n1_
                                      (try clear hb)
                                      (try clear hb2)
                                      (try clear hk)
                                      (try clear hi)
                                      refine hK.out _ _ ⟨(blk_cell BK186.out 0).trans rfl, (blk_cell BK186.out 1).trans rfl, (blk_cell BK186.out 2).trans rfl, (blk_cell BK186.out 3).trans rfl, (blk_cell BK186.out 4).trans rfl, ((HB.out.cell (World.block_lt_of_cell? w _ hw191_0)).trans hw191_0), ((HB.out.cell (World.block_lt_of_cell? w _ hw193_0)).trans hw193_0), ((HB.out.cell (World.block_lt_of_cell? w _ hw194_0)).trans hw194_0)⟩ (fun hHeld => ?_)
                                      clear hK K
                                      refine norm_ (a' := ?_) ?_ ?_
                                      rotate_left
                                      · show Act.put _ (some 89) _ = _
                                        simp only [Act.put, List.setIfInBounds_toArray, List.set_cons_zero, List.set_cons_succ, i64_w, i32_w]
                                        rfl
                                      refine pure_ (i := 6) (N := some 90) (v := ?_) (a' := ?_) #[true, true, true, true, true, true, true, false, false, false, false, false, false, false, false, false, false, false, false, false, false, false, false, false, false] rfl rfl (any_of HT_.out (by kernel_rfl)) (fun _ _ _ h => h) (Or.inl ⟨by rfl, ?_⟩) ?_ ?_
                                      rotate_left
                                      · intro w'
                                        go_simp
                                        with_reducible rfl
                                      rotate_left
                                      · simp only [Act.put, List.setIfInBounds_toArray, List.set_cons_zero, List.set_cons_succ, i64_w, i32_w]
                                        rfl
                                      refine pure_ (i := 7) (N := some 91) (v := ?_) (a' := ?_) #[true, true, true, true, true, true, true, true, false, false, false, false, false, false, false, false, false, false, false, false, false, false, false, false, false] rfl rfl (any_of HT_.out (by kernel_rfl)) (fun _ _ _ h => h) (Or.inl ⟨by rfl, ?_⟩) ?_ ?_
                                      rotate_left
                                      · intro w'
                                        go_simp
                                        with_reducible rfl
                                      rotate_left
                                      · simp only [Act.put, List.setIfInBounds_toArray, List.set_cons_zero, List.set_cons_succ, i64_w, i32_w]
                                        rfl
                                      refine pure_ (i := 8) (N := some 92) (v := ?_) (a' := ?_) #[true, true, true, true, true, true, true, true, true, false, false, false, false, false, false, false, false, false, false, false, false, false, false, false, false] rfl rfl (any_of HT_.out (by kernel_rfl)) (fun _ _ _ h => h) (Or.inl ⟨by rfl, ?_⟩) ?_ ?_
                                      rotate_left
                                      · intro w'
                                        go_simp
                                        with_reducible rfl
                                      rotate_left
                                      · simp only [Act.put, List.setIfInBounds_toArray, List.set_cons_zero, List.set_cons_succ, i64_w, i32_w]
                                        rfl
                                      refine pure_ (i := 9) (N := some 93) (v := ?_) (a' := ?_) #[true, true, true, true, true, true, true, true, true, true, false, false, false, false, false, false, false, false, false, false, false, false, false, false, false] rfl rfl (any_of HT_.out (by kernel_rfl)) (fun _ _ _ h => h) (Or.inl ⟨by rfl, ?_⟩) ?_ ?_
                                      rotate_left
                                      · intro w'
                                        go_simp
                                        with_reducible rfl
                                      rotate_left
                                      · simp only [Act.put, List.setIfInBounds_toArray, List.set_cons_zero, List.set_cons_succ, i64_w, i32_w]
                                        rfl
                                      refine pure_ (i := 10) (N := some 94) (v := ?_) (a' := ?_) #[true, true, true, true, true, true, true, true, true, true, true, false, false, false, false, false, false, false, false, false, false, false, false, false, false] rfl rfl (any_of HT_.out (by kernel_rfl)) (fun _ _ _ h => h) (Or.inl ⟨by rfl, ?_⟩) ?_ ?_
                                      rotate_left
                                      · intro w'
                                        go_simp
                                        with_reducible rfl
                                      rotate_left
                                      · simp only [Act.put, List.setIfInBounds_toArray, List.set_cons_zero, List.set_cons_succ, i64_w, i32_w]
                                        rfl
                                      refine pure_ (i := 11) (N := some 95) (v := ?_) (a' := ?_) #[true, true, true, true, true, true, true, true, true, true, true, true, false, false, false, false, false, false, false, false, false, false, false, false, false] rfl rfl (any_of HT_.out (by kernel_rfl)) (fun _ _ _ h => h) (Or.inl ⟨by rfl, ?_⟩) ?_ ?_
                                      rotate_left
                                      · intro w'
                                        go_simp
                                        with_reducible rfl
                                      rotate_left
                                      · simp only [Act.put, List.setIfInBounds_toArray, List.set_cons_zero, List.set_cons_succ, i64_w, i32_w]
                                        rfl
                                      refine pure_ (i := 13) (N := some 97) (v := ?_) (a' := ?_) #[true, true, true, true, true, true, true, true, true, true, true, true, false, true, false, false, false, false, false, false, false, false, false, false, false] rfl rfl (any_of HT_.out (by kernel_rfl)) (fun _ _ _ h => h) (Or.inl ⟨by rfl, ?_⟩) ?_ ?_
                                      rotate_left
                                      · intro w'
                                        go_simp
                                        with_reducible rfl
                                      rotate_left
                                      · simp only [Act.put, List.setIfInBounds_toArray, List.set_cons_zero, List.set_cons_succ, i64_w, i32_w]
                                        rfl
                                      refine pure_ (i := 14) (N := some 98) (v := ?_) (a' := ?_) #[true, true, true, true, true, true, true, true, true, true, true, true, false, true, true, false, false, false, false, false, false, false, false, false, false] rfl rfl (any_of HT_.out (by kernel_rfl)) (fun _ _ _ h => h) (Or.inl ⟨by rfl, ?_⟩) ?_ ?_
                                      rotate_left
                                      · intro w'
                                        go_simp
                                        with_reducible rfl
                                      rotate_left
                                      · simp only [Act.put, List.setIfInBounds_toArray, List.set_cons_zero, List.set_cons_succ, i64_w, i32_w]
                                        rfl
                                      refine pure_ (i := 17) (N := some 101) (v := ?_) (a' := ?_) #[true, true, true, true, true, true, true, true, true, true, true, true, false, true, true, false, false, true, false, false, false, false, false, false, false] rfl rfl (any_of HT_.out (by kernel_rfl)) (fun _ _ _ h => h) (Or.inl ⟨by rfl, ?_⟩) ?_ ?_
                                      rotate_left
                                      · intro w'
                                        go_simp
                                        with_reducible rfl
                                      rotate_left
                                      · simp only [Act.put, List.setIfInBounds_toArray, List.set_cons_zero, List.set_cons_succ, i64_w, i32_w]
                                        rfl
                                      refine pure_ (i := 19) (N := some 103) (v := ?_) (a' := ?_) #[true, true, true, true, true, true, true, true, true, true, true, true, false, true, true, false, false, true, false, true, false, false, false, false, false] rfl rfl (any_of HT_.out (by kernel_rfl)) (fun _ _ _ h => h) (Or.inl ⟨by rfl, ?_⟩) ?_ ?_
                                      rotate_left
                                      · intro w'
                                        go_simp
                                        with_reducible rfl
                                      rotate_left
                                      · simp only [Act.put, List.setIfInBounds_toArray, List.set_cons_zero, List.set_cons_succ, i64_w, i32_w]
                                        rfl
                                      refine take_ (i := 12) (N := some 96) (v := ?_) (a' := ?_) #[true, true, true, true, true, true, true, true, true, true, true, true, true, true, true, false, false, true, false, true, false, false, false, false, false] rfl rfl (take_ofW HT_.out HW_.out (by kernel_rfl)) (fun _ _ _ h => h) (Or.inl ⟨by rfl, ?_⟩) hHeld ?_ ?_
                                      rotate_left
                                      · rintro w' ⟨s0, s1, s2, s3, s4, s5, s6, s7⟩
                                        go_simp
                                        with_reducible rfl
                                      rotate_left
                                      · simp only [Act.put, List.setIfInBounds_toArray, List.set_cons_zero, List.set_cons_succ, i64_w, i32_w]
                                        rfl
                                      refine pure_ (i := 15) (N := some 99) (v := ?_) (a' := ?_) #[true, true, true, true, true, true, true, true, true, true, true, true, true, true, true, true, false, true, false, true, false, false, false, false, false] rfl rfl (any_of HT_.out (by kernel_rfl)) (fun _ _ _ h => h) (Or.inl ⟨by rfl, ?_⟩) ?_ ?_
                                      rotate_left
                                      · intro w'
                                        go_simp
                                        with_reducible rfl
                                      rotate_left
                                      · simp only [Act.put, List.setIfInBounds_toArray, List.set_cons_zero, List.set_cons_succ, i64_w, i32_w]
                                        rfl
                                      refine take_ (i := 16) (N := some 100) (v := ?_) (a' := ?_) #[true, true, true, true, true, true, true, true, true, true, true, true, true, true, true, true, true, true, false, true, false, false, false, false, false] rfl rfl (take_ofW HT_.out HW_.out (by kernel_rfl)) (fun _ _ _ h => h) (Or.inl ⟨by rfl, ?_⟩) hHeld ?_ ?_
                                      rotate_left
                                      · rintro w' ⟨s0, s1, s2, s3, s4, s5, s6, s7⟩
                                        go_simp
                                        with_reducible rfl
                                      rotate_left
                                      · simp only [Act.put, List.setIfInBounds_toArray, List.set_cons_zero, List.set_cons_succ, i64_w, i32_w]
                                        rfl
                                      refine take_ (i := 18) (N := some 102) (v := ?_) (a' := ?_) #[true, true, true, true, true, true, true, true, true, true, true, true, true, true, true, true, true, true, true, true, false, false, false, false, false] rfl rfl (take_ofW HT_.out HW_.out (by kernel_rfl)) (fun _ _ _ h => h) (Or.inl ⟨by rfl, ?_⟩) hHeld ?_ ?_
                                      rotate_left
                                      · rintro w' ⟨s0, s1, s2, s3, s4, s5, s6, s7⟩
                                        go_simp
                                        with_reducible rfl
                                      rotate_left
                                      · simp only [Act.put, List.setIfInBounds_toArray, List.set_cons_zero, List.set_cons_succ, i64_w, i32_w]
                                        rfl
                                      refine pure_ (i := 20) (N := some 104) (v := ?_) (a' := ?_) #[true, true, true, true, true, true, true, true, true, true, true, true, true, true, true, true, true, true, true, true, true, false, false, false, false] rfl rfl (any_of HT_.out (by kernel_rfl)) (fun _ _ _ h => h) (Or.inl ⟨by rfl, ?_⟩) ?_ ?_
                                      rotate_left
                                      · intro w'
                                        go_simp
                                        with_reducible rfl
                                      rotate_left
                                      · simp only [Act.put, List.setIfInBounds_toArray, List.set_cons_zero, List.set_cons_succ, i64_w, i32_w]
                                        rfl
                                      refine take_ (i := 21) (N := some 105) (v := ?_) (a' := ?_) #[true, true, true, true, true, true, true, true, true, true, true, true, true, true, true, true, true, true, true, true, true, true, false, false, false] rfl rfl (take_ofW HT_.out HW_.out (by kernel_rfl)) (fun _ _ _ h => h) (Or.inl ⟨by rfl, ?_⟩) hHeld ?_ ?_
                                      rotate_left
                                      · rintro w' ⟨s0, s1, s2, s3, s4, s5, s6, s7⟩
                                        go_simp
                                        with_reducible rfl
                                      rotate_left
                                      · simp only [Act.put, List.setIfInBounds_toArray, List.set_cons_zero, List.set_cons_succ, i64_w, i32_w]
                                        rfl
                                      refine pure_ (i := 22) (N := some 106) (v := ?_) (a' := ?_) #[true, true, true, true, true, true, true, true, true, true, true, true, true, true, true, true, true, true, true, true, true, true, true, false, false] rfl rfl (any_of HT_.out (by kernel_rfl)) (fun _ _ _ h => h) (Or.inl ⟨by rfl, ?_⟩) ?_ ?_
                                      rotate_left
                                      · intro w'
                                        go_simp
                                        with_reducible rfl
                                      rotate_left
                                      · simp only [Act.put, List.setIfInBounds_toArray, List.set_cons_zero, List.set_cons_succ, i64_w, i32_w]
                                        rfl
                                      refine pure_ (i := 23) (N := some 107) (v := ?_) (a' := ?_) #[true, true, true, true, true, true, true, true, true, true, true, true, true, true, true, true, true, true, true, true, true, true, true, true, false] rfl rfl (any_of HT_.out (by kernel_rfl)) (fun _ _ _ h => h) (Or.inl ⟨by rfl, ?_⟩) ?_ ?_
                                      rotate_left
                                      · intro w'
                                        go_simp
                                        with_reducible rfl
                                      rotate_left
                                      · simp only [Act.put, List.setIfInBounds_toArray, List.set_cons_zero, List.set_cons_succ, i64_w, i32_w]
                                        rfl
                                      refine pure_ (i := 24) (N := some 108) (v := ?_) (a' := ?_) #[true, true, true, true, true, true, true, true, true, true, true, true, true, true, true, true, true, true, true, true, true, true, true, true, true] rfl rfl (any_of HT_.out (by kernel_rfl)) (fun _ _ _ h => h) (Or.inl ⟨by rfl, ?_⟩) ?_ ?_
                                      rotate_left
                                      · intro w'
                                        go_simp
                                        with_reducible rfl
                                      rotate_left
                                      · simp only [Act.put, List.setIfInBounds_toArray, List.set_cons_zero, List.set_cons_succ, i64_w, i32_w]
                                        rfl
                                      refine done_ (done_of HT_.out (by kernel_rfl)) ?_
                                      try go_wp2
                                      go_ret
                                      exact ⟨by first | rfl | (simp [errW_none, errW_some] <;> rfl) | (simp only [← hji59]; first | rfl | (simp [errW_none, errW_some] <;> rfl)) | (simp [*, errW_none, errW_some] <;> rfl), by repeat (first | (with_reducible first | exact HB.out | apply below_alloc | apply pw_below_drewN | apply below_drew1 | refine below_set ?_ GE186.out) | exact HB.out)⟩
                                  · rw [if_neg c61] at H
                                    exact absurd H (by simp)
                                · rw [if_neg c60] at H
                                  exact absurd H (by simp)
                              · rw [if_neg c58] at H
                                have c58b0 : decide (0 < x3_4) = false := decide_eq_false c58
                                clear c58
                                have H' := Aside0.mk H
                                clear H
                                have hcz69_0 : wr.cell? ⟨gb186, 0, none⟩ = some (.int .i64 a0_0) := (blk_cell BK186.out 0).trans rfl
                                have hcz69_1 : wr.cell? ⟨gb186, 1, none⟩ = some (.int .i64 a0_1) := (blk_cell BK186.out 1).trans rfl
                                have hcz69_2 : wr.cell? ⟨gb186, 2, none⟩ = some (.string a0_2) := (blk_cell BK186.out 2).trans rfl
                                have hcz69_3 : wr.cell? ⟨gb186, 3, none⟩ = some (.slice A0_3 l0_3.length c0_3) := (blk_cell BK186.out 3).trans rfl
                                have hcz69_4 : wr.cell? ⟨gb186, 4, none⟩ = some (.slice A0_4 l0_4.length c0_4) := (blk_cell BK186.out 4).trans rfl
                                have hfz69_0 := blk_frozen BK186.out 0
                                have hfz69_1 := blk_frozen BK186.out 1
                                have hfz69_2 := blk_frozen BK186.out 2
                                have hfz69_3 := blk_frozen BK186.out 3
                                have hfz69_4 := blk_frozen BK186.out 4
                                try go_wp2
                                have n0_ := Aside0.mk (blk_drew BK186.out)
                                have n1_ := Aside0.mk (below_drew1 HB.out)
                                clear BK186
                                clear HB
                                have BK186 := n0_
                                have HB := n1_
                                clear n0_ n1_
                                have p191 : 0 ≤ (x3_4 : Int) := of_decide_eq_true (by first | (with_reducible assumption) | assumption)
                                have q191 : x3_4 < (l0_3.length : Int) := of_decide_eq_true (by first | (with_reducible assumption) | assumption)
                                obtain ⟨ad191, e191, hx191_0⟩ := Kd.at_string HR0_3.out x3_4 p191 q191
                                have hw191_0 := hx191_0
                                cases e191
                                replace hx191_0 := (HB.out.cell (World.block_lt_of_cell? w _ hx191_0)).trans hx191_0
                                replace p191 := eq_true p191
                                replace q191 := eq_true q191
                                refine start_ (n := 25) (S := fun w' => w'.cell? ⟨gb186, 0, none⟩ = some (.int .i64 a0_0) ∧ w'.cell? ⟨gb186, 1, none⟩ = some (.int .i64 a0_1) ∧ w'.cell? ⟨gb186, 2, none⟩ = some (.string a0_2) ∧ w'.cell? ⟨gb186, 3, none⟩ = some (.slice (some ad191) l0_3.length c0_3) ∧ w'.cell? ⟨gb186, 4, none⟩ = some (.slice A0_4 l0_4.length c0_4) ∧ w'.cell? (ad191.add (x3_4).toNat) = some (.string (rdOf ByteArray.empty l0_3 x3_4))) (ds := []) #[false, false, false, false, false, false, false, false, false, false, false, false, false, false, false, false, false, false, false, false, false, false, false, false, false] (by kernel_rfl) rfl rfl ⟨(blk_cell BK186.out 0).trans rfl, (blk_cell BK186.out 1).trans rfl, (blk_cell BK186.out 2).trans rfl, (blk_cell BK186.out 3).trans rfl, (blk_cell BK186.out 4).trans rfl, ((HB.out.cell (World.block_lt_of_cell? w _ hw191_0)).trans hw191_0)⟩ (fun hHeld => ?_); refine with_tabW munimentref01_formed.tab10 munimentref01_formed.bits10 (fun HT_ HW_ => ?_)
                                generalize wr.drew = w70 at BK186 HB hx191_0 hHeld ⊢
                                refine pure_ (i := 0) (N := some 84) (v := ?_) (a' := ?_) #[true, false, false, false, false, false, false, false, false, false, false, false, false, false, false, false, false, false, false, false, false, false, false, false, false] rfl rfl (any_of HT_.out (by kernel_rfl)) (fun _ _ _ h => h) (Or.inl ⟨by rfl, ?_⟩) ?_ ?_
                                rotate_left
                                · intro w'
                                  go_simp
                                  with_reducible rfl
                                rotate_left
                                · simp only [Act.put, List.setIfInBounds_toArray, List.set_cons_zero, List.set_cons_succ, i64_w, i32_w]
                                  rfl
                                refine pure_ (i := 2) (N := some 86) (v := ?_) (a' := ?_) #[true, false, true, false, false, false, false, false, false, false, false, false, false, false, false, false, false, false, false, false, false, false, false, false, false] rfl rfl (any_of HT_.out (by kernel_rfl)) (fun _ _ _ h => h) (Or.inl ⟨by rfl, ?_⟩) ?_ ?_
                                rotate_left
                                · intro w'
                                  go_simp
                                  with_reducible rfl
                                rotate_left
                                · simp only [Act.put, List.setIfInBounds_toArray, List.set_cons_zero, List.set_cons_succ, i64_w, i32_w]
                                  rfl
                                refine take_ (i := 1) (N := some 85) (v := ?_) (a' := ?_) #[true, true, true, false, false, false, false, false, false, false, false, false, false, false, false, false, false, false, false, false, false, false, false, false, false] rfl rfl (take_ofW HT_.out HW_.out (by kernel_rfl)) (fun _ _ _ h => h) (Or.inl ⟨by rfl, ?_⟩) hHeld ?_ ?_
                                rotate_left
                                · rintro w' ⟨s0, s1, s2, s3, s4, s5⟩
                                  go_simp
                                  with_reducible rfl
                                rotate_left
                                · simp only [Act.put, List.setIfInBounds_toArray, List.set_cons_zero, List.set_cons_succ, i64_w, i32_w]
                                  rfl
                                refine pure_ (i := 3) (N := some 87) (v := ?_) (a' := ?_) #[true, true, true, true, false, false, false, false, false, false, false, false, false, false, false, false, false, false, false, false, false, false, false, false, false] rfl rfl (any_of HT_.out (by kernel_rfl)) (fun _ _ _ h => h) (Or.inl ⟨by rfl, ?_⟩) ?_ ?_
                                rotate_left
                                · intro w'
                                  go_simp
                                  with_reducible rfl
                                rotate_left
                                · simp only [Act.put, List.setIfInBounds_toArray, List.set_cons_zero, List.set_cons_succ, i64_w, i32_w]
                                  rfl
                                refine take_ (i := 4) (N := some 88) (v := ?_) (a' := ?_) #[true, true, true, true, true, false, false, false, false, false, false, false, false, false, false, false, false, false, false, false, false, false, false, false, false] rfl rfl (take_ofW HT_.out HW_.out (by kernel_rfl)) (fun _ _ _ h => h) (Or.inl ⟨by rfl, ?_⟩) hHeld ?_ ?_
                                rotate_left
                                · rintro w' ⟨s0, s1, s2, s3, s4, s5⟩
                                  go_simp
                                  with_reducible rfl
                                rotate_left
                                · simp only [Act.put, List.setIfInBounds_toArray, List.set_cons_zero, List.set_cons_succ, i64_w, i32_w]
                                  rfl
                                refine one_ (i := 5) (N := some 89) #[true, true, true, true, true, true, false, false, false, false, false, false, false, false, false, false, false, false, false, false, false, false, false, false, false] rfl rfl (one_of HT_.out (by kernel_rfl)) (by decide) (fun K hK => ?_)
                                refine goes_ Tryd.func39 (by kernel_rfl) rfl #[.string (rdOf ByteArray.empty l0_3 x3_4)] (by rfl) rfl rfl (by (try simp only [List.map_toArray, List.map_cons, List.map_nil]); first | done | rfl | (simp only [List.length_drop, List.length_take]; rfl)) ?_
                                with_reducible refine (munimentref01_text.calls (rdOf ByteArray.empty l0_3 x3_4) true _ A56.out).mono ?_
                                rintro e w71 ⟨rfl, hb⟩
                                refine ⟨_, rfl, ?_⟩
                                have n0_ := Aside0.mk (blk_below (g := gb186) (o := .cells #[.int .i64 a0_0, .int .i64 a0_1, .string a0_2, .slice (some ad191) l0_3.length c0_3, .slice A0_4 l0_4.length c0_4] 30 (0, 0)) (by (with_reducible repeat (first | refine blk_drewN ?_ _ | refine blk_drew ?_ | refine blk_alloc ?_ _)); exact BK186.out) hb)
                                have n1_ := Aside0.mk (below_step (by repeat (first | (with_reducible first | exact HB.out | apply below_alloc | apply pw_below_drewN | apply below_drew1 | refine below_set ?_ GE186.out) | exact HB.out)) hb)
                                clear BK186
                                clear HB
                                have BK186 := n0_
                                have HB := n1_
                                clear n0_ n1_
                                (try clear hb)
                                (try clear hb2)
                                (try clear hk)
                                (try clear hi)
                                refine hK.out _ _ ⟨(blk_cell BK186.out 0).trans rfl, (blk_cell BK186.out 1).trans rfl, (blk_cell BK186.out 2).trans rfl, (blk_cell BK186.out 3).trans rfl, (blk_cell BK186.out 4).trans rfl, ((HB.out.cell (World.block_lt_of_cell? w _ hw191_0)).trans hw191_0)⟩ (fun hHeld => ?_)
                                clear hK K
                                refine norm_ (a' := ?_) ?_ ?_
                                rotate_left
                                · show Act.put _ (some 89) _ = _
                                  simp only [Act.put, List.setIfInBounds_toArray, List.set_cons_zero, List.set_cons_succ, i64_w, i32_w]
                                  rfl
                                refine pure_ (i := 6) (N := some 90) (v := ?_) (a' := ?_) #[true, true, true, true, true, true, true, false, false, false, false, false, false, false, false, false, false, false, false, false, false, false, false, false, false] rfl rfl (any_of HT_.out (by kernel_rfl)) (fun _ _ _ h => h) (Or.inl ⟨by rfl, ?_⟩) ?_ ?_
                                rotate_left
                                · intro w'
                                  go_simp
                                  with_reducible rfl
                                rotate_left
                                · simp only [Act.put, List.setIfInBounds_toArray, List.set_cons_zero, List.set_cons_succ, i64_w, i32_w]
                                  rfl
                                refine pure_ (i := 7) (N := some 91) (v := ?_) (a' := ?_) #[true, true, true, true, true, true, true, true, false, false, false, false, false, false, false, false, false, false, false, false, false, false, false, false, false] rfl rfl (any_of HT_.out (by kernel_rfl)) (fun _ _ _ h => h) (Or.inl ⟨by rfl, ?_⟩) ?_ ?_
                                rotate_left
                                · intro w'
                                  go_simp
                                  with_reducible rfl
                                rotate_left
                                · simp only [Act.put, List.setIfInBounds_toArray, List.set_cons_zero, List.set_cons_succ, i64_w, i32_w]
                                  rfl
                                refine pure_ (i := 8) (N := some 92) (v := ?_) (a' := ?_) #[true, true, true, true, true, true, true, true, true, false, false, false, false, false, false, false, false, false, false, false, false, false, false, false, false] rfl rfl (any_of HT_.out (by kernel_rfl)) (fun _ _ _ h => h) (Or.inl ⟨by rfl, ?_⟩) ?_ ?_
                                rotate_left
                                · intro w'
                                  go_simp
                                  with_reducible rfl
                                rotate_left
                                · simp only [Act.put, List.setIfInBounds_toArray, List.set_cons_zero, List.set_cons_succ, i64_w, i32_w]
                                  rfl
                                refine pure_ (i := 9) (N := some 93) (v := ?_) (a' := ?_) #[true, true, true, true, true, true, true, true, true, true, false, false, false, false, false, false, false, false, false, false, false, false, false, false, false] rfl rfl (any_of HT_.out (by kernel_rfl)) (fun _ _ _ h => h) (Or.inl ⟨by rfl, ?_⟩) ?_ ?_
                                rotate_left
                                · intro w'
                                  go_simp
                                  with_reducible rfl
                                rotate_left
                                · simp only [Act.put, List.setIfInBounds_toArray, List.set_cons_zero, List.set_cons_succ, i64_w, i32_w]
                                  rfl
                                refine pure_ (i := 10) (N := some 94) (v := ?_) (a' := ?_) #[true, true, true, true, true, true, true, true, true, true, true, false, false, false, false, false, false, false, false, false, false, false, false, false, false] rfl rfl (any_of HT_.out (by kernel_rfl)) (fun _ _ _ h => h) (Or.inl ⟨by rfl, ?_⟩) ?_ ?_
                                rotate_left
                                · intro w'
                                  go_simp
                                  with_reducible rfl
                                rotate_left
                                · simp only [Act.put, List.setIfInBounds_toArray, List.set_cons_zero, List.set_cons_succ, i64_w, i32_w]
                                  rfl
                                refine pure_ (i := 11) (N := some 95) (v := undef) (a' := ?_) #[true, true, true, true, true, true, true, true, true, true, true, true, false, false, false, false, false, false, false, false, false, false, false, false, false] rfl rfl (any_of HT_.out (by kernel_rfl)) (fun _ _ _ h => h) (Or.inr ⟨by rfl, rfl⟩) ?_ ?_
                                rotate_left
                                · simp only [Act.put, List.setIfInBounds_toArray, List.set_cons_zero, List.set_cons_succ, i64_w, i32_w]
                                  rfl
                                refine pure_ (i := 12) (N := some 96) (v := undef) (a' := ?_) #[true, true, true, true, true, true, true, true, true, true, true, true, true, false, false, false, false, false, false, false, false, false, false, false, false] rfl rfl (any_of HT_.out (by kernel_rfl)) (fun _ _ _ h => h) (Or.inr ⟨by rfl, rfl⟩) ?_ ?_
                                rotate_left
                                · simp only [Act.put, List.setIfInBounds_toArray, List.set_cons_zero, List.set_cons_succ, i64_w, i32_w]
                                  rfl
                                refine pure_ (i := 13) (N := some 97) (v := undef) (a' := ?_) #[true, true, true, true, true, true, true, true, true, true, true, true, true, true, false, false, false, false, false, false, false, false, false, false, false] rfl rfl (any_of HT_.out (by kernel_rfl)) (fun _ _ _ h => h) (Or.inr ⟨by rfl, rfl⟩) ?_ ?_
                                rotate_left
                                · simp only [Act.put, List.setIfInBounds_toArray, List.set_cons_zero, List.set_cons_succ, i64_w, i32_w]
                                  rfl
                                refine pure_ (i := 14) (N := some 98) (v := undef) (a' := ?_) #[true, true, true, true, true, true, true, true, true, true, true, true, true, true, true, false, false, false, false, false, false, false, false, false, false] rfl rfl (any_of HT_.out (by kernel_rfl)) (fun _ _ _ h => h) (Or.inr ⟨by rfl, rfl⟩) ?_ ?_
                                rotate_left
                                · simp only [Act.put, List.setIfInBounds_toArray, List.set_cons_zero, List.set_cons_succ, i64_w, i32_w]
                                  rfl
                                refine pure_ (i := 15) (N := some 99) (v := undef) (a' := ?_) #[true, true, true, true, true, true, true, true, true, true, true, true, true, true, true, true, false, false, false, false, false, false, false, false, false] rfl rfl (any_of HT_.out (by kernel_rfl)) (fun _ _ _ h => h) (Or.inr ⟨by rfl, rfl⟩) ?_ ?_
                                rotate_left
                                · simp only [Act.put, List.setIfInBounds_toArray, List.set_cons_zero, List.set_cons_succ, i64_w, i32_w]
                                  rfl
                                refine pure_ (i := 16) (N := some 100) (v := undef) (a' := ?_) #[true, true, true, true, true, true, true, true, true, true, true, true, true, true, true, true, true, false, false, false, false, false, false, false, false] rfl rfl (any_of HT_.out (by kernel_rfl)) (fun _ _ _ h => h) (Or.inr ⟨by rfl, rfl⟩) ?_ ?_
                                rotate_left
                                · simp only [Act.put, List.setIfInBounds_toArray, List.set_cons_zero, List.set_cons_succ, i64_w, i32_w]
                                  rfl
                                refine pure_ (i := 17) (N := some 101) (v := undef) (a' := ?_) #[true, true, true, true, true, true, true, true, true, true, true, true, true, true, true, true, true, true, false, false, false, false, false, false, false] rfl rfl (any_of HT_.out (by kernel_rfl)) (fun _ _ _ h => h) (Or.inr ⟨by rfl, rfl⟩) ?_ ?_
                                rotate_left
                                · simp only [Act.put, List.setIfInBounds_toArray, List.set_cons_zero, List.set_cons_succ, i64_w, i32_w]
                                  rfl
                                refine pure_ (i := 18) (N := some 102) (v := undef) (a' := ?_) #[true, true, true, true, true, true, true, true, true, true, true, true, true, true, true, true, true, true, true, false, false, false, false, false, false] rfl rfl (any_of HT_.out (by kernel_rfl)) (fun _ _ _ h => h) (Or.inr ⟨by rfl, rfl⟩) ?_ ?_
                                rotate_left
                                · simp only [Act.put, List.setIfInBounds_toArray, List.set_cons_zero, List.set_cons_succ, i64_w, i32_w]
                                  rfl
                                refine pure_ (i := 19) (N := some 103) (v := undef) (a' := ?_) #[true, true, true, true, true, true, true, true, true, true, true, true, true, true, true, true, true, true, true, true, false, false, false, false, false] rfl rfl (any_of HT_.out (by kernel_rfl)) (fun _ _ _ h => h) (Or.inr ⟨by rfl, rfl⟩) ?_ ?_
                                rotate_left
                                · simp only [Act.put, List.setIfInBounds_toArray, List.set_cons_zero, List.set_cons_succ, i64_w, i32_w]
                                  rfl
                                refine pure_ (i := 20) (N := some 104) (v := undef) (a' := ?_) #[true, true, true, true, true, true, true, true, true, true, true, true, true, true, true, true, true, true, true, true, true, false, false, false, false] rfl rfl (any_of HT_.out (by kernel_rfl)) (fun _ _ _ h => h) (Or.inr ⟨by rfl, rfl⟩) ?_ ?_
                                rotate_left
                                · simp only [Act.put, List.setIfInBounds_toArray, List.set_cons_zero, List.set_cons_succ, i64_w, i32_w]
                                  rfl
                                refine pure_ (i := 21) (N := some 105) (v := undef) (a' := ?_) #[true, true, true, true, true, true, true, true, true, true, true, true, true, true, true, true, true, true, true, true, true, true, false, false, false] rfl rfl (any_of HT_.out (by kernel_rfl)) (fun _ _ _ h => h) (Or.inr ⟨by rfl, rfl⟩) ?_ ?_
                                rotate_left
                                · simp only [Act.put, List.setIfInBounds_toArray, List.set_cons_zero, List.set_cons_succ, i64_w, i32_w]
                                  rfl
                                refine pure_ (i := 22) (N := some 106) (v := undef) (a' := ?_) #[true, true, true, true, true, true, true, true, true, true, true, true, true, true, true, true, true, true, true, true, true, true, true, false, false] rfl rfl (any_of HT_.out (by kernel_rfl)) (fun _ _ _ h => h) (Or.inr ⟨by rfl, rfl⟩) ?_ ?_
                                rotate_left
                                · simp only [Act.put, List.setIfInBounds_toArray, List.set_cons_zero, List.set_cons_succ, i64_w, i32_w]
                                  rfl
                                refine pure_ (i := 23) (N := some 107) (v := ?_) (a' := ?_) #[true, true, true, true, true, true, true, true, true, true, true, true, true, true, true, true, true, true, true, true, true, true, true, true, false] rfl rfl (any_of HT_.out (by kernel_rfl)) (fun _ _ _ h => h) (Or.inl ⟨by rfl, ?_⟩) ?_ ?_
                                rotate_left
                                · intro w'
                                  go_simp
                                  with_reducible rfl
                                rotate_left
                                · simp only [Act.put, List.setIfInBounds_toArray, List.set_cons_zero, List.set_cons_succ, i64_w, i32_w]
                                  rfl
                                refine pure_ (i := 24) (N := some 108) (v := ?_) (a' := ?_) #[true, true, true, true, true, true, true, true, true, true, true, true, true, true, true, true, true, true, true, true, true, true, true, true, true] rfl rfl (any_of HT_.out (by kernel_rfl)) (fun _ _ _ h => h) (Or.inl ⟨by rfl, ?_⟩) ?_ ?_
                                rotate_left
                                · intro w'
                                  go_simp
                                  with_reducible rfl
                                rotate_left
                                · simp only [Act.put, List.setIfInBounds_toArray, List.set_cons_zero, List.set_cons_succ, i64_w, i32_w]
                                  rfl
                                refine done_ (done_of HT_.out (by kernel_rfl)) ?_
                                try go_wp2
                                go_roundg k4
                                case measure => have := HJ1.out; have := HJ17.out; have := HJ48.out; have := HK4.out; omega
                                case rel => exact ⟨(wrap64 (x3_4 + 1)), (by first | rfl | (simp; done) | (simp [*]; done)), H', ⟨by have := HJ1.out; have := HJ17.out; have := HJ48.out; have := HK4.out; omega⟩, ⟨by (with_reducible repeat (first | refine blk_drewN ?_ _ | refine blk_drew ?_ | refine blk_alloc ?_ _)); exact BK186.out⟩, ⟨by repeat (first | (with_reducible first | exact HB.out | apply below_alloc | apply pw_below_drewN | apply below_drew1 | refine below_set ?_ GE186.out) | exact HB.out)⟩⟩
                            · replace c57 := Bool.eq_false_iff.mpr c57
                              subst c57
                              have H1 : (some false) = some r := by rw [if_neg (show ¬ (false = true) by decide)] at H; exact H
                              clear H
                              have H := H1
                              clear H1
                              obtain rfl := Option.some.inj H
                              have hcz72_0 : wr.cell? ⟨gb186, 0, none⟩ = some (.int .i64 a0_0) := (blk_cell BK186.out 0).trans rfl
                              have hcz72_1 : wr.cell? ⟨gb186, 1, none⟩ = some (.int .i64 a0_1) := (blk_cell BK186.out 1).trans rfl
                              have hcz72_2 : wr.cell? ⟨gb186, 2, none⟩ = some (.string a0_2) := (blk_cell BK186.out 2).trans rfl
                              have hcz72_3 : wr.cell? ⟨gb186, 3, none⟩ = some (.slice A0_3 l0_3.length c0_3) := (blk_cell BK186.out 3).trans rfl
                              have hcz72_4 : wr.cell? ⟨gb186, 4, none⟩ = some (.slice A0_4 l0_4.length c0_4) := (blk_cell BK186.out 4).trans rfl
                              have hfz72_0 := blk_frozen BK186.out 0
                              have hfz72_1 := blk_frozen BK186.out 1
                              have hfz72_2 := blk_frozen BK186.out 2
                              have hfz72_3 := blk_frozen BK186.out 3
                              have hfz72_4 := blk_frozen BK186.out 4
                              try go_wp2
                              have n0_ := Aside0.mk (blk_drew BK186.out)
                              have n1_ := Aside0.mk (below_drew1 HB.out)
                              clear BK186
                              clear HB
                              have BK186 := n0_
                              have HB := n1_
                              clear n0_ n1_
                              have p191 : 0 ≤ (x3_4 : Int) := of_decide_eq_true (by first | (with_reducible assumption) | assumption)
                              have q191 : x3_4 < (l0_3.length : Int) := of_decide_eq_true (by first | (with_reducible assumption) | assumption)
                              obtain ⟨ad191, e191, hx191_0⟩ := Kd.at_string HR0_3.out x3_4 p191 q191
                              have hw191_0 := hx191_0
                              cases e191
                              replace hx191_0 := (HB.out.cell (World.block_lt_of_cell? w _ hx191_0)).trans hx191_0
                              replace p191 := eq_true p191
                              replace q191 := eq_true q191
                              refine start_ (n := 25) (S := fun w' => w'.cell? ⟨gb186, 0, none⟩ = some (.int .i64 a0_0) ∧ w'.cell? ⟨gb186, 1, none⟩ = some (.int .i64 a0_1) ∧ w'.cell? ⟨gb186, 2, none⟩ = some (.string a0_2) ∧ w'.cell? ⟨gb186, 3, none⟩ = some (.slice (some ad191) l0_3.length c0_3) ∧ w'.cell? ⟨gb186, 4, none⟩ = some (.slice A0_4 l0_4.length c0_4) ∧ w'.cell? (ad191.add (x3_4).toNat) = some (.string (rdOf ByteArray.empty l0_3 x3_4))) (ds := []) #[false, false, false, false, false, false, false, false, false, false, false, false, false, false, false, false, false, false, false, false, false, false, false, false, false] (by kernel_rfl) rfl rfl ⟨(blk_cell BK186.out 0).trans rfl, (blk_cell BK186.out 1).trans rfl, (blk_cell BK186.out 2).trans rfl, (blk_cell BK186.out 3).trans rfl, (blk_cell BK186.out 4).trans rfl, ((HB.out.cell (World.block_lt_of_cell? w _ hw191_0)).trans hw191_0)⟩ (fun hHeld => ?_); refine with_tabW munimentref01_formed.tab10 munimentref01_formed.bits10 (fun HT_ HW_ => ?_)
                              generalize wr.drew = w73 at BK186 HB hx191_0 hHeld ⊢
                              refine pure_ (i := 0) (N := some 84) (v := ?_) (a' := ?_) #[true, false, false, false, false, false, false, false, false, false, false, false, false, false, false, false, false, false, false, false, false, false, false, false, false] rfl rfl (any_of HT_.out (by kernel_rfl)) (fun _ _ _ h => h) (Or.inl ⟨by rfl, ?_⟩) ?_ ?_
                              rotate_left
                              · intro w'
                                go_simp
                                with_reducible rfl
                              rotate_left
                              · simp only [Act.put, List.setIfInBounds_toArray, List.set_cons_zero, List.set_cons_succ, i64_w, i32_w]
                                rfl
                              refine pure_ (i := 2) (N := some 86) (v := ?_) (a' := ?_) #[true, false, true, false, false, false, false, false, false, false, false, false, false, false, false, false, false, false, false, false, false, false, false, false, false] rfl rfl (any_of HT_.out (by kernel_rfl)) (fun _ _ _ h => h) (Or.inl ⟨by rfl, ?_⟩) ?_ ?_
                              rotate_left
                              · intro w'
                                go_simp
                                with_reducible rfl
                              rotate_left
                              · simp only [Act.put, List.setIfInBounds_toArray, List.set_cons_zero, List.set_cons_succ, i64_w, i32_w]
                                rfl
                              refine take_ (i := 1) (N := some 85) (v := ?_) (a' := ?_) #[true, true, true, false, false, false, false, false, false, false, false, false, false, false, false, false, false, false, false, false, false, false, false, false, false] rfl rfl (take_ofW HT_.out HW_.out (by kernel_rfl)) (fun _ _ _ h => h) (Or.inl ⟨by rfl, ?_⟩) hHeld ?_ ?_
                              rotate_left
                              · rintro w' ⟨s0, s1, s2, s3, s4, s5⟩
                                go_simp
                                with_reducible rfl
                              rotate_left
                              · simp only [Act.put, List.setIfInBounds_toArray, List.set_cons_zero, List.set_cons_succ, i64_w, i32_w]
                                rfl
                              refine pure_ (i := 3) (N := some 87) (v := ?_) (a' := ?_) #[true, true, true, true, false, false, false, false, false, false, false, false, false, false, false, false, false, false, false, false, false, false, false, false, false] rfl rfl (any_of HT_.out (by kernel_rfl)) (fun _ _ _ h => h) (Or.inl ⟨by rfl, ?_⟩) ?_ ?_
                              rotate_left
                              · intro w'
                                go_simp
                                with_reducible rfl
                              rotate_left
                              · simp only [Act.put, List.setIfInBounds_toArray, List.set_cons_zero, List.set_cons_succ, i64_w, i32_w]
                                rfl
                              refine take_ (i := 4) (N := some 88) (v := ?_) (a' := ?_) #[true, true, true, true, true, false, false, false, false, false, false, false, false, false, false, false, false, false, false, false, false, false, false, false, false] rfl rfl (take_ofW HT_.out HW_.out (by kernel_rfl)) (fun _ _ _ h => h) (Or.inl ⟨by rfl, ?_⟩) hHeld ?_ ?_
                              rotate_left
                              · rintro w' ⟨s0, s1, s2, s3, s4, s5⟩
                                go_simp
                                with_reducible rfl
                              rotate_left
                              · simp only [Act.put, List.setIfInBounds_toArray, List.set_cons_zero, List.set_cons_succ, i64_w, i32_w]
                                rfl
                              refine one_ (i := 5) (N := some 89) #[true, true, true, true, true, true, false, false, false, false, false, false, false, false, false, false, false, false, false, false, false, false, false, false, false] rfl rfl (one_of HT_.out (by kernel_rfl)) (by decide) (fun K hK => ?_)
                              refine goes_ Tryd.func39 (by kernel_rfl) rfl #[.string (rdOf ByteArray.empty l0_3 x3_4)] (by rfl) rfl rfl (by (try simp only [List.map_toArray, List.map_cons, List.map_nil]); first | done | rfl | (simp only [List.length_drop, List.length_take]; rfl)) ?_
                              with_reducible refine (munimentref01_text.calls (rdOf ByteArray.empty l0_3 x3_4) false _ A56.out).mono ?_
                              rintro e w74 ⟨rfl, hb⟩
                              refine ⟨_, rfl, ?_⟩
                              have n0_ := Aside0.mk (blk_below (g := gb186) (o := .cells #[.int .i64 a0_0, .int .i64 a0_1, .string a0_2, .slice (some ad191) l0_3.length c0_3, .slice A0_4 l0_4.length c0_4] 30 (0, 0)) (by (with_reducible repeat (first | refine blk_drewN ?_ _ | refine blk_drew ?_ | refine blk_alloc ?_ _)); exact BK186.out) hb)
                              have n1_ := Aside0.mk (below_step (by repeat (first | (with_reducible first | exact HB.out | apply below_alloc | apply pw_below_drewN | apply below_drew1 | refine below_set ?_ GE186.out) | exact HB.out)) hb)
                              clear BK186
                              clear HB
                              have BK186 := n0_
                              have HB := n1_
                              clear n0_ n1_
                              (try clear hb)
                              (try clear hb2)
                              (try clear hk)
                              (try clear hi)
                              refine hK.out _ _ ⟨(blk_cell BK186.out 0).trans rfl, (blk_cell BK186.out 1).trans rfl, (blk_cell BK186.out 2).trans rfl, (blk_cell BK186.out 3).trans rfl, (blk_cell BK186.out 4).trans rfl, ((HB.out.cell (World.block_lt_of_cell? w _ hw191_0)).trans hw191_0)⟩ (fun hHeld => ?_)
                              clear hK K
                              refine norm_ (a' := ?_) ?_ ?_
                              rotate_left
                              · show Act.put _ (some 89) _ = _
                                simp only [Act.put, List.setIfInBounds_toArray, List.set_cons_zero, List.set_cons_succ, i64_w, i32_w]
                                rfl
                              refine pure_ (i := 6) (N := some 90) (v := ?_) (a' := ?_) #[true, true, true, true, true, true, true, false, false, false, false, false, false, false, false, false, false, false, false, false, false, false, false, false, false] rfl rfl (any_of HT_.out (by kernel_rfl)) (fun _ _ _ h => h) (Or.inl ⟨by rfl, ?_⟩) ?_ ?_
                              rotate_left
                              · intro w'
                                go_simp
                                with_reducible rfl
                              rotate_left
                              · simp only [Act.put, List.setIfInBounds_toArray, List.set_cons_zero, List.set_cons_succ, i64_w, i32_w]
                                rfl
                              refine pure_ (i := 7) (N := some 91) (v := ?_) (a' := ?_) #[true, true, true, true, true, true, true, true, false, false, false, false, false, false, false, false, false, false, false, false, false, false, false, false, false] rfl rfl (any_of HT_.out (by kernel_rfl)) (fun _ _ _ h => h) (Or.inl ⟨by rfl, ?_⟩) ?_ ?_
                              rotate_left
                              · intro w'
                                go_simp
                                with_reducible rfl
                              rotate_left
                              · simp only [Act.put, List.setIfInBounds_toArray, List.set_cons_zero, List.set_cons_succ, i64_w, i32_w]
                                rfl
                              refine pure_ (i := 8) (N := some 92) (v := undef) (a' := ?_) #[true, true, true, true, true, true, true, true, true, false, false, false, false, false, false, false, false, false, false, false, false, false, false, false, false] rfl rfl (any_of HT_.out (by kernel_rfl)) (fun _ _ _ h => h) (Or.inr ⟨by rfl, rfl⟩) ?_ ?_
                              rotate_left
                              · simp only [Act.put, List.setIfInBounds_toArray, List.set_cons_zero, List.set_cons_succ, i64_w, i32_w]
                                rfl
                              refine pure_ (i := 9) (N := some 93) (v := undef) (a' := ?_) #[true, true, true, true, true, true, true, true, true, true, false, false, false, false, false, false, false, false, false, false, false, false, false, false, false] rfl rfl (any_of HT_.out (by kernel_rfl)) (fun _ _ _ h => h) (Or.inr ⟨by rfl, rfl⟩) ?_ ?_
                              rotate_left
                              · simp only [Act.put, List.setIfInBounds_toArray, List.set_cons_zero, List.set_cons_succ, i64_w, i32_w]
                                rfl
                              refine pure_ (i := 10) (N := some 94) (v := undef) (a' := ?_) #[true, true, true, true, true, true, true, true, true, true, true, false, false, false, false, false, false, false, false, false, false, false, false, false, false] rfl rfl (any_of HT_.out (by kernel_rfl)) (fun _ _ _ h => h) (Or.inr ⟨by rfl, rfl⟩) ?_ ?_
                              rotate_left
                              · simp only [Act.put, List.setIfInBounds_toArray, List.set_cons_zero, List.set_cons_succ, i64_w, i32_w]
                                rfl
                              refine pure_ (i := 11) (N := some 95) (v := undef) (a' := ?_) #[true, true, true, true, true, true, true, true, true, true, true, true, false, false, false, false, false, false, false, false, false, false, false, false, false] rfl rfl (any_of HT_.out (by kernel_rfl)) (fun _ _ _ h => h) (Or.inr ⟨by rfl, rfl⟩) ?_ ?_
                              rotate_left
                              · simp only [Act.put, List.setIfInBounds_toArray, List.set_cons_zero, List.set_cons_succ, i64_w, i32_w]
                                rfl
                              refine pure_ (i := 12) (N := some 96) (v := undef) (a' := ?_) #[true, true, true, true, true, true, true, true, true, true, true, true, true, false, false, false, false, false, false, false, false, false, false, false, false] rfl rfl (any_of HT_.out (by kernel_rfl)) (fun _ _ _ h => h) (Or.inr ⟨by rfl, rfl⟩) ?_ ?_
                              rotate_left
                              · simp only [Act.put, List.setIfInBounds_toArray, List.set_cons_zero, List.set_cons_succ, i64_w, i32_w]
                                rfl
                              refine pure_ (i := 13) (N := some 97) (v := undef) (a' := ?_) #[true, true, true, true, true, true, true, true, true, true, true, true, true, true, false, false, false, false, false, false, false, false, false, false, false] rfl rfl (any_of HT_.out (by kernel_rfl)) (fun _ _ _ h => h) (Or.inr ⟨by rfl, rfl⟩) ?_ ?_
                              rotate_left
                              · simp only [Act.put, List.setIfInBounds_toArray, List.set_cons_zero, List.set_cons_succ, i64_w, i32_w]
                                rfl
                              refine pure_ (i := 14) (N := some 98) (v := undef) (a' := ?_) #[true, true, true, true, true, true, true, true, true, true, true, true, true, true, true, false, false, false, false, false, false, false, false, false, false] rfl rfl (any_of HT_.out (by kernel_rfl)) (fun _ _ _ h => h) (Or.inr ⟨by rfl, rfl⟩) ?_ ?_
                              rotate_left
                              · simp only [Act.put, List.setIfInBounds_toArray, List.set_cons_zero, List.set_cons_succ, i64_w, i32_w]
                                rfl
                              refine pure_ (i := 15) (N := some 99) (v := undef) (a' := ?_) #[true, true, true, true, true, true, true, true, true, true, true, true, true, true, true, true, false, false, false, false, false, false, false, false, false] rfl rfl (any_of HT_.out (by kernel_rfl)) (fun _ _ _ h => h) (Or.inr ⟨by rfl, rfl⟩) ?_ ?_
                              rotate_left
                              · simp only [Act.put, List.setIfInBounds_toArray, List.set_cons_zero, List.set_cons_succ, i64_w, i32_w]
                                rfl
                              refine pure_ (i := 16) (N := some 100) (v := undef) (a' := ?_) #[true, true, true, true, true, true, true, true, true, true, true, true, true, true, true, true, true, false, false, false, false, false, false, false, false] rfl rfl (any_of HT_.out (by kernel_rfl)) (fun _ _ _ h => h) (Or.inr ⟨by rfl, rfl⟩) ?_ ?_
                              rotate_left
                              · simp only [Act.put, List.setIfInBounds_toArray, List.set_cons_zero, List.set_cons_succ, i64_w, i32_w]
                                rfl
                              refine pure_ (i := 17) (N := some 101) (v := undef) (a' := ?_) #[true, true, true, true, true, true, true, true, true, true, true, true, true, true, true, true, true, true, false, false, false, false, false, false, false] rfl rfl (any_of HT_.out (by kernel_rfl)) (fun _ _ _ h => h) (Or.inr ⟨by rfl, rfl⟩) ?_ ?_
                              rotate_left
                              · simp only [Act.put, List.setIfInBounds_toArray, List.set_cons_zero, List.set_cons_succ, i64_w, i32_w]
                                rfl
                              refine pure_ (i := 18) (N := some 102) (v := undef) (a' := ?_) #[true, true, true, true, true, true, true, true, true, true, true, true, true, true, true, true, true, true, true, false, false, false, false, false, false] rfl rfl (any_of HT_.out (by kernel_rfl)) (fun _ _ _ h => h) (Or.inr ⟨by rfl, rfl⟩) ?_ ?_
                              rotate_left
                              · simp only [Act.put, List.setIfInBounds_toArray, List.set_cons_zero, List.set_cons_succ, i64_w, i32_w]
                                rfl
                              refine pure_ (i := 19) (N := some 103) (v := undef) (a' := ?_) #[true, true, true, true, true, true, true, true, true, true, true, true, true, true, true, true, true, true, true, true, false, false, false, false, false] rfl rfl (any_of HT_.out (by kernel_rfl)) (fun _ _ _ h => h) (Or.inr ⟨by rfl, rfl⟩) ?_ ?_
                              rotate_left
                              · simp only [Act.put, List.setIfInBounds_toArray, List.set_cons_zero, List.set_cons_succ, i64_w, i32_w]
                                rfl
                              refine pure_ (i := 20) (N := some 104) (v := undef) (a' := ?_) #[true, true, true, true, true, true, true, true, true, true, true, true, true, true, true, true, true, true, true, true, true, false, false, false, false] rfl rfl (any_of HT_.out (by kernel_rfl)) (fun _ _ _ h => h) (Or.inr ⟨by rfl, rfl⟩) ?_ ?_
                              rotate_left
                              · simp only [Act.put, List.setIfInBounds_toArray, List.set_cons_zero, List.set_cons_succ, i64_w, i32_w]
                                rfl
                              refine pure_ (i := 21) (N := some 105) (v := undef) (a' := ?_) #[true, true, true, true, true, true, true, true, true, true, true, true, true, true, true, true, true, true, true, true, true, true, false, false, false] rfl rfl (any_of HT_.out (by kernel_rfl)) (fun _ _ _ h => h) (Or.inr ⟨by rfl, rfl⟩) ?_ ?_
                              rotate_left
                              · simp only [Act.put, List.setIfInBounds_toArray, List.set_cons_zero, List.set_cons_succ, i64_w, i32_w]
                                rfl
                              refine pure_ (i := 22) (N := some 106) (v := undef) (a' := ?_) #[true, true, true, true, true, true, true, true, true, true, true, true, true, true, true, true, true, true, true, true, true, true, true, false, false] rfl rfl (any_of HT_.out (by kernel_rfl)) (fun _ _ _ h => h) (Or.inr ⟨by rfl, rfl⟩) ?_ ?_
                              rotate_left
                              · simp only [Act.put, List.setIfInBounds_toArray, List.set_cons_zero, List.set_cons_succ, i64_w, i32_w]
                                rfl
                              refine pure_ (i := 23) (N := some 107) (v := undef) (a' := ?_) #[true, true, true, true, true, true, true, true, true, true, true, true, true, true, true, true, true, true, true, true, true, true, true, true, false] rfl rfl (any_of HT_.out (by kernel_rfl)) (fun _ _ _ h => h) (Or.inr ⟨by rfl, rfl⟩) ?_ ?_
                              rotate_left
                              · simp only [Act.put, List.setIfInBounds_toArray, List.set_cons_zero, List.set_cons_succ, i64_w, i32_w]
                                rfl
                              refine pure_ (i := 24) (N := some 108) (v := ?_) (a' := ?_) #[true, true, true, true, true, true, true, true, true, true, true, true, true, true, true, true, true, true, true, true, true, true, true, true, true] rfl rfl (any_of HT_.out (by kernel_rfl)) (fun _ _ _ h => h) (Or.inl ⟨by rfl, ?_⟩) ?_ ?_
                              rotate_left
                              · intro w'
                                go_simp
                                with_reducible rfl
                              rotate_left
                              · simp only [Act.put, List.setIfInBounds_toArray, List.set_cons_zero, List.set_cons_succ, i64_w, i32_w]
                                rfl
                              refine done_ (done_of HT_.out (by kernel_rfl)) ?_
                              try go_wp2
                              go_ret
                              exact ⟨by first | rfl | (simp [errW_none, errW_some] <;> rfl) | (simp [*, errW_none, errW_some] <;> rfl), by repeat (first | (with_reducible first | exact HB.out | apply below_alloc | apply pw_below_drewN | apply below_drew1 | refine below_set ?_ GE186.out) | exact HB.out)⟩
                          · rw [if_neg c55] at H
                            exact absurd H (by simp)
                        · rw [if_neg c54] at H
                          have c54b0 : decide (x3_4 < (l0_3.length : Int)) = false := decide_eq_false c54
                          clear c54
                          have H' := Aside0.mk H
                          clear H
                          have hcz75_0 : wr.cell? ⟨gb186, 0, none⟩ = some (.int .i64 a0_0) := (blk_cell BK186.out 0).trans rfl
                          have hcz75_1 : wr.cell? ⟨gb186, 1, none⟩ = some (.int .i64 a0_1) := (blk_cell BK186.out 1).trans rfl
                          have hcz75_2 : wr.cell? ⟨gb186, 2, none⟩ = some (.string a0_2) := (blk_cell BK186.out 2).trans rfl
                          have hcz75_3 : wr.cell? ⟨gb186, 3, none⟩ = some (.slice A0_3 l0_3.length c0_3) := (blk_cell BK186.out 3).trans rfl
                          have hcz75_4 : wr.cell? ⟨gb186, 4, none⟩ = some (.slice A0_4 l0_4.length c0_4) := (blk_cell BK186.out 4).trans rfl
                          have hfz75_0 := blk_frozen BK186.out 0
                          have hfz75_1 := blk_frozen BK186.out 1
                          have hfz75_2 := blk_frozen BK186.out 2
                          have hfz75_3 := blk_frozen BK186.out 3
                          have hfz75_4 := blk_frozen BK186.out 4
                          go_wp2
                          go_loopg [4] k4 (fun kq v4 w' => ∃ (x4_5 : Int), v4 = .int .i64 x4_5 ∧ Aside0 (munimentref01_formed.l1 kq x4_5 a0_0 a0_1 a0_2 l0_3 l0_4 = some r) ∧ Aside0 (kq ≤ k4) ∧ Aside0 (w'.heap[gb186]? = some (.cells #[.int .i64 a0_0, .int .i64 a0_1, .string a0_2, (.slice A0_3 l0_3.length c0_3), (.slice A0_4 l0_4.length c0_4)] 30 (0, 0))) ∧ Aside0 (Below w.heap.size w w'))
                          case atStart => exact ⟨(0), (by first | rfl | (simp; done) | (simp [*]; done)), H', ⟨Nat.le_refl _⟩, ⟨by (with_reducible repeat (first | refine blk_drewN ?_ _ | refine blk_drew ?_ | refine blk_alloc ?_ _)); exact BK186.out⟩, ⟨by repeat (first | (with_reducible first | exact HB.out | apply below_alloc | apply pw_below_drewN | apply below_drew1 | refine below_set ?_ GE186.out) | exact HB.out)⟩⟩
                          case round =>
                            clear H'
                            try clear p1
                            try clear q1
                            try clear hx1
                            try clear p2
                            try clear c3
                            try clear c5
                            try clear c6
                            try clear p6
                            try clear p19
                            try clear q19
                            try clear hx19
                            try clear c39
                            try clear c54
                            try clear c54b0
                            try clear c55
                            try clear c57
                            try clear c58
                            try clear c58b0
                            try clear c60
                            try clear c61
                            try clear p64
                            try clear hcz69_0
                            try clear hcz69_1
                            try clear hcz69_2
                            try clear hcz69_3
                            try clear hcz69_4
                            try clear hcz72_0
                            try clear hcz72_1
                            try clear hcz72_2
                            try clear hcz72_3
                            try clear hcz72_4
                            try clear hcz75_0
                            try clear hcz75_1
                            try clear hcz75_2
                            try clear hcz75_3
                            try clear hcz75_4
                            try clear hfz69_0
                            try clear hfz69_1
                            try clear hfz69_2
                            try clear hfz69_3
                            try clear hfz69_4
                            try clear hfz72_0
                            try clear hfz72_1
                            try clear hfz72_2
                            try clear hfz72_3
                            try clear hfz72_4
                            try clear hfz75_0
                            try clear hfz75_1
                            try clear hfz75_2
                            try clear hfz75_3
                            try clear hfz75_4
                            try clear hx191_0
                            try clear p191
                            try clear q191
                            try clear BK186
                            obtain ⟨x4_5, rfl, HA, HK5, BK186, HB⟩ := hrel
                            cases gk with
                            | zero => exact absurd HA.out (by simp [munimentref01_formed.l1])
                            | succ k5 =>
                              have H := HA.out
                              clear HA
                              simp only [munimentref01_formed.l1] at H
                              by_cases c76 : x4_5 < (l0_4.length : Int)
                              · rw [if_pos c76] at H
                                have c76b0 : decide (x4_5 < (l0_4.length : Int)) = true := decide_eq_true c76
                                clear c76
                                by_cases c77 : 0 ≤ x4_5
                                · rw [if_pos c77] at H
                                  have c77b0 : decide (0 ≤ x4_5) = true := decide_eq_true c77
                                  clear c77
                                  replace H := Option.bind_eq_some_iff.mp H
                                  obtain ⟨t196, A780, H⟩ := H
                                  replace H : (if t196 = true then (munimentref01_formed.l1 k5 (wrap64 (x4_5 + 1)) a0_0 a0_1 a0_2 l0_3 l0_4) else (some false)) = some r := H
                                  have A78 := Aside0.mk A780
                                  clear A780
                                  by_cases c79 : t196 = true
                                  · subst c79
                                    have H1 : (munimentref01_formed.l1 k5 (wrap64 (x4_5 + 1)) a0_0 a0_1 a0_2 l0_3 l0_4) = some r := by rw [if_pos rfl] at H; exact H
                                    clear H
                                    have H := H1
                                    clear H1
                                    have H' := Aside0.mk H
                                    clear H
                                    have hcz80_0 : wr.cell? ⟨gb186, 0, none⟩ = some (.int .i64 a0_0) := (blk_cell BK186.out 0).trans rfl
                                    have hcz80_1 : wr.cell? ⟨gb186, 1, none⟩ = some (.int .i64 a0_1) := (blk_cell BK186.out 1).trans rfl
                                    have hcz80_2 : wr.cell? ⟨gb186, 2, none⟩ = some (.string a0_2) := (blk_cell BK186.out 2).trans rfl
                                    have hcz80_3 : wr.cell? ⟨gb186, 3, none⟩ = some (.slice A0_3 l0_3.length c0_3) := (blk_cell BK186.out 3).trans rfl
                                    have hcz80_4 : wr.cell? ⟨gb186, 4, none⟩ = some (.slice A0_4 l0_4.length c0_4) := (blk_cell BK186.out 4).trans rfl
                                    have hfz80_0 := blk_frozen BK186.out 0
                                    have hfz80_1 := blk_frozen BK186.out 1
                                    have hfz80_2 := blk_frozen BK186.out 2
                                    have hfz80_3 := blk_frozen BK186.out 3
                                    have hfz80_4 := blk_frozen BK186.out 4
                                    have p195 : 0 ≤ (x4_5 : Int) := of_decide_eq_true (by first | (with_reducible assumption) | assumption)
                                    have q195 : x4_5 < (l0_4.length : Int) := of_decide_eq_true (by first | (with_reducible assumption) | assumption)
                                    obtain ⟨ad195, A195_3, c195_3, A195_4, c195_4, e195, hx195_0, hx195_1, hx195_2, hx195_3, hx195_4, hl195_3, hi195_3, hl195_4, hi195_4⟩ := at_T30 HR0_4.out x4_5 p195 q195
                                    cases e195
                                    replace hx195_0 := (HB.out.cell (World.block_lt_of_cell? w _ hx195_0)).trans hx195_0
                                    replace hx195_1 := (HB.out.cell (World.block_lt_of_cell? w _ hx195_1)).trans hx195_1
                                    replace hx195_2 := (HB.out.cell (World.block_lt_of_cell? w _ hx195_2)).trans hx195_2
                                    replace hx195_3 := (HB.out.cell (World.block_lt_of_cell? w _ hx195_3)).trans hx195_3
                                    replace hx195_4 := (HB.out.cell (World.block_lt_of_cell? w _ hx195_4)).trans hx195_4
                                    have HR195_3 := Aside0.mk hi195_3
                                    have HC195_3 := Aside0.mk hl195_3
                                    clear hi195_3 hl195_3
                                    have HR195_4 := Aside0.mk hi195_4
                                    have HC195_4 := Aside0.mk hl195_4
                                    clear hi195_4 hl195_4
                                    replace p195 := eq_true p195
                                    replace q195 := eq_true q195
                                    go_wp2_with (first | ((with_reducible refine gate_callee (f := 33) rfl ?_); refine goesL_ (some 121) rfl rfl Tryd.func33 (by kernel_rfl) rfl #[.agg #[.int .i64 ((rd_T30 l0_4 x4_5).f0), .int .i64 ((rd_T30 l0_4 x4_5).f1), .string ((rd_T30 l0_4 x4_5).f2), .slice A195_3 ((rd_T30 l0_4 x4_5).f3).length c195_3, .slice A195_4 ((rd_T30 l0_4 x4_5).f4).length c195_4]] rfl (by (try simp only [List.map_toArray, List.map_cons, List.map_nil]); first | done | rfl | (simp only [List.length_drop, List.length_take]; rfl)) ?_; (with_reducible refine (ih k5 (by have := HJ1.out; have := HJ17.out; have := HJ48.out; have := HK4.out; have := HK5.out; omega) ((rd_T30 l0_4 x4_5).f0) ((rd_T30 l0_4 x4_5).f1) ((rd_T30 l0_4 x4_5).f2) _ _ ((rd_T30 l0_4 x4_5).f3) _ _ ((rd_T30 l0_4 x4_5).f4) true _ ?side1 ?side2 ?side3 ?side4 A78.out).mono ?_); (case side1 => repeat (first | exact (Kd.C_below HR195_3.out HB.out) | (with_reducible refine Kd.C_alloc ?_ _) | (with_reducible refine Kd.C_drewN ?_ _) | (with_reducible refine Kd.C_drew ?_))); (case side2 => exact HC195_3.out); (case side3 => repeat (first | exact (Kd.C_below HR195_4.out HB.out) | (with_reducible refine Kd.C_alloc ?_ _) | (with_reducible refine Kd.C_drewN ?_ _) | (with_reducible refine Kd.C_drew ?_))); (case side4 => exact HC195_4.out); rintro e w81 ⟨rfl, hb⟩; refine ⟨_, rfl, ?_⟩; have n0_ := Aside0.mk (blk_below (g := gb186) (o := .cells #[.int .i64 a0_0, .int .i64 a0_1, .string a0_2, .slice A0_3 l0_3.length c0_3, .slice (some ad195) l0_4.length c0_4] 30 (0, 0)) (by (with_reducible repeat (first | refine blk_drewN ?_ _ | refine blk_drew ?_ | refine blk_alloc ?_ _)); exact BK186.out) hb); have n1_ := Aside0.mk (below_step (by repeat (first | (with_reducible first | exact HB.out | apply below_alloc | apply pw_below_drewN | apply below_drew1 | refine below_set ?_ GE186.out) | exact HB.out)) hb); clear BK186; clear HB; have BK186 := n0_; have HB := n1_; clear n0_ n1_; (try clear hb); (try clear hb2); (try clear hk); (try clear hi)))
                                    go_roundg k5
                                    case measure => have := HJ1.out; have := HJ17.out; have := HJ48.out; have := HK4.out; have := HK5.out; omega
                                    case rel => exact ⟨(wrap64 (x4_5 + 1)), (by first | rfl | (simp; done) | (simp [*]; done)), H', ⟨by have := HJ1.out; have := HJ17.out; have := HJ48.out; have := HK4.out; have := HK5.out; omega⟩, ⟨by (with_reducible repeat (first | refine blk_drewN ?_ _ | refine blk_drew ?_ | refine blk_alloc ?_ _)); exact BK186.out⟩, ⟨by repeat (first | (with_reducible first | exact HB.out | apply below_alloc | apply pw_below_drewN | apply below_drew1 | refine below_set ?_ GE186.out) | exact HB.out)⟩⟩
                                  · replace c79 := Bool.eq_false_iff.mpr c79
                                    subst c79
                                    have H1 : (some false) = some r := by rw [if_neg (show ¬ (false = true) by decide)] at H; exact H
                                    clear H
                                    have H := H1
                                    clear H1
                                    obtain rfl := Option.some.inj H
                                    have hcz82_0 : wr.cell? ⟨gb186, 0, none⟩ = some (.int .i64 a0_0) := (blk_cell BK186.out 0).trans rfl
                                    have hcz82_1 : wr.cell? ⟨gb186, 1, none⟩ = some (.int .i64 a0_1) := (blk_cell BK186.out 1).trans rfl
                                    have hcz82_2 : wr.cell? ⟨gb186, 2, none⟩ = some (.string a0_2) := (blk_cell BK186.out 2).trans rfl
                                    have hcz82_3 : wr.cell? ⟨gb186, 3, none⟩ = some (.slice A0_3 l0_3.length c0_3) := (blk_cell BK186.out 3).trans rfl
                                    have hcz82_4 : wr.cell? ⟨gb186, 4, none⟩ = some (.slice A0_4 l0_4.length c0_4) := (blk_cell BK186.out 4).trans rfl
                                    have hfz82_0 := blk_frozen BK186.out 0
                                    have hfz82_1 := blk_frozen BK186.out 1
                                    have hfz82_2 := blk_frozen BK186.out 2
                                    have hfz82_3 := blk_frozen BK186.out 3
                                    have hfz82_4 := blk_frozen BK186.out 4
                                    have p195 : 0 ≤ (x4_5 : Int) := of_decide_eq_true (by first | (with_reducible assumption) | assumption)
                                    have q195 : x4_5 < (l0_4.length : Int) := of_decide_eq_true (by first | (with_reducible assumption) | assumption)
                                    obtain ⟨ad195, A195_3, c195_3, A195_4, c195_4, e195, hx195_0, hx195_1, hx195_2, hx195_3, hx195_4, hl195_3, hi195_3, hl195_4, hi195_4⟩ := at_T30 HR0_4.out x4_5 p195 q195
                                    cases e195
                                    replace hx195_0 := (HB.out.cell (World.block_lt_of_cell? w _ hx195_0)).trans hx195_0
                                    replace hx195_1 := (HB.out.cell (World.block_lt_of_cell? w _ hx195_1)).trans hx195_1
                                    replace hx195_2 := (HB.out.cell (World.block_lt_of_cell? w _ hx195_2)).trans hx195_2
                                    replace hx195_3 := (HB.out.cell (World.block_lt_of_cell? w _ hx195_3)).trans hx195_3
                                    replace hx195_4 := (HB.out.cell (World.block_lt_of_cell? w _ hx195_4)).trans hx195_4
                                    have HR195_3 := Aside0.mk hi195_3
                                    have HC195_3 := Aside0.mk hl195_3
                                    clear hi195_3 hl195_3
                                    have HR195_4 := Aside0.mk hi195_4
                                    have HC195_4 := Aside0.mk hl195_4
                                    clear hi195_4 hl195_4
                                    replace p195 := eq_true p195
                                    replace q195 := eq_true q195
                                    go_wp2_with (first | ((with_reducible refine gate_callee (f := 33) rfl ?_); refine goesL_ (some 121) rfl rfl Tryd.func33 (by kernel_rfl) rfl #[.agg #[.int .i64 ((rd_T30 l0_4 x4_5).f0), .int .i64 ((rd_T30 l0_4 x4_5).f1), .string ((rd_T30 l0_4 x4_5).f2), .slice A195_3 ((rd_T30 l0_4 x4_5).f3).length c195_3, .slice A195_4 ((rd_T30 l0_4 x4_5).f4).length c195_4]] rfl (by (try simp only [List.map_toArray, List.map_cons, List.map_nil]); first | done | rfl | (simp only [List.length_drop, List.length_take]; rfl)) ?_; (with_reducible refine (ih k5 (by have := HJ1.out; have := HJ17.out; have := HJ48.out; have := HK4.out; have := HK5.out; omega) ((rd_T30 l0_4 x4_5).f0) ((rd_T30 l0_4 x4_5).f1) ((rd_T30 l0_4 x4_5).f2) _ _ ((rd_T30 l0_4 x4_5).f3) _ _ ((rd_T30 l0_4 x4_5).f4) false _ ?side1 ?side2 ?side3 ?side4 A78.out).mono ?_); (case side1 => repeat (first | exact (Kd.C_below HR195_3.out HB.out) | (with_reducible refine Kd.C_alloc ?_ _) | (with_reducible refine Kd.C_drewN ?_ _) | (with_reducible refine Kd.C_drew ?_))); (case side2 => exact HC195_3.out); (case side3 => repeat (first | exact (Kd.C_below HR195_4.out HB.out) | (with_reducible refine Kd.C_alloc ?_ _) | (with_reducible refine Kd.C_drewN ?_ _) | (with_reducible refine Kd.C_drew ?_))); (case side4 => exact HC195_4.out); rintro e w83 ⟨rfl, hb⟩; refine ⟨_, rfl, ?_⟩; have n0_ := Aside0.mk (blk_below (g := gb186) (o := .cells #[.int .i64 a0_0, .int .i64 a0_1, .string a0_2, .slice A0_3 l0_3.length c0_3, .slice (some ad195) l0_4.length c0_4] 30 (0, 0)) (by (with_reducible repeat (first | refine blk_drewN ?_ _ | refine blk_drew ?_ | refine blk_alloc ?_ _)); exact BK186.out) hb); have n1_ := Aside0.mk (below_step (by repeat (first | (with_reducible first | exact HB.out | apply below_alloc | apply pw_below_drewN | apply below_drew1 | refine below_set ?_ GE186.out) | exact HB.out)) hb); clear BK186; clear HB; have BK186 := n0_; have HB := n1_; clear n0_ n1_; (try clear hb); (try clear hb2); (try clear hk); (try clear hi)))
                                    go_ret
                                    exact ⟨by first | rfl | (simp [errW_none, errW_some] <;> rfl) | (simp [*, errW_none, errW_some] <;> rfl), by repeat (first | (with_reducible first | exact HB.out | apply below_alloc | apply pw_below_drewN | apply below_drew1 | refine below_set ?_ GE186.out) | exact HB.out)⟩
                                · rw [if_neg c77] at H
                                  exact absurd H (by simp)
                              · rw [if_neg c76] at H
                                have c76b0 : decide (x4_5 < (l0_4.length : Int)) = false := decide_eq_false c76
                                clear c76
                                obtain rfl := Option.some.inj H
                                have hcz84_0 : wr.cell? ⟨gb186, 0, none⟩ = some (.int .i64 a0_0) := (blk_cell BK186.out 0).trans rfl
                                have hcz84_1 : wr.cell? ⟨gb186, 1, none⟩ = some (.int .i64 a0_1) := (blk_cell BK186.out 1).trans rfl
                                have hcz84_2 : wr.cell? ⟨gb186, 2, none⟩ = some (.string a0_2) := (blk_cell BK186.out 2).trans rfl
                                have hcz84_3 : wr.cell? ⟨gb186, 3, none⟩ = some (.slice A0_3 l0_3.length c0_3) := (blk_cell BK186.out 3).trans rfl
                                have hcz84_4 : wr.cell? ⟨gb186, 4, none⟩ = some (.slice A0_4 l0_4.length c0_4) := (blk_cell BK186.out 4).trans rfl
                                have hfz84_0 := blk_frozen BK186.out 0
                                have hfz84_1 := blk_frozen BK186.out 1
                                have hfz84_2 := blk_frozen BK186.out 2
                                have hfz84_3 := blk_frozen BK186.out 3
                                have hfz84_4 := blk_frozen BK186.out 4
                                go_wp2
                                go_ret
                                exact ⟨by first | rfl | (simp [errW_none, errW_some] <;> rfl) | (simp [*, errW_none, errW_some] <;> rfl), by repeat (first | (with_reducible first | exact HB.out | apply below_alloc | apply pw_below_drewN | apply below_drew1 | refine below_set ?_ GE186.out) | exact HB.out)⟩
end Go.Proofs.YteblbippmllfkaaDoor.PP
