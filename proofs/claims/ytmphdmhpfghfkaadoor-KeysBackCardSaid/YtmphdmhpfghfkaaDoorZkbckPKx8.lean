import Derived.Test.YtmphdmhpfghfkaaDoorZkbckPKx0
import Derived.Test.YtmphdmhpfghfkaaDoorZkbckPKx7
namespace Go.Proofs.YtmphdmhpfghfkaaDoor.PK
open Go.RowKit Go.Proofs.YtmphdmhpfghfkaaDoorW.PrintWords Go.Proofs.YtmphdmhpfghfkaaDoorW.PrintLast Go.Proofs.YtmphdmhpfghfkaaDoorW.PrintMore
attribute [local go_sem] max2_mx_ min2_mn_ max_two min_two max_three min_three max_four min_four   -- for this text's walks alone
set_option linter.unusedVariables false
set_option linter.unusedSimpArgs false
mutual
def munimentref01_Few.j0 : Nat → Bool → Int → Int → ByteArray → List ByteArray → List (S25) → Option (Bool)
  | 0, _, _, _, _, _, _ => none
  | k + 1, x19, x163000, x163001, x163002, x163003, x163004 => if x19 = true then (some false) else (munimentref01_Few.l0 k 0 x163000 x163001 x163002 x163003 x163004)
def munimentref01_Few.l0 : Nat → Int → Int → Int → ByteArray → List ByteArray → List (S25) → Option (Bool)
  | 0, _, _, _, _, _, _ => none
  | k + 1, x3, x163000, x163001, x163002, x163003, x163004 => if x3 < (x163003.length : Int) then (if 0 ≤ x3 then (if ((rdOf ByteArray.empty x163003 x3).size : Int) > 1000 then (some false) else (munimentref01_Few.l0 k (wrap64 (x3 + 1)) x163000 x163001 x163002 x163003 x163004)) else (none)) else (munimentref01_Few.l1 k 0 x163000 x163001 x163002 x163003 x163004)
def munimentref01_Few.l1 : Nat → Int → Int → Int → ByteArray → List ByteArray → List (S25) → Option (Bool)
  | 0, _, _, _, _, _, _ => none
  | k + 1, x4, x163000, x163001, x163002, x163003, x163004 => if x4 < (x163004.length : Int) then (if 0 ≤ x4 then ((munimentref01_Few.f k ((rd_T25 x163004 x4).f0) ((rd_T25 x163004 x4).f1) ((rd_T25 x163004 x4).f2) ((rd_T25 x163004 x4).f3) ((rd_T25 x163004 x4).f4)).bind fun t166 => (if t166 = true then (munimentref01_Few.l1 k (wrap64 (x4 + 1)) x163000 x163001 x163002 x163003 x163004) else (some false))) else (none)) else (some true)
def munimentref01_Few.f : Nat → Int → Int → ByteArray → List ByteArray → List (S25) → Option (Bool)
  | 0, _, _, _, _, _ => none
  | k + 1, a0_0, a0_1, a0_2, l0_3, l0_4 => (munimentref01_Nodes.f k a0_0 a0_1 a0_2 l0_3 l0_4).bind fun t163 => (if t163 > 300 then (munimentref01_Few.j0 k true a0_0 a0_1 a0_2 l0_3 l0_4) else (if (l0_3.length : Int) > 100 then (munimentref01_Few.j0 k true a0_0 a0_1 a0_2 l0_3 l0_4) else (munimentref01_Few.j0 k (decide ((a0_2.size : Int) > 1000)) a0_0 a0_1 a0_2 l0_3 l0_4)))
end
set_option maxHeartbeats 8000000 in
set_option maxRecDepth 100000 in
theorem munimentref01_Few.calls (k : Nat) : ∀ (a0_0 : Int) (a0_1 : Int) (a0_2 : ByteArray) (A0_3 : Option Addr) (c0_3 : Nat) (l0_3 : List ByteArray) (A0_4 : Option Addr) (c0_4 : Nat) (l0_4 : List (S25)) (r : Bool) (w : World) (hr0_3 : Kd.C Kd.string w A0_3 l0_3.length l0_3) (hc0_3 : l0_3.length ≤ c0_3) (hr0_4 : Kd.C k25 w A0_4 l0_4.length l0_4) (hc0_4 : l0_4.length ≤ c0_4) (h : munimentref01_Few.f k a0_0 a0_1 a0_2 l0_3 l0_4 = some r),
    Calls Tryd.prog 23 #[.agg #[.int .i64 a0_0, .int .i64 a0_1, .string a0_2, .slice A0_3 l0_3.length c0_3, .slice A0_4 l0_4.length c0_4]] w fun e w' => e = .returned (.bool r) ∧ Below w.heap.size w w' := by
  induction k using Nat.strongRecOn with
  | _ k ih =>
  intro a0_0 a0_1 a0_2 A0_3 c0_3 l0_3 A0_4 c0_4 l0_4 r w hr0_3 hc0_3 hr0_4 hc0_4 h
  cases k with
  | zero => exact absurd h (by simp [munimentref01_Few.f])
  | succ k =>
  simp only [munimentref01_Few.f] at h
  have hu25 := Tryd.underlying25
  have HR0_3 := Aside0.mk hr0_3
  have HC0_3 := Aside0.mk hc0_3
  clear hr0_3 hc0_3
  have HR0_4 := Aside0.mk hr0_4
  have HC0_4 := Aside0.mk hc0_4
  clear hr0_4 hc0_4
  have HB := Aside0.mk (Below.refl w.heap.size w)
  have H : ((munimentref01_Nodes.f k a0_0 a0_1 a0_2 l0_3 l0_4).bind fun t163 => (if t163 > 300 then (munimentref01_Few.j0 k true a0_0 a0_1 a0_2 l0_3 l0_4) else (if (l0_3.length : Int) > 100 then (munimentref01_Few.j0 k true a0_0 a0_1 a0_2 l0_3 l0_4) else (munimentref01_Few.j0 k (decide ((a0_2.size : Int) > 1000)) a0_0 a0_1 a0_2 l0_3 l0_4)))) = some r := h
  clear h
  have HC2 := Aside0.mk H
  clear H
  go_enter Tryd.func23, Tryd.ntmps23
  go_upto_region 1 with (first | ((with_reducible refine gate_dst (N := 1) rfl ?_); (try (refine gate_guard (by rfl) ?_; dsimp only)); refine box_event ?hg (N := 1) ?hd (cs := #[.int .i64 a0_0, .int .i64 a0_1, .string a0_2, .slice A0_3 l0_3.length c0_3, .slice A0_4 l0_4.length c0_4]) (t := 25) ?hr ?_; (case hd => rfl); (case hg => rfl); (case hr => first | (go_simp; done) | (go_simp; rfl)); intro gb162 hg w3 hbox hb; have n0_ := Aside0.mk (below_step (by repeat (first | (with_reducible first | exact HB.out | apply below_alloc | apply pw_below_drewN | apply below_drew1) | exact HB.out)) hb); have n1_ := Aside0.mk (hbox); have n2_ := Aside0.mk ((by rw [hg]; exact (below_size (by repeat (first | (with_reducible first | exact HB.out | apply below_alloc | apply pw_below_drewN | apply below_drew1) | exact HB.out))) : w.heap.size ≤ gb162)); have n3_ := Aside0.mk ((by rw [hg]; exact (below_size (by repeat (first | (with_reducible first | exact HB.out | apply below_alloc | apply pw_below_drewN | apply below_drew1) | exact HB.out))) : w.heap.size ≤ gb162)); clear HB; have HB := n0_; have BK162 := n1_; have GW162 := n2_; have GE162 := n3_; clear n0_ n1_ n2_ n3_; clear hb hbox hg))
  (try simp only [Act.put, List.setIfInBounds_toArray, List.set_cons_zero, List.set_cons_succ])
  go_cut [19] (fun v19 wc => ∃ (kq : Nat) (x19_1 : Bool), v19 = .bool x19_1 ∧ Aside0 (munimentref01_Few.j0 kq x19_1 a0_0 a0_1 a0_2 l0_3 l0_4 = some r) ∧ Aside0 (kq ≤ k) ∧ Aside0 (wc.heap[gb162]? = some (.cells #[.int .i64 a0_0, .int .i64 a0_1, .string a0_2, (.slice A0_3 l0_3.length c0_3), (.slice A0_4 l0_4.length c0_4)] 25 (0, 0))) ∧ Aside0 (Below w.heap.size w wc))
  case first =>
    have H := HC2.out
    clear HC2
    replace H := Option.bind_eq_some_iff.mp H
    obtain ⟨t163, A40, H⟩ := H
    replace H : (if t163 > 300 then (munimentref01_Few.j0 k true a0_0 a0_1 a0_2 l0_3 l0_4) else (if (l0_3.length : Int) > 100 then (munimentref01_Few.j0 k true a0_0 a0_1 a0_2 l0_3 l0_4) else (munimentref01_Few.j0 k (decide ((a0_2.size : Int) > 1000)) a0_0 a0_1 a0_2 l0_3 l0_4))) = some r := H
    have A4 := Aside0.mk A40
    clear A40
    by_cases c5 : t163 > 300
    · rw [if_pos c5] at H
      have c5b0 : decide (300 < t163) = true := decide_eq_true c5
      clear c5
      (first | rw [c5b0] | (simp only [i64_w, i32_w]; rw [c5b0]) | skip)
      have H' := Aside0.mk H
      clear H
      have hcz6_0 : w3.cell? ⟨gb162, 0, none⟩ = some (.int .i64 a0_0) := (blk_cell BK162.out 0).trans rfl
      have hcz6_1 : w3.cell? ⟨gb162, 1, none⟩ = some (.int .i64 a0_1) := (blk_cell BK162.out 1).trans rfl
      have hcz6_2 : w3.cell? ⟨gb162, 2, none⟩ = some (.string a0_2) := (blk_cell BK162.out 2).trans rfl
      have hcz6_3 : w3.cell? ⟨gb162, 3, none⟩ = some (.slice A0_3 l0_3.length c0_3) := (blk_cell BK162.out 3).trans rfl
      have hcz6_4 : w3.cell? ⟨gb162, 4, none⟩ = some (.slice A0_4 l0_4.length c0_4) := (blk_cell BK162.out 4).trans rfl
      have hfz6_0 := blk_frozen BK162.out 0
      have hfz6_1 := blk_frozen BK162.out 1
      have hfz6_2 := blk_frozen BK162.out 2
      have hfz6_3 := blk_frozen BK162.out 3
      have hfz6_4 := blk_frozen BK162.out 4
      go_wp2_with (first | ((with_reducible refine gate_callee (f := 22) rfl ?_); refine goesL_ (some 6) rfl rfl Tryd.func22 (by kernel_rfl) rfl #[.agg #[.int .i64 a0_0, .int .i64 a0_1, .string a0_2, .slice A0_3 l0_3.length c0_3, .slice A0_4 l0_4.length c0_4]] rfl (by (try simp only [List.map_toArray, List.map_cons, List.map_nil]); first | done | rfl | (simp only [List.length_drop, List.length_take]; rfl)) ?_; (with_reducible refine (munimentref01_Nodes.calls k a0_0 a0_1 a0_2 _ _ l0_3 _ _ l0_4 t163 _ ?side1 ?side2 ?side3 ?side4 A4.out).mono ?_); (case side1 => repeat (first | exact (Kd.C_below HR0_3.out HB.out) | (with_reducible refine Kd.C_alloc ?_ _) | (with_reducible refine Kd.C_drewN ?_ _) | (with_reducible refine Kd.C_drew ?_))); (case side2 => exact HC0_3.out); (case side3 => repeat (first | exact (Kd.C_below HR0_4.out HB.out) | (with_reducible refine Kd.C_alloc ?_ _) | (with_reducible refine Kd.C_drewN ?_ _) | (with_reducible refine Kd.C_drew ?_))); (case side4 => exact HC0_4.out); rintro e w7 ⟨rfl, hb⟩; refine ⟨_, rfl, ?_⟩; have n0_ := Aside0.mk (blk_below (g := gb162) (o := .cells #[.int .i64 a0_0, .int .i64 a0_1, .string a0_2, .slice A0_3 l0_3.length c0_3, .slice A0_4 l0_4.length c0_4] 25 (0, 0)) (by (with_reducible repeat (first | refine blk_drewN ?_ _ | refine blk_drew ?_ | refine blk_alloc ?_ _)); exact BK162.out) hb); have n1_ := Aside0.mk (below_step (by repeat (first | (with_reducible first | exact HB.out | apply below_alloc | apply pw_below_drewN | apply below_drew1 | refine below_set ?_ GE162.out) | exact HB.out)) hb); clear BK162; clear HB; have BK162 := n0_; have HB := n1_; clear n0_ n1_; (try clear hb); (try clear hb2); (try clear hk); (try clear hi)))
      go_meet
      case rel => exact ⟨_, (true), (by first | rfl | (simp; done) | (simp [*]; done)), H', ⟨by first | omega | exact Nat.le_refl _⟩, ⟨by (with_reducible repeat (first | refine blk_drewN ?_ _ | refine blk_drew ?_ | refine blk_alloc ?_ _)); exact BK162.out⟩, ⟨by repeat (first | (with_reducible first | exact HB.out | apply below_alloc | apply pw_below_drewN | apply below_drew1 | refine below_set ?_ GE162.out) | exact HB.out)⟩⟩
    · rw [if_neg c5] at H
      have c5b0 : decide (300 < t163) = false := decide_eq_false c5
      clear c5
      (first | rw [c5b0] | (simp only [i64_w, i32_w]; rw [c5b0]) | skip)
      by_cases c8 : (l0_3.length : Int) > 100
      · rw [if_pos c8] at H
        have c8b0 : decide (100 < (l0_3.length : Int)) = true := decide_eq_true c8
        have c8b1 : decide (100 < l0_3.length) = true := decide_eq_true (by omega)
        clear c8
        have H' := Aside0.mk H
        clear H
        have hcz9_0 : w3.cell? ⟨gb162, 0, none⟩ = some (.int .i64 a0_0) := (blk_cell BK162.out 0).trans rfl
        have hcz9_1 : w3.cell? ⟨gb162, 1, none⟩ = some (.int .i64 a0_1) := (blk_cell BK162.out 1).trans rfl
        have hcz9_2 : w3.cell? ⟨gb162, 2, none⟩ = some (.string a0_2) := (blk_cell BK162.out 2).trans rfl
        have hcz9_3 : w3.cell? ⟨gb162, 3, none⟩ = some (.slice A0_3 l0_3.length c0_3) := (blk_cell BK162.out 3).trans rfl
        have hcz9_4 : w3.cell? ⟨gb162, 4, none⟩ = some (.slice A0_4 l0_4.length c0_4) := (blk_cell BK162.out 4).trans rfl
        have hfz9_0 := blk_frozen BK162.out 0
        have hfz9_1 := blk_frozen BK162.out 1
        have hfz9_2 := blk_frozen BK162.out 2
        have hfz9_3 := blk_frozen BK162.out 3
        have hfz9_4 := blk_frozen BK162.out 4
        go_wp2_with (first | ((with_reducible refine gate_callee (f := 22) rfl ?_); refine goesL_ (some 6) rfl rfl Tryd.func22 (by kernel_rfl) rfl #[.agg #[.int .i64 a0_0, .int .i64 a0_1, .string a0_2, .slice A0_3 l0_3.length c0_3, .slice A0_4 l0_4.length c0_4]] rfl (by (try simp only [List.map_toArray, List.map_cons, List.map_nil]); first | done | rfl | (simp only [List.length_drop, List.length_take]; rfl)) ?_; (with_reducible refine (munimentref01_Nodes.calls k a0_0 a0_1 a0_2 _ _ l0_3 _ _ l0_4 t163 _ ?side1 ?side2 ?side3 ?side4 A4.out).mono ?_); (case side1 => repeat (first | exact (Kd.C_below HR0_3.out HB.out) | (with_reducible refine Kd.C_alloc ?_ _) | (with_reducible refine Kd.C_drewN ?_ _) | (with_reducible refine Kd.C_drew ?_))); (case side2 => exact HC0_3.out); (case side3 => repeat (first | exact (Kd.C_below HR0_4.out HB.out) | (with_reducible refine Kd.C_alloc ?_ _) | (with_reducible refine Kd.C_drewN ?_ _) | (with_reducible refine Kd.C_drew ?_))); (case side4 => exact HC0_4.out); rintro e w10 ⟨rfl, hb⟩; refine ⟨_, rfl, ?_⟩; have n0_ := Aside0.mk (blk_below (g := gb162) (o := .cells #[.int .i64 a0_0, .int .i64 a0_1, .string a0_2, .slice A0_3 l0_3.length c0_3, .slice A0_4 l0_4.length c0_4] 25 (0, 0)) (by (with_reducible repeat (first | refine blk_drewN ?_ _ | refine blk_drew ?_ | refine blk_alloc ?_ _)); exact BK162.out) hb); have n1_ := Aside0.mk (below_step (by repeat (first | (with_reducible first | exact HB.out | apply below_alloc | apply pw_below_drewN | apply below_drew1 | refine below_set ?_ GE162.out) | exact HB.out)) hb); clear BK162; clear HB; have BK162 := n0_; have HB := n1_; clear n0_ n1_; (try clear hb); (try clear hb2); (try clear hk); (try clear hi); have hcz11_0 : w10.cell? ⟨gb162, 0, none⟩ = some (.int .i64 a0_0) := (blk_cell BK162.out 0).trans rfl; have hcz11_1 : w10.cell? ⟨gb162, 1, none⟩ = some (.int .i64 a0_1) := (blk_cell BK162.out 1).trans rfl; have hcz11_2 : w10.cell? ⟨gb162, 2, none⟩ = some (.string a0_2) := (blk_cell BK162.out 2).trans rfl; have hcz11_3 : w10.cell? ⟨gb162, 3, none⟩ = some (.slice A0_3 l0_3.length c0_3) := (blk_cell BK162.out 3).trans rfl; have hcz11_4 : w10.cell? ⟨gb162, 4, none⟩ = some (.slice A0_4 l0_4.length c0_4) := (blk_cell BK162.out 4).trans rfl; have hfz11_0 := blk_frozen BK162.out 0; have hfz11_1 := blk_frozen BK162.out 1; have hfz11_2 := blk_frozen BK162.out 2; have hfz11_3 := blk_frozen BK162.out 3; have hfz11_4 := blk_frozen BK162.out 4))
        go_meet
        case rel => exact ⟨_, (true), (by first | rfl | (simp; done) | (simp [*]; done)), H', ⟨by first | omega | exact Nat.le_refl _⟩, ⟨by (with_reducible repeat (first | refine blk_drewN ?_ _ | refine blk_drew ?_ | refine blk_alloc ?_ _)); exact BK162.out⟩, ⟨by repeat (first | (with_reducible first | exact HB.out | apply below_alloc | apply pw_below_drewN | apply below_drew1 | refine below_set ?_ GE162.out) | exact HB.out)⟩⟩
      · rw [if_neg c8] at H
        have c8b0 : decide (100 < (l0_3.length : Int)) = false := decide_eq_false c8
        have c8b1 : decide (100 < l0_3.length) = false := decide_eq_false (by omega)
        clear c8
        have H' := Aside0.mk H
        clear H
        have hcz12_0 : w3.cell? ⟨gb162, 0, none⟩ = some (.int .i64 a0_0) := (blk_cell BK162.out 0).trans rfl
        have hcz12_1 : w3.cell? ⟨gb162, 1, none⟩ = some (.int .i64 a0_1) := (blk_cell BK162.out 1).trans rfl
        have hcz12_2 : w3.cell? ⟨gb162, 2, none⟩ = some (.string a0_2) := (blk_cell BK162.out 2).trans rfl
        have hcz12_3 : w3.cell? ⟨gb162, 3, none⟩ = some (.slice A0_3 l0_3.length c0_3) := (blk_cell BK162.out 3).trans rfl
        have hcz12_4 : w3.cell? ⟨gb162, 4, none⟩ = some (.slice A0_4 l0_4.length c0_4) := (blk_cell BK162.out 4).trans rfl
        have hfz12_0 := blk_frozen BK162.out 0
        have hfz12_1 := blk_frozen BK162.out 1
        have hfz12_2 := blk_frozen BK162.out 2
        have hfz12_3 := blk_frozen BK162.out 3
        have hfz12_4 := blk_frozen BK162.out 4
        go_wp2_with (first | ((with_reducible refine gate_callee (f := 22) rfl ?_); refine goesL_ (some 6) rfl rfl Tryd.func22 (by kernel_rfl) rfl #[.agg #[.int .i64 a0_0, .int .i64 a0_1, .string a0_2, .slice A0_3 l0_3.length c0_3, .slice A0_4 l0_4.length c0_4]] rfl (by (try simp only [List.map_toArray, List.map_cons, List.map_nil]); first | done | rfl | (simp only [List.length_drop, List.length_take]; rfl)) ?_; (with_reducible refine (munimentref01_Nodes.calls k a0_0 a0_1 a0_2 _ _ l0_3 _ _ l0_4 t163 _ ?side1 ?side2 ?side3 ?side4 A4.out).mono ?_); (case side1 => repeat (first | exact (Kd.C_below HR0_3.out HB.out) | (with_reducible refine Kd.C_alloc ?_ _) | (with_reducible refine Kd.C_drewN ?_ _) | (with_reducible refine Kd.C_drew ?_))); (case side2 => exact HC0_3.out); (case side3 => repeat (first | exact (Kd.C_below HR0_4.out HB.out) | (with_reducible refine Kd.C_alloc ?_ _) | (with_reducible refine Kd.C_drewN ?_ _) | (with_reducible refine Kd.C_drew ?_))); (case side4 => exact HC0_4.out); rintro e w13 ⟨rfl, hb⟩; refine ⟨_, rfl, ?_⟩; have n0_ := Aside0.mk (blk_below (g := gb162) (o := .cells #[.int .i64 a0_0, .int .i64 a0_1, .string a0_2, .slice A0_3 l0_3.length c0_3, .slice A0_4 l0_4.length c0_4] 25 (0, 0)) (by (with_reducible repeat (first | refine blk_drewN ?_ _ | refine blk_drew ?_ | refine blk_alloc ?_ _)); exact BK162.out) hb); have n1_ := Aside0.mk (below_step (by repeat (first | (with_reducible first | exact HB.out | apply below_alloc | apply pw_below_drewN | apply below_drew1 | refine below_set ?_ GE162.out) | exact HB.out)) hb); clear BK162; clear HB; have BK162 := n0_; have HB := n1_; clear n0_ n1_; (try clear hb); (try clear hb2); (try clear hk); (try clear hi); have hcz14_0 : w13.cell? ⟨gb162, 0, none⟩ = some (.int .i64 a0_0) := (blk_cell BK162.out 0).trans rfl; have hcz14_1 : w13.cell? ⟨gb162, 1, none⟩ = some (.int .i64 a0_1) := (blk_cell BK162.out 1).trans rfl; have hcz14_2 : w13.cell? ⟨gb162, 2, none⟩ = some (.string a0_2) := (blk_cell BK162.out 2).trans rfl; have hcz14_3 : w13.cell? ⟨gb162, 3, none⟩ = some (.slice A0_3 l0_3.length c0_3) := (blk_cell BK162.out 3).trans rfl; have hcz14_4 : w13.cell? ⟨gb162, 4, none⟩ = some (.slice A0_4 l0_4.length c0_4) := (blk_cell BK162.out 4).trans rfl; have hfz14_0 := blk_frozen BK162.out 0; have hfz14_1 := blk_frozen BK162.out 1; have hfz14_2 := blk_frozen BK162.out 2; have hfz14_3 := blk_frozen BK162.out 3; have hfz14_4 := blk_frozen BK162.out 4))
        go_meet
        case rel => exact ⟨_, (decide ((a0_2.size : Int) > 1000)), (by first | rfl | (simp; done) | (simp [*]; done)), H', ⟨by first | omega | exact Nat.le_refl _⟩, ⟨by (with_reducible repeat (first | refine blk_drewN ?_ _ | refine blk_drew ?_ | refine blk_alloc ?_ _)); exact BK162.out⟩, ⟨by repeat (first | (with_reducible first | exact HB.out | apply below_alloc | apply pw_below_drewN | apply below_drew1 | refine below_set ?_ GE162.out) | exact HB.out)⟩⟩
  case rest =>
    clear HC2
    try clear c2
    try clear p2
    try clear c5
    try clear c5b0
    try clear c8
    try clear c8b0
    try clear c8b1
    try clear hcz11_0
    try clear hcz11_1
    try clear hcz11_2
    try clear hcz11_3
    try clear hcz11_4
    try clear hcz12_0
    try clear hcz12_1
    try clear hcz12_2
    try clear hcz12_3
    try clear hcz12_4
    try clear hcz14_0
    try clear hcz14_1
    try clear hcz14_2
    try clear hcz14_3
    try clear hcz14_4
    try clear hcz6_0
    try clear hcz6_1
    try clear hcz6_2
    try clear hcz6_3
    try clear hcz6_4
    try clear hcz9_0
    try clear hcz9_1
    try clear hcz9_2
    try clear hcz9_3
    try clear hcz9_4
    try clear hfz11_0
    try clear hfz11_1
    try clear hfz11_2
    try clear hfz11_3
    try clear hfz11_4
    try clear hfz12_0
    try clear hfz12_1
    try clear hfz12_2
    try clear hfz12_3
    try clear hfz12_4
    try clear hfz14_0
    try clear hfz14_1
    try clear hfz14_2
    try clear hfz14_3
    try clear hfz14_4
    try clear hfz6_0
    try clear hfz6_1
    try clear hfz6_2
    try clear hfz6_3
    try clear hfz6_4
    try clear hfz9_0
    try clear hfz9_1
    try clear hfz9_2
    try clear hfz9_3
    try clear hfz9_4
    obtain ⟨kq, x19_1, rfl, HA, HJ1, BK162, HB⟩ := hcut
    cases kq with
    | zero => exact absurd HA.out (by simp [munimentref01_Few.j0])
    | succ kj1 =>
      have H := HA.out
      clear HA
      simp only [munimentref01_Few.j0] at H
      by_cases c15 : x19_1 = true
      · subst c15
        have H1 : (some false) = some r := by rw [if_pos rfl] at H; exact H
        clear H
        have H := H1
        clear H1
        obtain rfl := Option.some.inj H
        go_wp2
        go_ret
        exact ⟨by first | rfl | (simp [errW_none, errW_some] <;> rfl) | (simp [*, errW_none, errW_some] <;> rfl), by repeat (first | (with_reducible first | exact HB.out | apply below_alloc | apply pw_below_drewN | apply below_drew1 | refine below_set ?_ GE162.out) | exact HB.out)⟩
      · replace c15 := Bool.eq_false_iff.mpr c15
        subst c15
        have H1 : (munimentref01_Few.l0 kj1 0 a0_0 a0_1 a0_2 l0_3 l0_4) = some r := by rw [if_neg (show ¬ (false = true) by decide)] at H; exact H
        clear H
        have H := H1
        clear H1
        have H' := Aside0.mk H
        clear H
        go_wp2
        go_loopg [3] kj1 (fun kq v3 w' => ∃ (x3_2 : Int), v3 = .int .i64 x3_2 ∧ Aside0 (munimentref01_Few.l0 kq x3_2 a0_0 a0_1 a0_2 l0_3 l0_4 = some r) ∧ Aside0 (kq ≤ kj1) ∧ Aside0 (w'.heap[gb162]? = some (.cells #[.int .i64 a0_0, .int .i64 a0_1, .string a0_2, (.slice A0_3 l0_3.length c0_3), (.slice A0_4 l0_4.length c0_4)] 25 (0, 0))) ∧ Aside0 (Below w.heap.size w w'))
        case atStart => exact ⟨(0), (by first | rfl | (simp; done) | (simp [*]; done)), H', ⟨Nat.le_refl _⟩, ⟨by (with_reducible repeat (first | refine blk_drewN ?_ _ | refine blk_drew ?_ | refine blk_alloc ?_ _)); exact BK162.out⟩, ⟨by repeat (first | (with_reducible first | exact HB.out | apply below_alloc | apply pw_below_drewN | apply below_drew1 | refine below_set ?_ GE162.out) | exact HB.out)⟩⟩
        case round =>
          clear H'
          try clear c1
          try clear c2
          try clear p2
          try clear c5
          try clear c5b0
          try clear c8
          try clear c8b0
          try clear c8b1
          try clear c15
          try clear hcz11_0
          try clear hcz11_1
          try clear hcz11_2
          try clear hcz11_3
          try clear hcz11_4
          try clear hcz12_0
          try clear hcz12_1
          try clear hcz12_2
          try clear hcz12_3
          try clear hcz12_4
          try clear hcz14_0
          try clear hcz14_1
          try clear hcz14_2
          try clear hcz14_3
          try clear hcz14_4
          try clear hcz6_0
          try clear hcz6_1
          try clear hcz6_2
          try clear hcz6_3
          try clear hcz6_4
          try clear hcz9_0
          try clear hcz9_1
          try clear hcz9_2
          try clear hcz9_3
          try clear hcz9_4
          try clear hfz11_0
          try clear hfz11_1
          try clear hfz11_2
          try clear hfz11_3
          try clear hfz11_4
          try clear hfz12_0
          try clear hfz12_1
          try clear hfz12_2
          try clear hfz12_3
          try clear hfz12_4
          try clear hfz14_0
          try clear hfz14_1
          try clear hfz14_2
          try clear hfz14_3
          try clear hfz14_4
          try clear hfz6_0
          try clear hfz6_1
          try clear hfz6_2
          try clear hfz6_3
          try clear hfz6_4
          try clear hfz9_0
          try clear hfz9_1
          try clear hfz9_2
          try clear hfz9_3
          try clear hfz9_4
          try clear p2
          try clear BK162
          obtain ⟨x3_2, rfl, HA, HK2, BK162, HB⟩ := hrel
          cases gk with
          | zero => exact absurd HA.out (by simp [munimentref01_Few.l0])
          | succ k2 =>
            have H := HA.out
            clear HA
            simp only [munimentref01_Few.l0] at H
            by_cases c16 : x3_2 < (l0_3.length : Int)
            · rw [if_pos c16] at H
              have c16b0 : decide (x3_2 < (l0_3.length : Int)) = true := decide_eq_true c16
              clear c16
              by_cases c17 : 0 ≤ x3_2
              · rw [if_pos c17] at H
                have c17b0 : decide (0 ≤ x3_2) = true := decide_eq_true c17
                clear c17
                by_cases c18 : ((rdOf ByteArray.empty l0_3 x3_2).size : Int) > 1000
                · rw [if_pos c18] at H
                  have c18b0 : decide (1000 < ((rdOf ByteArray.empty l0_3 x3_2).size : Int)) = true := decide_eq_true c18
                  have c18b1 : decide (1000 < (rdOf ByteArray.empty l0_3 x3_2).size) = true := decide_eq_true (by omega)
                  clear c18
                  obtain rfl := Option.some.inj H
                  have hcz19_0 : wr.cell? ⟨gb162, 0, none⟩ = some (.int .i64 a0_0) := (blk_cell BK162.out 0).trans rfl
                  have hcz19_1 : wr.cell? ⟨gb162, 1, none⟩ = some (.int .i64 a0_1) := (blk_cell BK162.out 1).trans rfl
                  have hcz19_2 : wr.cell? ⟨gb162, 2, none⟩ = some (.string a0_2) := (blk_cell BK162.out 2).trans rfl
                  have hcz19_3 : wr.cell? ⟨gb162, 3, none⟩ = some (.slice A0_3 l0_3.length c0_3) := (blk_cell BK162.out 3).trans rfl
                  have hcz19_4 : wr.cell? ⟨gb162, 4, none⟩ = some (.slice A0_4 l0_4.length c0_4) := (blk_cell BK162.out 4).trans rfl
                  have hfz19_0 := blk_frozen BK162.out 0
                  have hfz19_1 := blk_frozen BK162.out 1
                  have hfz19_2 := blk_frozen BK162.out 2
                  have hfz19_3 := blk_frozen BK162.out 3
                  have hfz19_4 := blk_frozen BK162.out 4
                  have p164 : 0 ≤ (x3_2 : Int) := of_decide_eq_true (by first | (with_reducible assumption) | assumption)
                  have q164 : x3_2 < (l0_3.length : Int) := of_decide_eq_true (by first | (with_reducible assumption) | assumption)
                  obtain ⟨ad164, e164, hx164_0⟩ := Kd.at_string HR0_3.out x3_2 p164 q164
                  cases e164
                  replace hx164_0 := (HB.out.cell (World.block_lt_of_cell? w _ hx164_0)).trans hx164_0
                  replace p164 := eq_true p164
                  replace q164 := eq_true q164
                  go_wp2
                  go_ret
                  exact ⟨by first | rfl | (simp [errW_none, errW_some] <;> rfl) | (simp [*, errW_none, errW_some] <;> rfl), by repeat (first | (with_reducible first | exact HB.out | apply below_alloc | apply pw_below_drewN | apply below_drew1 | refine below_set ?_ GE162.out) | exact HB.out)⟩
                · rw [if_neg c18] at H
                  have c18b0 : decide (1000 < ((rdOf ByteArray.empty l0_3 x3_2).size : Int)) = false := decide_eq_false c18
                  have c18b1 : decide (1000 < (rdOf ByteArray.empty l0_3 x3_2).size) = false := decide_eq_false (by omega)
                  clear c18
                  have H' := Aside0.mk H
                  clear H
                  have hcz20_0 : wr.cell? ⟨gb162, 0, none⟩ = some (.int .i64 a0_0) := (blk_cell BK162.out 0).trans rfl
                  have hcz20_1 : wr.cell? ⟨gb162, 1, none⟩ = some (.int .i64 a0_1) := (blk_cell BK162.out 1).trans rfl
                  have hcz20_2 : wr.cell? ⟨gb162, 2, none⟩ = some (.string a0_2) := (blk_cell BK162.out 2).trans rfl
                  have hcz20_3 : wr.cell? ⟨gb162, 3, none⟩ = some (.slice A0_3 l0_3.length c0_3) := (blk_cell BK162.out 3).trans rfl
                  have hcz20_4 : wr.cell? ⟨gb162, 4, none⟩ = some (.slice A0_4 l0_4.length c0_4) := (blk_cell BK162.out 4).trans rfl
                  have hfz20_0 := blk_frozen BK162.out 0
                  have hfz20_1 := blk_frozen BK162.out 1
                  have hfz20_2 := blk_frozen BK162.out 2
                  have hfz20_3 := blk_frozen BK162.out 3
                  have hfz20_4 := blk_frozen BK162.out 4
                  have p164 : 0 ≤ (x3_2 : Int) := of_decide_eq_true (by first | (with_reducible assumption) | assumption)
                  have q164 : x3_2 < (l0_3.length : Int) := of_decide_eq_true (by first | (with_reducible assumption) | assumption)
                  obtain ⟨ad164, e164, hx164_0⟩ := Kd.at_string HR0_3.out x3_2 p164 q164
                  cases e164
                  replace hx164_0 := (HB.out.cell (World.block_lt_of_cell? w _ hx164_0)).trans hx164_0
                  replace p164 := eq_true p164
                  replace q164 := eq_true q164
                  go_wp2
                  go_roundg k2
                  case measure => have := HJ1.out; have := HK2.out; omega
                  case rel => exact ⟨(wrap64 (x3_2 + 1)), (by first | rfl | (simp; done) | (simp [*]; done)), H', ⟨by have := HJ1.out; have := HK2.out; omega⟩, ⟨by (with_reducible repeat (first | refine blk_drewN ?_ _ | refine blk_drew ?_ | refine blk_alloc ?_ _)); exact BK162.out⟩, ⟨by repeat (first | (with_reducible first | exact HB.out | apply below_alloc | apply pw_below_drewN | apply below_drew1 | refine below_set ?_ GE162.out) | exact HB.out)⟩⟩
              · rw [if_neg c17] at H
                exact absurd H (by simp)
            · rw [if_neg c16] at H
              have c16b0 : decide (x3_2 < (l0_3.length : Int)) = false := decide_eq_false c16
              clear c16
              have H' := Aside0.mk H
              clear H
              have hcz21_0 : wr.cell? ⟨gb162, 0, none⟩ = some (.int .i64 a0_0) := (blk_cell BK162.out 0).trans rfl
              have hcz21_1 : wr.cell? ⟨gb162, 1, none⟩ = some (.int .i64 a0_1) := (blk_cell BK162.out 1).trans rfl
              have hcz21_2 : wr.cell? ⟨gb162, 2, none⟩ = some (.string a0_2) := (blk_cell BK162.out 2).trans rfl
              have hcz21_3 : wr.cell? ⟨gb162, 3, none⟩ = some (.slice A0_3 l0_3.length c0_3) := (blk_cell BK162.out 3).trans rfl
              have hcz21_4 : wr.cell? ⟨gb162, 4, none⟩ = some (.slice A0_4 l0_4.length c0_4) := (blk_cell BK162.out 4).trans rfl
              have hfz21_0 := blk_frozen BK162.out 0
              have hfz21_1 := blk_frozen BK162.out 1
              have hfz21_2 := blk_frozen BK162.out 2
              have hfz21_3 := blk_frozen BK162.out 3
              have hfz21_4 := blk_frozen BK162.out 4
              go_wp2
              go_loopg [4] k2 (fun kq v4 w' => ∃ (x4_3 : Int), v4 = .int .i64 x4_3 ∧ Aside0 (munimentref01_Few.l1 kq x4_3 a0_0 a0_1 a0_2 l0_3 l0_4 = some r) ∧ Aside0 (kq ≤ k2) ∧ Aside0 (w'.heap[gb162]? = some (.cells #[.int .i64 a0_0, .int .i64 a0_1, .string a0_2, (.slice A0_3 l0_3.length c0_3), (.slice A0_4 l0_4.length c0_4)] 25 (0, 0))) ∧ Aside0 (Below w.heap.size w w'))
              case atStart => exact ⟨(0), (by first | rfl | (simp; done) | (simp [*]; done)), H', ⟨Nat.le_refl _⟩, ⟨by (with_reducible repeat (first | refine blk_drewN ?_ _ | refine blk_drew ?_ | refine blk_alloc ?_ _)); exact BK162.out⟩, ⟨by repeat (first | (with_reducible first | exact HB.out | apply below_alloc | apply pw_below_drewN | apply below_drew1 | refine below_set ?_ GE162.out) | exact HB.out)⟩⟩
              case round =>
                clear H'
                try clear c1
                try clear p1
                try clear q1
                try clear hx1
                try clear c2
                try clear p2
                try clear c5
                try clear c5b0
                try clear p6
                try clear c8
                try clear c8b0
                try clear c8b1
                try clear c15
                try clear c16
                try clear c16b0
                try clear p16
                try clear q16
                try clear hx16
                try clear c17
                try clear c17b0
                try clear c18
                try clear c18b0
                try clear c18b1
                try clear hcz11_0
                try clear hcz11_1
                try clear hcz11_2
                try clear hcz11_3
                try clear hcz11_4
                try clear hcz12_0
                try clear hcz12_1
                try clear hcz12_2
                try clear hcz12_3
                try clear hcz12_4
                try clear hcz14_0
                try clear hcz14_1
                try clear hcz14_2
                try clear hcz14_3
                try clear hcz14_4
                try clear hcz19_0
                try clear hcz19_1
                try clear hcz19_2
                try clear hcz19_3
                try clear hcz19_4
                try clear hcz20_0
                try clear hcz20_1
                try clear hcz20_2
                try clear hcz20_3
                try clear hcz20_4
                try clear hcz21_0
                try clear hcz21_1
                try clear hcz21_2
                try clear hcz21_3
                try clear hcz21_4
                try clear hcz6_0
                try clear hcz6_1
                try clear hcz6_2
                try clear hcz6_3
                try clear hcz6_4
                try clear hcz9_0
                try clear hcz9_1
                try clear hcz9_2
                try clear hcz9_3
                try clear hcz9_4
                try clear hfz11_0
                try clear hfz11_1
                try clear hfz11_2
                try clear hfz11_3
                try clear hfz11_4
                try clear hfz12_0
                try clear hfz12_1
                try clear hfz12_2
                try clear hfz12_3
                try clear hfz12_4
                try clear hfz14_0
                try clear hfz14_1
                try clear hfz14_2
                try clear hfz14_3
                try clear hfz14_4
                try clear hfz19_0
                try clear hfz19_1
                try clear hfz19_2
                try clear hfz19_3
                try clear hfz19_4
                try clear hfz20_0
                try clear hfz20_1
                try clear hfz20_2
                try clear hfz20_3
                try clear hfz20_4
                try clear hfz21_0
                try clear hfz21_1
                try clear hfz21_2
                try clear hfz21_3
                try clear hfz21_4
                try clear hfz6_0
                try clear hfz6_1
                try clear hfz6_2
                try clear hfz6_3
                try clear hfz6_4
                try clear hfz9_0
                try clear hfz9_1
                try clear hfz9_2
                try clear hfz9_3
                try clear hfz9_4
                try clear hx164_0
                try clear p164
                try clear p2
                try clear q164
                try clear BK162
                obtain ⟨x4_3, rfl, HA, HK3, BK162, HB⟩ := hrel
                cases gk with
                | zero => exact absurd HA.out (by simp [munimentref01_Few.l1])
                | succ k3 =>
                  have H := HA.out
                  clear HA
                  simp only [munimentref01_Few.l1] at H
                  by_cases c22 : x4_3 < (l0_4.length : Int)
                  · rw [if_pos c22] at H
                    have c22b0 : decide (x4_3 < (l0_4.length : Int)) = true := decide_eq_true c22
                    clear c22
                    by_cases c23 : 0 ≤ x4_3
                    · rw [if_pos c23] at H
                      have c23b0 : decide (0 ≤ x4_3) = true := decide_eq_true c23
                      clear c23
                      replace H := Option.bind_eq_some_iff.mp H
                      obtain ⟨t166, A240, H⟩ := H
                      replace H : (if t166 = true then (munimentref01_Few.l1 k3 (wrap64 (x4_3 + 1)) a0_0 a0_1 a0_2 l0_3 l0_4) else (some false)) = some r := H
                      have A24 := Aside0.mk A240
                      clear A240
                      by_cases c25 : t166 = true
                      · subst c25
                        have H1 : (munimentref01_Few.l1 k3 (wrap64 (x4_3 + 1)) a0_0 a0_1 a0_2 l0_3 l0_4) = some r := by rw [if_pos rfl] at H; exact H
                        clear H
                        have H := H1
                        clear H1
                        have H' := Aside0.mk H
                        clear H
                        have hcz26_0 : wr.cell? ⟨gb162, 0, none⟩ = some (.int .i64 a0_0) := (blk_cell BK162.out 0).trans rfl
                        have hcz26_1 : wr.cell? ⟨gb162, 1, none⟩ = some (.int .i64 a0_1) := (blk_cell BK162.out 1).trans rfl
                        have hcz26_2 : wr.cell? ⟨gb162, 2, none⟩ = some (.string a0_2) := (blk_cell BK162.out 2).trans rfl
                        have hcz26_3 : wr.cell? ⟨gb162, 3, none⟩ = some (.slice A0_3 l0_3.length c0_3) := (blk_cell BK162.out 3).trans rfl
                        have hcz26_4 : wr.cell? ⟨gb162, 4, none⟩ = some (.slice A0_4 l0_4.length c0_4) := (blk_cell BK162.out 4).trans rfl
                        have hfz26_0 := blk_frozen BK162.out 0
                        have hfz26_1 := blk_frozen BK162.out 1
                        have hfz26_2 := blk_frozen BK162.out 2
                        have hfz26_3 := blk_frozen BK162.out 3
                        have hfz26_4 := blk_frozen BK162.out 4
                        have p165 : 0 ≤ (x4_3 : Int) := of_decide_eq_true (by first | (with_reducible assumption) | assumption)
                        have q165 : x4_3 < (l0_4.length : Int) := of_decide_eq_true (by first | (with_reducible assumption) | assumption)
                        obtain ⟨ad165, A165_3, c165_3, A165_4, c165_4, e165, hx165_0, hx165_1, hx165_2, hx165_3, hx165_4, hl165_3, hi165_3, hl165_4, hi165_4⟩ := at_T25 HR0_4.out x4_3 p165 q165
                        cases e165
                        replace hx165_0 := (HB.out.cell (World.block_lt_of_cell? w _ hx165_0)).trans hx165_0
                        replace hx165_1 := (HB.out.cell (World.block_lt_of_cell? w _ hx165_1)).trans hx165_1
                        replace hx165_2 := (HB.out.cell (World.block_lt_of_cell? w _ hx165_2)).trans hx165_2
                        replace hx165_3 := (HB.out.cell (World.block_lt_of_cell? w _ hx165_3)).trans hx165_3
                        replace hx165_4 := (HB.out.cell (World.block_lt_of_cell? w _ hx165_4)).trans hx165_4
                        have HR165_3 := Aside0.mk hi165_3
                        have HC165_3 := Aside0.mk hl165_3
                        clear hi165_3 hl165_3
                        have HR165_4 := Aside0.mk hi165_4
                        have HC165_4 := Aside0.mk hl165_4
                        clear hi165_4 hl165_4
                        replace p165 := eq_true p165
                        replace q165 := eq_true q165
                        go_wp2_with (first | ((with_reducible refine gate_callee (f := 23) rfl ?_); refine goesL_ (some 46) rfl rfl Tryd.func23 (by kernel_rfl) rfl #[.agg #[.int .i64 ((rd_T25 l0_4 x4_3).f0), .int .i64 ((rd_T25 l0_4 x4_3).f1), .string ((rd_T25 l0_4 x4_3).f2), .slice A165_3 ((rd_T25 l0_4 x4_3).f3).length c165_3, .slice A165_4 ((rd_T25 l0_4 x4_3).f4).length c165_4]] rfl (by (try simp only [List.map_toArray, List.map_cons, List.map_nil]); first | done | rfl | (simp only [List.length_drop, List.length_take]; rfl)) ?_; (with_reducible refine (ih k3 (by have := HJ1.out; have := HK2.out; have := HK3.out; omega) ((rd_T25 l0_4 x4_3).f0) ((rd_T25 l0_4 x4_3).f1) ((rd_T25 l0_4 x4_3).f2) _ _ ((rd_T25 l0_4 x4_3).f3) _ _ ((rd_T25 l0_4 x4_3).f4) true _ ?side1 ?side2 ?side3 ?side4 A24.out).mono ?_); (case side1 => repeat (first | exact (Kd.C_below HR165_3.out HB.out) | (with_reducible refine Kd.C_alloc ?_ _) | (with_reducible refine Kd.C_drewN ?_ _) | (with_reducible refine Kd.C_drew ?_))); (case side2 => exact HC165_3.out); (case side3 => repeat (first | exact (Kd.C_below HR165_4.out HB.out) | (with_reducible refine Kd.C_alloc ?_ _) | (with_reducible refine Kd.C_drewN ?_ _) | (with_reducible refine Kd.C_drew ?_))); (case side4 => exact HC165_4.out); rintro e w27 ⟨rfl, hb⟩; refine ⟨_, rfl, ?_⟩; have n0_ := Aside0.mk (blk_below (g := gb162) (o := .cells #[.int .i64 a0_0, .int .i64 a0_1, .string a0_2, .slice A0_3 l0_3.length c0_3, .slice (some ad165) l0_4.length c0_4] 25 (0, 0)) (by (with_reducible repeat (first | refine blk_drewN ?_ _ | refine blk_drew ?_ | refine blk_alloc ?_ _)); exact BK162.out) hb); have n1_ := Aside0.mk (below_step (by repeat (first | (with_reducible first | exact HB.out | apply below_alloc | apply pw_below_drewN | apply below_drew1 | refine below_set ?_ GE162.out) | exact HB.out)) hb); clear BK162; clear HB; have BK162 := n0_; have HB := n1_; clear n0_ n1_; (try clear hb); (try clear hb2); (try clear hk); (try clear hi)))
                        go_roundg k3
                        case measure => have := HJ1.out; have := HK2.out; have := HK3.out; omega
                        case rel => exact ⟨(wrap64 (x4_3 + 1)), (by first | rfl | (simp; done) | (simp [*]; done)), H', ⟨by have := HJ1.out; have := HK2.out; have := HK3.out; omega⟩, ⟨by (with_reducible repeat (first | refine blk_drewN ?_ _ | refine blk_drew ?_ | refine blk_alloc ?_ _)); exact BK162.out⟩, ⟨by repeat (first | (with_reducible first | exact HB.out | apply below_alloc | apply pw_below_drewN | apply below_drew1 | refine below_set ?_ GE162.out) | exact HB.out)⟩⟩
                      · replace c25 := Bool.eq_false_iff.mpr c25
                        subst c25
                        have H1 : (some false) = some r := by rw [if_neg (show ¬ (false = true) by decide)] at H; exact H
                        clear H
                        have H := H1
                        clear H1
                        obtain rfl := Option.some.inj H
                        have hcz28_0 : wr.cell? ⟨gb162, 0, none⟩ = some (.int .i64 a0_0) := (blk_cell BK162.out 0).trans rfl
                        have hcz28_1 : wr.cell? ⟨gb162, 1, none⟩ = some (.int .i64 a0_1) := (blk_cell BK162.out 1).trans rfl
                        have hcz28_2 : wr.cell? ⟨gb162, 2, none⟩ = some (.string a0_2) := (blk_cell BK162.out 2).trans rfl
                        have hcz28_3 : wr.cell? ⟨gb162, 3, none⟩ = some (.slice A0_3 l0_3.length c0_3) := (blk_cell BK162.out 3).trans rfl
                        have hcz28_4 : wr.cell? ⟨gb162, 4, none⟩ = some (.slice A0_4 l0_4.length c0_4) := (blk_cell BK162.out 4).trans rfl
                        have hfz28_0 := blk_frozen BK162.out 0
                        have hfz28_1 := blk_frozen BK162.out 1
                        have hfz28_2 := blk_frozen BK162.out 2
                        have hfz28_3 := blk_frozen BK162.out 3
                        have hfz28_4 := blk_frozen BK162.out 4
                        have p165 : 0 ≤ (x4_3 : Int) := of_decide_eq_true (by first | (with_reducible assumption) | assumption)
                        have q165 : x4_3 < (l0_4.length : Int) := of_decide_eq_true (by first | (with_reducible assumption) | assumption)
                        obtain ⟨ad165, A165_3, c165_3, A165_4, c165_4, e165, hx165_0, hx165_1, hx165_2, hx165_3, hx165_4, hl165_3, hi165_3, hl165_4, hi165_4⟩ := at_T25 HR0_4.out x4_3 p165 q165
                        cases e165
                        replace hx165_0 := (HB.out.cell (World.block_lt_of_cell? w _ hx165_0)).trans hx165_0
                        replace hx165_1 := (HB.out.cell (World.block_lt_of_cell? w _ hx165_1)).trans hx165_1
                        replace hx165_2 := (HB.out.cell (World.block_lt_of_cell? w _ hx165_2)).trans hx165_2
                        replace hx165_3 := (HB.out.cell (World.block_lt_of_cell? w _ hx165_3)).trans hx165_3
                        replace hx165_4 := (HB.out.cell (World.block_lt_of_cell? w _ hx165_4)).trans hx165_4
                        have HR165_3 := Aside0.mk hi165_3
                        have HC165_3 := Aside0.mk hl165_3
                        clear hi165_3 hl165_3
                        have HR165_4 := Aside0.mk hi165_4
                        have HC165_4 := Aside0.mk hl165_4
                        clear hi165_4 hl165_4
                        replace p165 := eq_true p165
                        replace q165 := eq_true q165
                        go_wp2_with (first | ((with_reducible refine gate_callee (f := 23) rfl ?_); refine goesL_ (some 46) rfl rfl Tryd.func23 (by kernel_rfl) rfl #[.agg #[.int .i64 ((rd_T25 l0_4 x4_3).f0), .int .i64 ((rd_T25 l0_4 x4_3).f1), .string ((rd_T25 l0_4 x4_3).f2), .slice A165_3 ((rd_T25 l0_4 x4_3).f3).length c165_3, .slice A165_4 ((rd_T25 l0_4 x4_3).f4).length c165_4]] rfl (by (try simp only [List.map_toArray, List.map_cons, List.map_nil]); first | done | rfl | (simp only [List.length_drop, List.length_take]; rfl)) ?_; (with_reducible refine (ih k3 (by have := HJ1.out; have := HK2.out; have := HK3.out; omega) ((rd_T25 l0_4 x4_3).f0) ((rd_T25 l0_4 x4_3).f1) ((rd_T25 l0_4 x4_3).f2) _ _ ((rd_T25 l0_4 x4_3).f3) _ _ ((rd_T25 l0_4 x4_3).f4) false _ ?side1 ?side2 ?side3 ?side4 A24.out).mono ?_); (case side1 => repeat (first | exact (Kd.C_below HR165_3.out HB.out) | (with_reducible refine Kd.C_alloc ?_ _) | (with_reducible refine Kd.C_drewN ?_ _) | (with_reducible refine Kd.C_drew ?_))); (case side2 => exact HC165_3.out); (case side3 => repeat (first | exact (Kd.C_below HR165_4.out HB.out) | (with_reducible refine Kd.C_alloc ?_ _) | (with_reducible refine Kd.C_drewN ?_ _) | (with_reducible refine Kd.C_drew ?_))); (case side4 => exact HC165_4.out); rintro e w29 ⟨rfl, hb⟩; refine ⟨_, rfl, ?_⟩; have n0_ := Aside0.mk (blk_below (g := gb162) (o := .cells #[.int .i64 a0_0, .int .i64 a0_1, .string a0_2, .slice A0_3 l0_3.length c0_3, .slice (some ad165) l0_4.length c0_4] 25 (0, 0)) (by (with_reducible repeat (first | refine blk_drewN ?_ _ | refine blk_drew ?_ | refine blk_alloc ?_ _)); exact BK162.out) hb); have n1_ := Aside0.mk (below_step (by repeat (first | (with_reducible first | exact HB.out | apply below_alloc | apply pw_below_drewN | apply below_drew1 | refine below_set ?_ GE162.out) | exact HB.out)) hb); clear BK162; clear HB; have BK162 := n0_; have HB := n1_; clear n0_ n1_; (try clear hb); (try clear hb2); (try clear hk); (try clear hi)))
                        go_ret
                        exact ⟨by first | rfl | (simp [errW_none, errW_some] <;> rfl) | (simp [*, errW_none, errW_some] <;> rfl), by repeat (first | (with_reducible first | exact HB.out | apply below_alloc | apply pw_below_drewN | apply below_drew1 | refine below_set ?_ GE162.out) | exact HB.out)⟩
                    · rw [if_neg c23] at H
                      exact absurd H (by simp)
                  · rw [if_neg c22] at H
                    have c22b0 : decide (x4_3 < (l0_4.length : Int)) = false := decide_eq_false c22
                    clear c22
                    obtain rfl := Option.some.inj H
                    have hcz30_0 : wr.cell? ⟨gb162, 0, none⟩ = some (.int .i64 a0_0) := (blk_cell BK162.out 0).trans rfl
                    have hcz30_1 : wr.cell? ⟨gb162, 1, none⟩ = some (.int .i64 a0_1) := (blk_cell BK162.out 1).trans rfl
                    have hcz30_2 : wr.cell? ⟨gb162, 2, none⟩ = some (.string a0_2) := (blk_cell BK162.out 2).trans rfl
                    have hcz30_3 : wr.cell? ⟨gb162, 3, none⟩ = some (.slice A0_3 l0_3.length c0_3) := (blk_cell BK162.out 3).trans rfl
                    have hcz30_4 : wr.cell? ⟨gb162, 4, none⟩ = some (.slice A0_4 l0_4.length c0_4) := (blk_cell BK162.out 4).trans rfl
                    have hfz30_0 := blk_frozen BK162.out 0
                    have hfz30_1 := blk_frozen BK162.out 1
                    have hfz30_2 := blk_frozen BK162.out 2
                    have hfz30_3 := blk_frozen BK162.out 3
                    have hfz30_4 := blk_frozen BK162.out 4
                    go_wp2
                    go_ret
                    exact ⟨by first | rfl | (simp [errW_none, errW_some] <;> rfl) | (simp [*, errW_none, errW_some] <;> rfl), by repeat (first | (with_reducible first | exact HB.out | apply below_alloc | apply pw_below_drewN | apply below_drew1 | refine below_set ?_ GE162.out) | exact HB.out)⟩
end Go.Proofs.YtmphdmhpfghfkaaDoor.PK
