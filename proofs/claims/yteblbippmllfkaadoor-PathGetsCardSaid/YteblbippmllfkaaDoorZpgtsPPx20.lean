import Derived.Test.YteblbippmllfkaaDoorZpgtsPPx0
import Derived.Test.YteblbippmllfkaaDoorZpgtsPPx19
namespace Go.Proofs.YteblbippmllfkaaDoor.PP
open Go.RowKit Go.Proofs.YteblbippmllfkaaDoorW.PrintWords Go.Proofs.YteblbippmllfkaaDoorW.PrintLast Go.Proofs.YteblbippmllfkaaDoorW.PrintMore
attribute [local go_sem] max2_mx_ min2_mn_ max_two min_two max_three min_three max_four min_four   -- for this text's walks alone
set_option linter.unusedVariables false
set_option linter.unusedSimpArgs false
mutual
def munimentref02_place.j0 : Nat → ByteArray → Int → Int → ByteArray → List ByteArray → List (S30) → Option (Int)
  | 0, _, _, _, _, _, _ => none
  | k + 1, x1, x201000, x201001, x201002, x201003, x201004 => if x201000 = 6 then (munimentref02_place.l0 k x1 0 x201000 x201001 x201002 x201003 x201004) else (some (-1))
def munimentref02_place.l0 : Nat → ByteArray → Int → Int → Int → ByteArray → List ByteArray → List (S30) → Option (Int)
  | 0, _, _, _, _, _, _, _ => none
  | k + 1, x1, x6, x201000, x201001, x201002, x201003, x201004 => if x6 < (x201003.length : Int) then (if 0 ≤ x6 then (if (rdOf ByteArray.empty x201003 x6).toList = x1.toList then (some x6) else (munimentref02_place.l0 k x1 (wrap64 (x6 + 1)) x201000 x201001 x201002 x201003 x201004)) else (none)) else (some (-1))
end
def munimentref02_place.f (k : Nat) (a0_0 : Int) (a0_1 : Int) (a0_2 : ByteArray) (l0_3 : List ByteArray) (l0_4 : List (S30)) (a1 : ByteArray) : Option (Int) := if a0_0 = 5 then ((munimentref02_number.f k a1).bind fun t201 => (if t201 < (l0_4.length : Int) then (some t201) else (munimentref02_place.j0 k a1 a0_0 a0_1 a0_2 l0_3 l0_4))) else (munimentref02_place.j0 k a1 a0_0 a0_1 a0_2 l0_3 l0_4)
set_option maxHeartbeats 8000000 in
set_option maxRecDepth 100000 in
theorem munimentref02_place.calls (k : Nat) (a0_0 : Int) (a0_1 : Int) (a0_2 : ByteArray) (A0_3 : Option Addr) (c0_3 : Nat) (l0_3 : List ByteArray) (A0_4 : Option Addr) (c0_4 : Nat) (l0_4 : List (S30)) (a1 : ByteArray) (r : Int) (w : World) (hr0_3 : Kd.C Kd.string w A0_3 l0_3.length l0_3) (hc0_3 : l0_3.length ≤ c0_3) (hr0_4 : Kd.C k30 w A0_4 l0_4.length l0_4) (hc0_4 : l0_4.length ≤ c0_4) (h : munimentref02_place.f k a0_0 a0_1 a0_2 l0_3 l0_4 a1 = some r) :
    Calls Tryd.prog 24 #[.agg #[.int .i64 a0_0, .int .i64 a0_1, .string a0_2, .slice A0_3 l0_3.length c0_3, .slice A0_4 l0_4.length c0_4], .string a1] w fun e w' => e = .returned (.int .i64 r) ∧ Below w.heap.size w w' := by
  have hu30 := Tryd.underlying30
  have HR0_3 := Aside0.mk hr0_3
  have HC0_3 := Aside0.mk hc0_3
  clear hr0_3 hc0_3
  have HR0_4 := Aside0.mk hr0_4
  have HC0_4 := Aside0.mk hc0_4
  clear hr0_4 hc0_4
  have HB := Aside0.mk (Below.refl w.heap.size w)
  have H : (if a0_0 = 5 then ((munimentref02_number.f k a1).bind fun t201 => (if t201 < (l0_4.length : Int) then (some t201) else (munimentref02_place.j0 k a1 a0_0 a0_1 a0_2 l0_3 l0_4))) else (munimentref02_place.j0 k a1 a0_0 a0_1 a0_2 l0_3 l0_4)) = some r := h
  clear h
  have HC3 := Aside0.mk H
  clear H
  go_enter Tryd.func24, Tryd.ntmps24
  go_upto_if 9 with (first | ((with_reducible refine gate_dst (N := 2) rfl ?_); refine box_event ?hg (N := 2) ?hd (cs := #[.int .i64 a0_0, .int .i64 a0_1, .string a0_2, .slice A0_3 l0_3.length c0_3, .slice A0_4 l0_4.length c0_4]) (t := 30) ?hr ?_; (case hd => rfl); (case hg => rfl); (case hr => first | (go_simp; done) | (go_simp; rfl)); intro gb200 hg w4 hbox hb; have n0_ := Aside0.mk (below_step (by repeat (first | (with_reducible first | exact HB.out | apply below_alloc | apply pw_below_drewN | apply below_drew1) | exact HB.out)) hb); have n1_ := Aside0.mk (hbox); have n2_ := Aside0.mk ((by rw [hg]; exact (below_size (by repeat (first | (with_reducible first | exact HB.out | apply below_alloc | apply pw_below_drewN | apply below_drew1) | exact HB.out))) : w.heap.size ≤ gb200)); have n3_ := Aside0.mk ((by rw [hg]; exact (below_size (by repeat (first | (with_reducible first | exact HB.out | apply below_alloc | apply pw_below_drewN | apply below_drew1) | exact HB.out))) : w.heap.size ≤ gb200)); clear HB; have HB := n0_; have BK200 := n1_; have GW200 := n2_; have GE200 := n3_; clear n0_ n1_ n2_ n3_; clear hb hbox hg; have hcz5_0 : w4.cell? ⟨gb200, 0, none⟩ = some (.int .i64 a0_0) := (blk_cell BK200.out 0).trans rfl; have hcz5_1 : w4.cell? ⟨gb200, 1, none⟩ = some (.int .i64 a0_1) := (blk_cell BK200.out 1).trans rfl; have hcz5_2 : w4.cell? ⟨gb200, 2, none⟩ = some (.string a0_2) := (blk_cell BK200.out 2).trans rfl; have hcz5_3 : w4.cell? ⟨gb200, 3, none⟩ = some (.slice A0_3 l0_3.length c0_3) := (blk_cell BK200.out 3).trans rfl; have hcz5_4 : w4.cell? ⟨gb200, 4, none⟩ = some (.slice A0_4 l0_4.length c0_4) := (blk_cell BK200.out 4).trans rfl; have hfz5_0 := blk_frozen BK200.out 0; have hfz5_1 := blk_frozen BK200.out 1; have hfz5_2 := blk_frozen BK200.out 2; have hfz5_3 := blk_frozen BK200.out 3; have hfz5_4 := blk_frozen BK200.out 4))
  (try simp only [Act.put, List.setIfInBounds_toArray, List.set_cons_zero, List.set_cons_succ])
  go_cut [] (fun wc => ∃ (kq : Nat), Aside0 (munimentref02_place.j0 kq a1 a0_0 a0_1 a0_2 l0_3 l0_4 = some r) ∧ Aside0 (kq ≤ k) ∧ Aside0 (wc.heap[gb200]? = some (.cells #[.int .i64 a0_0, .int .i64 a0_1, .string a0_2, (.slice A0_3 l0_3.length c0_3), (.slice A0_4 l0_4.length c0_4)] 30 (0, 0))) ∧ Aside0 (Below w.heap.size w wc))
  case first =>
    have H := HC3.out
    clear HC3
    by_cases c6 : a0_0 = 5
    · rw [if_pos c6] at H
      have c6b0 : (a0_0 == 5) = true := beq_iff_eq.mpr c6
      have c6b1 : (a0_0 != 5) = false := bne_eq_false_iff_eq.mpr c6
      clear c6
      (first | rw [c6b0] | (simp only [i64_w, i32_w]; rw [c6b0]) | skip)
      replace H := Option.bind_eq_some_iff.mp H
      obtain ⟨t201, A70, H⟩ := H
      replace H : (if t201 < (l0_4.length : Int) then (some t201) else (munimentref02_place.j0 k a1 a0_0 a0_1 a0_2 l0_3 l0_4)) = some r := H
      have A7 := Aside0.mk A70
      clear A70
      by_cases c8 : t201 < (l0_4.length : Int)
      · rw [if_pos c8] at H
        have c8b0 : decide (t201 < (l0_4.length : Int)) = true := decide_eq_true c8
        clear c8
        obtain rfl := Option.some.inj H
        go_wp2_with (first | ((with_reducible refine gate_callee (f := 34) rfl ?_); refine goesL_ (some 11) rfl rfl Tryd.func34 (by kernel_rfl) rfl #[.string a1] rfl (by (try simp only [List.map_toArray, List.map_cons, List.map_nil]); first | done | rfl | (simp only [List.length_drop, List.length_take]; rfl)) ?_; (with_reducible refine (munimentref02_number.calls k a1 t201 _ A7.out).mono ?_); rintro e w' ⟨rfl, ⟨nd, rfl⟩⟩; refine ⟨_, rfl, ?_⟩; have hcz9_0 : w4.cell? ⟨gb200, 0, none⟩ = some (.int .i64 a0_0) := (blk_cell BK200.out 0).trans rfl; have hcz9_1 : w4.cell? ⟨gb200, 1, none⟩ = some (.int .i64 a0_1) := (blk_cell BK200.out 1).trans rfl; have hcz9_2 : w4.cell? ⟨gb200, 2, none⟩ = some (.string a0_2) := (blk_cell BK200.out 2).trans rfl; have hcz9_3 : w4.cell? ⟨gb200, 3, none⟩ = some (.slice A0_3 l0_3.length c0_3) := (blk_cell BK200.out 3).trans rfl; have hcz9_4 : w4.cell? ⟨gb200, 4, none⟩ = some (.slice A0_4 l0_4.length c0_4) := (blk_cell BK200.out 4).trans rfl; have hfz9_0 := blk_frozen BK200.out 0; have hfz9_1 := blk_frozen BK200.out 1; have hfz9_2 := blk_frozen BK200.out 2; have hfz9_3 := blk_frozen BK200.out 3; have hfz9_4 := blk_frozen BK200.out 4))
        go_ret
        exact ⟨by first | rfl | (simp [errW_none, errW_some] <;> rfl) | (simp [*, errW_none, errW_some] <;> rfl), by repeat (first | (with_reducible first | exact HB.out | apply below_alloc | apply pw_below_drewN | apply below_drew1 | refine below_set ?_ GE200.out) | exact HB.out)⟩
      · rw [if_neg c8] at H
        have c8b0 : decide (t201 < (l0_4.length : Int)) = false := decide_eq_false c8
        clear c8
        have H' := Aside0.mk H
        clear H
        go_wp2_with (first | ((with_reducible refine gate_callee (f := 34) rfl ?_); refine goesL_ (some 11) rfl rfl Tryd.func34 (by kernel_rfl) rfl #[.string a1] rfl (by (try simp only [List.map_toArray, List.map_cons, List.map_nil]); first | done | rfl | (simp only [List.length_drop, List.length_take]; rfl)) ?_; (with_reducible refine (munimentref02_number.calls k a1 t201 _ A7.out).mono ?_); rintro e w' ⟨rfl, ⟨nd, rfl⟩⟩; refine ⟨_, rfl, ?_⟩; have hcz10_0 : w4.cell? ⟨gb200, 0, none⟩ = some (.int .i64 a0_0) := (blk_cell BK200.out 0).trans rfl; have hcz10_1 : w4.cell? ⟨gb200, 1, none⟩ = some (.int .i64 a0_1) := (blk_cell BK200.out 1).trans rfl; have hcz10_2 : w4.cell? ⟨gb200, 2, none⟩ = some (.string a0_2) := (blk_cell BK200.out 2).trans rfl; have hcz10_3 : w4.cell? ⟨gb200, 3, none⟩ = some (.slice A0_3 l0_3.length c0_3) := (blk_cell BK200.out 3).trans rfl; have hcz10_4 : w4.cell? ⟨gb200, 4, none⟩ = some (.slice A0_4 l0_4.length c0_4) := (blk_cell BK200.out 4).trans rfl; have hfz10_0 := blk_frozen BK200.out 0; have hfz10_1 := blk_frozen BK200.out 1; have hfz10_2 := blk_frozen BK200.out 2; have hfz10_3 := blk_frozen BK200.out 3; have hfz10_4 := blk_frozen BK200.out 4))
        go_meet
        case rel => exact ⟨_, H', ⟨by first | omega | exact Nat.le_refl _⟩, ⟨by (with_reducible repeat (first | refine blk_drewN ?_ _ | refine blk_drew ?_ | refine blk_alloc ?_ _)); exact BK200.out⟩, ⟨by repeat (first | (with_reducible first | exact HB.out | apply below_alloc | apply pw_below_drewN | apply below_drew1 | refine below_set ?_ GE200.out) | exact HB.out)⟩⟩
    · rw [if_neg c6] at H
      have c6b0 : (a0_0 == 5) = false := beq_eq_false_iff_ne.mpr c6
      have c6b1 : (a0_0 != 5) = true := bne_iff_ne.mpr c6
      (first | rw [c6b0] | (simp only [i64_w, i32_w]; rw [c6b0]) | skip)
      have H' := Aside0.mk H
      clear H
      go_wp2
      go_meet
      case rel => exact ⟨_, H', ⟨by first | omega | exact Nat.le_refl _⟩, ⟨by (with_reducible repeat (first | refine blk_drewN ?_ _ | refine blk_drew ?_ | refine blk_alloc ?_ _)); exact BK200.out⟩, ⟨by repeat (first | (with_reducible first | exact HB.out | apply below_alloc | apply pw_below_drewN | apply below_drew1 | refine below_set ?_ GE200.out) | exact HB.out)⟩⟩
  case rest =>
    clear HC3
    try clear c2
    try clear p2
    try clear c3
    try clear c6
    try clear c6b0
    try clear c6b1
    try clear c8
    try clear c8b0
    try clear hcz10_0
    try clear hcz10_1
    try clear hcz10_2
    try clear hcz10_3
    try clear hcz10_4
    try clear hcz5_0
    try clear hcz5_1
    try clear hcz5_2
    try clear hcz5_3
    try clear hcz5_4
    try clear hcz9_0
    try clear hcz9_1
    try clear hcz9_2
    try clear hcz9_3
    try clear hcz9_4
    try clear hfz10_0
    try clear hfz10_1
    try clear hfz10_2
    try clear hfz10_3
    try clear hfz10_4
    try clear hfz5_0
    try clear hfz5_1
    try clear hfz5_2
    try clear hfz5_3
    try clear hfz5_4
    try clear hfz9_0
    try clear hfz9_1
    try clear hfz9_2
    try clear hfz9_3
    try clear hfz9_4
    obtain ⟨kq, HA, HJ2, BK200, HB⟩ := hcut
    cases kq with
    | zero => exact absurd HA.out (by simp [munimentref02_place.j0])
    | succ kj2 =>
      have H := HA.out
      clear HA
      simp only [munimentref02_place.j0] at H
      by_cases c11 : a0_0 = 6
      · rw [if_pos c11] at H
        have c11b0 : (a0_0 == 6) = true := beq_iff_eq.mpr c11
        have c11b1 : (a0_0 != 6) = false := bne_eq_false_iff_eq.mpr c11
        clear c11
        have H' := Aside0.mk H
        clear H
        have hcz12_0 : wc.cell? ⟨gb200, 0, none⟩ = some (.int .i64 a0_0) := (blk_cell BK200.out 0).trans rfl
        have hcz12_1 : wc.cell? ⟨gb200, 1, none⟩ = some (.int .i64 a0_1) := (blk_cell BK200.out 1).trans rfl
        have hcz12_2 : wc.cell? ⟨gb200, 2, none⟩ = some (.string a0_2) := (blk_cell BK200.out 2).trans rfl
        have hcz12_3 : wc.cell? ⟨gb200, 3, none⟩ = some (.slice A0_3 l0_3.length c0_3) := (blk_cell BK200.out 3).trans rfl
        have hcz12_4 : wc.cell? ⟨gb200, 4, none⟩ = some (.slice A0_4 l0_4.length c0_4) := (blk_cell BK200.out 4).trans rfl
        have hfz12_0 := blk_frozen BK200.out 0
        have hfz12_1 := blk_frozen BK200.out 1
        have hfz12_2 := blk_frozen BK200.out 2
        have hfz12_3 := blk_frozen BK200.out 3
        have hfz12_4 := blk_frozen BK200.out 4
        go_wp2
        go_loopg [6] kj2 (fun kq v6 w' => ∃ (x6_2 : Int), v6 = .int .i64 x6_2 ∧ Aside0 (munimentref02_place.l0 kq a1 x6_2 a0_0 a0_1 a0_2 l0_3 l0_4 = some r) ∧ Aside0 (kq ≤ kj2) ∧ Aside0 (w'.heap[gb200]? = some (.cells #[.int .i64 a0_0, .int .i64 a0_1, .string a0_2, (.slice A0_3 l0_3.length c0_3), (.slice A0_4 l0_4.length c0_4)] 30 (0, 0))) ∧ Aside0 (Below w.heap.size w w'))
        case atStart => exact ⟨(0), (by first | rfl | (simp; done) | (simp [*]; done)), H', ⟨Nat.le_refl _⟩, ⟨by (with_reducible repeat (first | refine blk_drewN ?_ _ | refine blk_drew ?_ | refine blk_alloc ?_ _)); exact BK200.out⟩, ⟨by repeat (first | (with_reducible first | exact HB.out | apply below_alloc | apply pw_below_drewN | apply below_drew1 | refine below_set ?_ GE200.out) | exact HB.out)⟩⟩
        case round =>
          clear H'
          try clear c1
          try clear c2
          try clear p2
          try clear c3
          try clear c6
          try clear c6b0
          try clear c6b1
          try clear c8
          try clear c8b0
          try clear c11
          try clear c11b0
          try clear c11b1
          try clear hcz10_0
          try clear hcz10_1
          try clear hcz10_2
          try clear hcz10_3
          try clear hcz10_4
          try clear hcz12_0
          try clear hcz12_1
          try clear hcz12_2
          try clear hcz12_3
          try clear hcz12_4
          try clear hcz5_0
          try clear hcz5_1
          try clear hcz5_2
          try clear hcz5_3
          try clear hcz5_4
          try clear hcz9_0
          try clear hcz9_1
          try clear hcz9_2
          try clear hcz9_3
          try clear hcz9_4
          try clear hfz10_0
          try clear hfz10_1
          try clear hfz10_2
          try clear hfz10_3
          try clear hfz10_4
          try clear hfz12_0
          try clear hfz12_1
          try clear hfz12_2
          try clear hfz12_3
          try clear hfz12_4
          try clear hfz5_0
          try clear hfz5_1
          try clear hfz5_2
          try clear hfz5_3
          try clear hfz5_4
          try clear hfz9_0
          try clear hfz9_1
          try clear hfz9_2
          try clear hfz9_3
          try clear hfz9_4
          try clear p2
          try clear BK200
          obtain ⟨x6_2, rfl, HA, HK2, BK200, HB⟩ := hrel
          cases gk with
          | zero => exact absurd HA.out (by simp [munimentref02_place.l0])
          | succ k2 =>
            have H := HA.out
            clear HA
            simp only [munimentref02_place.l0] at H
            by_cases c13 : x6_2 < (l0_3.length : Int)
            · rw [if_pos c13] at H
              have c13b0 : decide (x6_2 < (l0_3.length : Int)) = true := decide_eq_true c13
              clear c13
              by_cases c14 : 0 ≤ x6_2
              · rw [if_pos c14] at H
                have c14b0 : decide (0 ≤ x6_2) = true := decide_eq_true c14
                clear c14
                by_cases c15 : (rdOf ByteArray.empty l0_3 x6_2).toList = a1.toList
                · rw [if_pos c15] at H
                  have c15b0 : ((rdOf ByteArray.empty l0_3 x6_2).toList == a1.toList) = true := beq_iff_eq.mpr c15
                  have c15b1 : ((rdOf ByteArray.empty l0_3 x6_2).toList != a1.toList) = false := bne_eq_false_iff_eq.mpr c15
                  clear c15
                  obtain rfl := Option.some.inj H
                  have hcz16_0 : wr.cell? ⟨gb200, 0, none⟩ = some (.int .i64 a0_0) := (blk_cell BK200.out 0).trans rfl
                  have hcz16_1 : wr.cell? ⟨gb200, 1, none⟩ = some (.int .i64 a0_1) := (blk_cell BK200.out 1).trans rfl
                  have hcz16_2 : wr.cell? ⟨gb200, 2, none⟩ = some (.string a0_2) := (blk_cell BK200.out 2).trans rfl
                  have hcz16_3 : wr.cell? ⟨gb200, 3, none⟩ = some (.slice A0_3 l0_3.length c0_3) := (blk_cell BK200.out 3).trans rfl
                  have hcz16_4 : wr.cell? ⟨gb200, 4, none⟩ = some (.slice A0_4 l0_4.length c0_4) := (blk_cell BK200.out 4).trans rfl
                  have hfz16_0 := blk_frozen BK200.out 0
                  have hfz16_1 := blk_frozen BK200.out 1
                  have hfz16_2 := blk_frozen BK200.out 2
                  have hfz16_3 := blk_frozen BK200.out 3
                  have hfz16_4 := blk_frozen BK200.out 4
                  have p202 : 0 ≤ (x6_2 : Int) := of_decide_eq_true (by first | (with_reducible assumption) | assumption)
                  have q202 : x6_2 < (l0_3.length : Int) := of_decide_eq_true (by first | (with_reducible assumption) | assumption)
                  obtain ⟨ad202, e202, hx202_0⟩ := Kd.at_string HR0_3.out x6_2 p202 q202
                  cases e202
                  replace hx202_0 := (HB.out.cell (World.block_lt_of_cell? w _ hx202_0)).trans hx202_0
                  replace p202 := eq_true p202
                  replace q202 := eq_true q202
                  go_wp2
                  go_ret
                  exact ⟨by first | rfl | (simp [errW_none, errW_some] <;> rfl) | (simp [*, errW_none, errW_some] <;> rfl), by repeat (first | (with_reducible first | exact HB.out | apply below_alloc | apply pw_below_drewN | apply below_drew1 | refine below_set ?_ GE200.out) | exact HB.out)⟩
                · rw [if_neg c15] at H
                  have c15b0 : ((rdOf ByteArray.empty l0_3 x6_2).toList == a1.toList) = false := beq_eq_false_iff_ne.mpr c15
                  have c15b1 : ((rdOf ByteArray.empty l0_3 x6_2).toList != a1.toList) = true := bne_iff_ne.mpr c15
                  have H' := Aside0.mk H
                  clear H
                  have hcz17_0 : wr.cell? ⟨gb200, 0, none⟩ = some (.int .i64 a0_0) := (blk_cell BK200.out 0).trans rfl
                  have hcz17_1 : wr.cell? ⟨gb200, 1, none⟩ = some (.int .i64 a0_1) := (blk_cell BK200.out 1).trans rfl
                  have hcz17_2 : wr.cell? ⟨gb200, 2, none⟩ = some (.string a0_2) := (blk_cell BK200.out 2).trans rfl
                  have hcz17_3 : wr.cell? ⟨gb200, 3, none⟩ = some (.slice A0_3 l0_3.length c0_3) := (blk_cell BK200.out 3).trans rfl
                  have hcz17_4 : wr.cell? ⟨gb200, 4, none⟩ = some (.slice A0_4 l0_4.length c0_4) := (blk_cell BK200.out 4).trans rfl
                  have hfz17_0 := blk_frozen BK200.out 0
                  have hfz17_1 := blk_frozen BK200.out 1
                  have hfz17_2 := blk_frozen BK200.out 2
                  have hfz17_3 := blk_frozen BK200.out 3
                  have hfz17_4 := blk_frozen BK200.out 4
                  have p202 : 0 ≤ (x6_2 : Int) := of_decide_eq_true (by first | (with_reducible assumption) | assumption)
                  have q202 : x6_2 < (l0_3.length : Int) := of_decide_eq_true (by first | (with_reducible assumption) | assumption)
                  obtain ⟨ad202, e202, hx202_0⟩ := Kd.at_string HR0_3.out x6_2 p202 q202
                  cases e202
                  replace hx202_0 := (HB.out.cell (World.block_lt_of_cell? w _ hx202_0)).trans hx202_0
                  replace p202 := eq_true p202
                  replace q202 := eq_true q202
                  go_wp2
                  go_roundg k2
                  case measure => have := HJ2.out; have := HK2.out; omega
                  case rel => exact ⟨(wrap64 (x6_2 + 1)), (by first | rfl | (simp; done) | (simp [*]; done)), H', ⟨by have := HJ2.out; have := HK2.out; omega⟩, ⟨by (with_reducible repeat (first | refine blk_drewN ?_ _ | refine blk_drew ?_ | refine blk_alloc ?_ _)); exact BK200.out⟩, ⟨by repeat (first | (with_reducible first | exact HB.out | apply below_alloc | apply pw_below_drewN | apply below_drew1 | refine below_set ?_ GE200.out) | exact HB.out)⟩⟩
              · rw [if_neg c14] at H
                exact absurd H (by simp)
            · rw [if_neg c13] at H
              have c13b0 : decide (x6_2 < (l0_3.length : Int)) = false := decide_eq_false c13
              clear c13
              obtain rfl := Option.some.inj H
              have hcz18_0 : wr.cell? ⟨gb200, 0, none⟩ = some (.int .i64 a0_0) := (blk_cell BK200.out 0).trans rfl
              have hcz18_1 : wr.cell? ⟨gb200, 1, none⟩ = some (.int .i64 a0_1) := (blk_cell BK200.out 1).trans rfl
              have hcz18_2 : wr.cell? ⟨gb200, 2, none⟩ = some (.string a0_2) := (blk_cell BK200.out 2).trans rfl
              have hcz18_3 : wr.cell? ⟨gb200, 3, none⟩ = some (.slice A0_3 l0_3.length c0_3) := (blk_cell BK200.out 3).trans rfl
              have hcz18_4 : wr.cell? ⟨gb200, 4, none⟩ = some (.slice A0_4 l0_4.length c0_4) := (blk_cell BK200.out 4).trans rfl
              have hfz18_0 := blk_frozen BK200.out 0
              have hfz18_1 := blk_frozen BK200.out 1
              have hfz18_2 := blk_frozen BK200.out 2
              have hfz18_3 := blk_frozen BK200.out 3
              have hfz18_4 := blk_frozen BK200.out 4
              go_wp2
              go_ret
              exact ⟨by first | rfl | (simp [errW_none, errW_some] <;> rfl) | (simp [*, errW_none, errW_some] <;> rfl), by repeat (first | (with_reducible first | exact HB.out | apply below_alloc | apply pw_below_drewN | apply below_drew1 | refine below_set ?_ GE200.out) | exact HB.out)⟩
      · rw [if_neg c11] at H
        have c11b0 : (a0_0 == 6) = false := beq_eq_false_iff_ne.mpr c11
        have c11b1 : (a0_0 != 6) = true := bne_iff_ne.mpr c11
        obtain rfl := Option.some.inj H
        have hcz19_0 : wc.cell? ⟨gb200, 0, none⟩ = some (.int .i64 a0_0) := (blk_cell BK200.out 0).trans rfl
        have hcz19_1 : wc.cell? ⟨gb200, 1, none⟩ = some (.int .i64 a0_1) := (blk_cell BK200.out 1).trans rfl
        have hcz19_2 : wc.cell? ⟨gb200, 2, none⟩ = some (.string a0_2) := (blk_cell BK200.out 2).trans rfl
        have hcz19_3 : wc.cell? ⟨gb200, 3, none⟩ = some (.slice A0_3 l0_3.length c0_3) := (blk_cell BK200.out 3).trans rfl
        have hcz19_4 : wc.cell? ⟨gb200, 4, none⟩ = some (.slice A0_4 l0_4.length c0_4) := (blk_cell BK200.out 4).trans rfl
        have hfz19_0 := blk_frozen BK200.out 0
        have hfz19_1 := blk_frozen BK200.out 1
        have hfz19_2 := blk_frozen BK200.out 2
        have hfz19_3 := blk_frozen BK200.out 3
        have hfz19_4 := blk_frozen BK200.out 4
        go_wp2
        go_ret
        exact ⟨by first | rfl | (simp [errW_none, errW_some] <;> rfl) | (simp [*, errW_none, errW_some] <;> rfl), by repeat (first | (with_reducible first | exact HB.out | apply below_alloc | apply pw_below_drewN | apply below_drew1 | refine below_set ?_ GE200.out) | exact HB.out)⟩
end Go.Proofs.YteblbippmllfkaaDoor.PP
