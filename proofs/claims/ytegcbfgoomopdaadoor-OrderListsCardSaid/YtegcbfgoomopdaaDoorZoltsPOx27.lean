import Derived.Test.YtegcbfgoomopdaaDoorZoltsPOx0
import Derived.Test.YtegcbfgoomopdaaDoorZoltsPOx7
namespace Go.Proofs.YtegcbfgoomopdaaDoor.PO
open Go.RowKit Go.Proofs.YtegcbfgoomopdaaDoorW.PrintWords Go.Proofs.YtegcbfgoomopdaaDoorW.PrintLast Go.Proofs.YtegcbfgoomopdaaDoorW.PrintMore
attribute [local go_sem] max2_mx_ min2_mn_ max_two min_two max_three min_three max_four min_four   -- for this text's walks alone
set_option linter.unusedVariables false
set_option linter.unusedSimpArgs false
mutual
def munimentlaw03_OrderLists.j0 : Nat → List Int → List Int → Bool → Option (Bool)
  | 0, _, _, _ => none
  | k + 1, x0, x1, x22 => if x22 = true then ((munimentlaw03_awake.f k).bind fun t284 => (some t284)) else (munimentlaw03_OrderLists.l0 k x0 x1 0 5 0 (⟨#[]⟩ : ByteArray) ([] : List (S30)) 5 0 (⟨#[]⟩ : ByteArray))
def munimentlaw03_OrderLists.l0 : Nat → List Int → List Int → Int → Int → Int → ByteArray → List (S30) → Int → Int → ByteArray → Option (Bool)
  | 0, _, _, _, _, _, _, _, _, _, _ => none
  | k + 1, x0, x1, x7, x286000, x286001, x286002, x286004, x287000, x287001, x287002 => if x7 < (x0.length : Int) then (if 0 ≤ x7 then (if x286004.length < 1759218604441 then (munimentlaw03_OrderLists.l0 k x0 x1 (wrap64 (x7 + 1)) x286000 x286001 x286002 (x286004 ++ [(⟨3, rd x0 x7, (⟨#[]⟩ : ByteArray), ([] : List ByteArray), ([] : List (S30))⟩ : S30)]) x287000 x287001 x287002) else (none)) else (none)) else (munimentlaw03_OrderLists.l1 k x0 x1 0 x286000 x286001 x286002 x286004 x287000 x287001 x287002 ([] : List (S30)))
def munimentlaw03_OrderLists.l1 : Nat → List Int → List Int → Int → Int → Int → ByteArray → List (S30) → Int → Int → ByteArray → List (S30) → Option (Bool)
  | 0, _, _, _, _, _, _, _, _, _, _, _ => none
  | k + 1, x0, x1, x8, x286000, x286001, x286002, x286004, x287000, x287001, x287002, x287004 => if x8 < (x1.length : Int) then (if 0 ≤ x8 then (if x287004.length < 1759218604441 then (munimentlaw03_OrderLists.l1 k x0 x1 (wrap64 (x8 + 1)) x286000 x286001 x286002 x286004 x287000 x287001 x287002 (x287004 ++ [(⟨3, rd x1 x8, (⟨#[]⟩ : ByteArray), ([] : List ByteArray), ([] : List (S30))⟩ : S30)])) else (none)) else (none)) else (munimentlaw03_OrderLists.l2 k x0 x1 0 0 x286000 x286001 x286002 x286004 x287000 x287001 x287002 x287004)
def munimentlaw03_OrderLists.l2 : Nat → List Int → List Int → Int → Int → Int → Int → ByteArray → List (S30) → Int → Int → ByteArray → List (S30) → Option (Bool)
  | 0, _, _, _, _, _, _, _, _, _, _, _, _ => none
  | k + 1, x0, x1, x9, x10, x286000, x286001, x286002, x286004, x287000, x287001, x287002, x287004 => if x10 < (x0.length : Int) then (if x10 < (x1.length : Int) then (munimentlaw03_OrderLists.j4 k x0 x1 x9 x10 (x9 == 0) x286000 x286001 x286002 x286004 x287000 x287001 x287002 x287004) else (munimentlaw03_OrderLists.j4 k x0 x1 x9 x10 false x286000 x286001 x286002 x286004 x287000 x287001 x287002 x287004)) else (munimentlaw03_OrderLists.j4 k x0 x1 x9 x10 false x286000 x286001 x286002 x286004 x287000 x287001 x287002 x287004)
def munimentlaw03_OrderLists.j4 : Nat → List Int → List Int → Int → Int → Bool → Int → Int → ByteArray → List (S30) → Int → Int → ByteArray → List (S30) → Option (Bool)
  | 0, _, _, _, _, _, _, _, _, _, _, _, _, _ => none
  | k + 1, x0, x1, x9, x10, x71, x286000, x286001, x286002, x286004, x287000, x287001, x287002, x287004 => if x71 = true then (if 0 ≤ x10 then (if x10 < (x0.length : Int) then (if x10 < (x1.length : Int) then (if (rd x0 x10) < (rd x1 x10) then (munimentlaw03_OrderLists.l2 k x0 x1 (-1) (wrap64 (x10 + 1)) x286000 x286001 x286002 x286004 x287000 x287001 x287002 x287004) else (if (rd x0 x10) > (rd x1 x10) then (munimentlaw03_OrderLists.l2 k x0 x1 1 (wrap64 (x10 + 1)) x286000 x286001 x286002 x286004 x287000 x287001 x287002 x287004) else (munimentlaw03_OrderLists.l2 k x0 x1 x9 (wrap64 (x10 + 1)) x286000 x286001 x286002 x286004 x287000 x287001 x287002 x287004))) else (none)) else (none)) else (none)) else (if x9 = 0 then (munimentlaw03_OrderLists.j5 k x0 x1 x9 (decide ((x0.length : Int) < (x1.length : Int))) x286000 x286001 x286002 x286004 x287000 x287001 x287002 x287004) else (munimentlaw03_OrderLists.j5 k x0 x1 x9 false x286000 x286001 x286002 x286004 x287000 x287001 x287002 x287004))
def munimentlaw03_OrderLists.j5 : Nat → List Int → List Int → Int → Bool → Int → Int → ByteArray → List (S30) → Int → Int → ByteArray → List (S30) → Option (Bool)
  | 0, _, _, _, _, _, _, _, _, _, _, _, _ => none
  | k + 1, x0, x1, x9, x100, x286000, x286001, x286002, x286004, x287000, x287001, x287002, x287004 => if x100 = true then ((order_Compare.f k x286000 x286001 x286002 ([] : List ByteArray) x286004 x287000 x287001 x287002 ([] : List ByteArray) x287004).bind fun t299 => (some (t299 == (-1)))) else (if x9 = 0 then (if (x0.length : Int) > (x1.length : Int) then ((order_Compare.f k x286000 x286001 x286002 ([] : List ByteArray) x286004 x287000 x287001 x287002 ([] : List ByteArray) x287004).bind fun t300 => (some (t300 == 1))) else ((order_Compare.f k x286000 x286001 x286002 ([] : List ByteArray) x286004 x287000 x287001 x287002 ([] : List ByteArray) x287004).bind fun t301 => (some (t301 == x9)))) else ((order_Compare.f k x286000 x286001 x286002 ([] : List ByteArray) x286004 x287000 x287001 x287002 ([] : List ByteArray) x287004).bind fun t302 => (some (t302 == x9))))
end
def munimentlaw03_OrderLists.f (k : Nat) (l0 : List Int) (l1 : List Int) : Option (Bool) := (munimentlaw03_awake.f k).bind fun t283 => (if t283 = true then (if (l0.length : Int) > 24 then (munimentlaw03_OrderLists.j0 k l0 l1 true) else (munimentlaw03_OrderLists.j0 k l0 l1 (decide ((l1.length : Int) > 24)))) else (munimentlaw03_OrderLists.j0 k l0 l1 true))
def munimentlaw03_OrderLists.T7 : Bool × List (List Nat × List Nat) := (true, [([], []), ([0], [0]), ([], []), ([], []), ([2, 3], [2, 3]), ([4], [4]), ([5], [5]), ([6], [6]), ([1, 7], [1, 7]), ([0, 1, 2, 3, 4, 5, 6, 7, 8], []), ([9, 8, 8, 0, 1, 2, 3, 4, 5, 6, 7, 8], [8, 9])])
def munimentlaw03_OrderLists.B7 : List Nat := [0, 1, 0, 0, 12, 28, 60, 124, 255, 511, 1023]
theorem munimentlaw03_OrderLists.tab7 : rtab .any (opsOf Tryd.f8 7) = munimentlaw03_OrderLists.T7 := by kernel_rfl
theorem munimentlaw03_OrderLists.bits7 : waitsOk munimentlaw03_OrderLists.T7.2 munimentlaw03_OrderLists.B7 = true := by kernel_rfl
def munimentlaw03_OrderLists.T11 : Bool × List (List Nat × List Nat) := (true, [([], []), ([0], [0]), ([], []), ([], []), ([2, 3], [2, 3]), ([4], [4]), ([5], [5]), ([6], [6]), ([1, 7], [1, 7]), ([0, 1, 2, 3, 4, 5, 6, 7, 8], []), ([9, 8, 8, 0, 1, 2, 3, 4, 5, 6, 7, 8], [8, 9])])
def munimentlaw03_OrderLists.B11 : List Nat := [0, 1, 0, 0, 12, 28, 60, 124, 255, 511, 1023]
theorem munimentlaw03_OrderLists.tab11 : rtab .any (opsOf Tryd.f8 11) = munimentlaw03_OrderLists.T11 := by kernel_rfl
theorem munimentlaw03_OrderLists.bits11 : waitsOk munimentlaw03_OrderLists.T11.2 munimentlaw03_OrderLists.B11 = true := by kernel_rfl
def munimentlaw03_OrderLists.T16 : Bool × List (List Nat × List Nat) := (true, [([], []), ([], []), ([0, 1], [0, 1]), ([2], [2]), ([], []), ([], []), ([4, 5], [4, 5]), ([6], [6]), ([3, 7], [3, 7])])
def munimentlaw03_OrderLists.B16 : List Nat := [0, 0, 3, 7, 0, 0, 48, 112, 255]
theorem munimentlaw03_OrderLists.tab16 : rtab .any (opsOf Tryd.f8 16) = munimentlaw03_OrderLists.T16 := by kernel_rfl
theorem munimentlaw03_OrderLists.bits16 : waitsOk munimentlaw03_OrderLists.T16.2 munimentlaw03_OrderLists.B16 = true := by kernel_rfl
def munimentlaw03_OrderLists.T18 : Bool × List (List Nat × List Nat) := (true, [([], []), ([], []), ([0, 1], [0, 1]), ([2], [2]), ([], []), ([], []), ([4, 5], [4, 5]), ([6], [6]), ([3, 7], [3, 7])])
def munimentlaw03_OrderLists.B18 : List Nat := [0, 0, 3, 7, 0, 0, 48, 112, 255]
theorem munimentlaw03_OrderLists.tab18 : rtab .any (opsOf Tryd.f8 18) = munimentlaw03_OrderLists.T18 := by kernel_rfl
theorem munimentlaw03_OrderLists.bits18 : waitsOk munimentlaw03_OrderLists.T18.2 munimentlaw03_OrderLists.B18 = true := by kernel_rfl
set_option maxHeartbeats 8000000 in
set_option maxRecDepth 100000 in
theorem munimentlaw03_OrderLists.calls (k : Nat) (A0 : Option Addr) (c0 : Nat) (l0 : List Int) (A1 : Option Addr) (c1 : Nat) (l1 : List Int) (r : Bool) (w : World) (hr0 : Kd.C (Kd.int .i64) w A0 l0.length l0) (hc0 : l0.length ≤ c0) (hr1 : Kd.C (Kd.int .i64) w A1 l1.length l1) (hc1 : l1.length ≤ c1) (hT : Tabs w) (h : munimentlaw03_OrderLists.f k l0 l1 = some r) :
    Calls Tryd.prog 8 #[.slice A0 l0.length c0, .slice A1 l1.length c1] w fun e w' => e = .returned (.bool r) ∧ Below w.heap.size w w' := by
  have hu30 := Tryd.underlying30
  have HT := Aside0.mk hT
  clear hT
  have HR0 := Aside0.mk hr0
  have HC0 := Aside0.mk hc0
  clear hr0 hc0
  have HR1 := Aside0.mk hr1
  have HC1 := Aside0.mk hc1
  clear hr1 hc1
  have HB := Aside0.mk (Below.refl w.heap.size w)
  have H : ((munimentlaw03_awake.f k).bind fun t283 => (if t283 = true then (if (l0.length : Int) > 24 then (munimentlaw03_OrderLists.j0 k l0 l1 true) else (munimentlaw03_OrderLists.j0 k l0 l1 (decide ((l1.length : Int) > 24)))) else (munimentlaw03_OrderLists.j0 k l0 l1 true))) = some r := h
  clear h
  have HC3 := Aside0.mk H
  clear H
  go_enter Tryd.func8, Tryd.ntmps8
  go_upto_region 1 with (fail)
  go_cut [22] (fun v22 wc => ∃ (kq : Nat) (x22_2 : Bool), v22 = .bool x22_2 ∧ Aside0 (munimentlaw03_OrderLists.j0 kq l0 l1 x22_2 = some r) ∧ Aside0 (kq ≤ k) ∧ Aside0 (Below w.heap.size w wc))
  case first =>
    have H := HC3.out
    clear HC3
    replace H := Option.bind_eq_some_iff.mp H
    obtain ⟨t283, A40, H⟩ := H
    replace H : (if t283 = true then (if (l0.length : Int) > 24 then (munimentlaw03_OrderLists.j0 k l0 l1 true) else (munimentlaw03_OrderLists.j0 k l0 l1 (decide ((l1.length : Int) > 24)))) else (munimentlaw03_OrderLists.j0 k l0 l1 true)) = some r := H
    have A4 := Aside0.mk A40
    clear A40
    by_cases c5 : t283 = true
    · subst c5
      have H1 : (if (l0.length : Int) > 24 then (munimentlaw03_OrderLists.j0 k l0 l1 true) else (munimentlaw03_OrderLists.j0 k l0 l1 (decide ((l1.length : Int) > 24)))) = some r := by rw [if_pos rfl] at H; exact H
      clear H
      have H := H1
      clear H1
      by_cases c6 : (l0.length : Int) > 24
      · rw [if_pos c6] at H
        have c6b0 : decide (24 < (l0.length : Int)) = true := decide_eq_true c6
        have c6b1 : decide (24 < l0.length) = true := decide_eq_true (by omega)
        clear c6
        (first | rw [c6b0] | (simp only [i64_w, i32_w]; rw [c6b0]) | skip)
        have H' := Aside0.mk H
        clear H
        go_wp2_with (first | ((with_reducible refine gate_callee (f := 9) rfl ?_); refine goesL_ (some 11) rfl rfl Tryd.func9 (by kernel_rfl) rfl #[] rfl (by (try simp only [List.map_toArray, List.map_cons, List.map_nil]); first | done | rfl | (simp only [List.length_drop, List.length_take]; rfl)) ?_; (with_reducible refine (munimentlaw03_awake.calls k  true _ ?side1 A4.out).mono ?_); (case side1 => first | exact HT.out | (refine tabs_below HT.out ?_; repeat (first | exact HB.out | (with_reducible first | apply below_alloc | apply pw_below_drewN | apply below_drew1 | exact Below.refl _ _) | (refine below_set ?_ (Aside0.out (by assumption)))))); rintro e w7 ⟨rfl, hb⟩; refine ⟨_, rfl, ?_⟩; have n0_ := Aside0.mk (below_step (by repeat (first | (with_reducible first | exact HB.out | apply below_alloc | apply pw_below_drewN | apply below_drew1) | exact HB.out)) hb); clear HB; have HB := n0_; clear n0_; (try clear hb); (try clear hb2); (try clear hk); (try clear hi)))
        go_meet
        case rel => exact ⟨_, (true), (by first | rfl | (simp; done) | (simp [*]; done)), H', ⟨by first | omega | exact Nat.le_refl _⟩, ⟨by repeat (first | (with_reducible first | exact HB.out | apply below_alloc | apply pw_below_drewN | apply below_drew1) | exact HB.out)⟩⟩
      · rw [if_neg c6] at H
        have c6b0 : decide (24 < (l0.length : Int)) = false := decide_eq_false c6
        have c6b1 : decide (24 < l0.length) = false := decide_eq_false (by omega)
        clear c6
        (first | rw [c6b0] | (simp only [i64_w, i32_w]; rw [c6b0]) | skip)
        have H' := Aside0.mk H
        clear H
        go_wp2_with (first | ((with_reducible refine gate_callee (f := 9) rfl ?_); refine goesL_ (some 11) rfl rfl Tryd.func9 (by kernel_rfl) rfl #[] rfl (by (try simp only [List.map_toArray, List.map_cons, List.map_nil]); first | done | rfl | (simp only [List.length_drop, List.length_take]; rfl)) ?_; (with_reducible refine (munimentlaw03_awake.calls k  true _ ?side1 A4.out).mono ?_); (case side1 => first | exact HT.out | (refine tabs_below HT.out ?_; repeat (first | exact HB.out | (with_reducible first | apply below_alloc | apply pw_below_drewN | apply below_drew1 | exact Below.refl _ _) | (refine below_set ?_ (Aside0.out (by assumption)))))); rintro e w8 ⟨rfl, hb⟩; refine ⟨_, rfl, ?_⟩; have n0_ := Aside0.mk (below_step (by repeat (first | (with_reducible first | exact HB.out | apply below_alloc | apply pw_below_drewN | apply below_drew1) | exact HB.out)) hb); clear HB; have HB := n0_; clear n0_; (try clear hb); (try clear hb2); (try clear hk); (try clear hi)))
        go_meet
        case rel => exact ⟨_, (decide ((l1.length : Int) > 24)), (by first | rfl | (simp; done) | (simp [*]; done)), H', ⟨by first | omega | exact Nat.le_refl _⟩, ⟨by repeat (first | (with_reducible first | exact HB.out | apply below_alloc | apply pw_below_drewN | apply below_drew1) | exact HB.out)⟩⟩
    · replace c5 := Bool.eq_false_iff.mpr c5
      subst c5
      have H1 : (munimentlaw03_OrderLists.j0 k l0 l1 true) = some r := by rw [if_neg (show ¬ (false = true) by decide)] at H; exact H
      clear H
      have H := H1
      clear H1
      have H' := Aside0.mk H
      clear H
      go_wp2_with (first | ((with_reducible refine gate_callee (f := 9) rfl ?_); refine goesL_ (some 11) rfl rfl Tryd.func9 (by kernel_rfl) rfl #[] rfl (by (try simp only [List.map_toArray, List.map_cons, List.map_nil]); first | done | rfl | (simp only [List.length_drop, List.length_take]; rfl)) ?_; (with_reducible refine (munimentlaw03_awake.calls k  false _ ?side1 A4.out).mono ?_); (case side1 => first | exact HT.out | (refine tabs_below HT.out ?_; repeat (first | exact HB.out | (with_reducible first | apply below_alloc | apply pw_below_drewN | apply below_drew1 | exact Below.refl _ _) | (refine below_set ?_ (Aside0.out (by assumption)))))); rintro e w9 ⟨rfl, hb⟩; refine ⟨_, rfl, ?_⟩; have n0_ := Aside0.mk (below_step (by repeat (first | (with_reducible first | exact HB.out | apply below_alloc | apply pw_below_drewN | apply below_drew1) | exact HB.out)) hb); clear HB; have HB := n0_; clear n0_; (try clear hb); (try clear hb2); (try clear hk); (try clear hi)))
      go_meet
      case rel => exact ⟨_, (true), (by first | rfl | (simp; done) | (simp [*]; done)), H', ⟨by first | omega | exact Nat.le_refl _⟩, ⟨by repeat (first | (with_reducible first | exact HB.out | apply below_alloc | apply pw_below_drewN | apply below_drew1) | exact HB.out)⟩⟩
  case rest =>
    clear HC3
    try clear c1
    try clear p2
    try clear c5
    try clear c6
    try clear c6b0
    try clear c6b1
    try clear c8
    try clear c9
    obtain ⟨kq, x22_2, rfl, HA, HJ2, HB⟩ := hcut
    cases kq with
    | zero => exact absurd HA.out (by simp [munimentlaw03_OrderLists.j0])
    | succ kj2 =>
      have H := HA.out
      clear HA
      simp only [munimentlaw03_OrderLists.j0] at H
      by_cases c10 : x22_2 = true
      · subst c10
        have H1 : ((munimentlaw03_awake.f kj2).bind fun t284 => (some t284)) = some r := by rw [if_pos rfl] at H; exact H
        clear H
        have H := H1
        clear H1
        replace H := Option.bind_eq_some_iff.mp H
        obtain ⟨t284, A110, H⟩ := H
        replace H : (some t284) = some r := H
        have A11 := Aside0.mk A110
        clear A110
        obtain rfl := Option.some.inj H
        go_wp2_with (first | ((with_reducible refine gate_callee (f := 9) rfl ?_); refine goesL_ (some 23) rfl rfl Tryd.func9 (by kernel_rfl) rfl #[] rfl (by (try simp only [List.map_toArray, List.map_cons, List.map_nil]); first | done | rfl | (simp only [List.length_drop, List.length_take]; rfl)) ?_; (with_reducible refine (munimentlaw03_awake.calls kj2  t284 _ ?side1 A11.out).mono ?_); (case side1 => first | exact HT.out | (refine tabs_below HT.out ?_; repeat (first | exact HB.out | (with_reducible first | apply below_alloc | apply pw_below_drewN | apply below_drew1 | exact Below.refl _ _) | (refine below_set ?_ (Aside0.out (by assumption)))))); rintro e w12 ⟨rfl, hb⟩; refine ⟨_, rfl, ?_⟩; have n0_ := Aside0.mk (below_step (by repeat (first | (with_reducible first | exact HB.out | apply below_alloc | apply pw_below_drewN | apply below_drew1) | exact HB.out)) hb); clear HB; have HB := n0_; clear n0_; (try clear hb); (try clear hb2); (try clear hk); (try clear hi)))
        go_ret
        exact ⟨by first | rfl | (simp [errW_none, errW_some] <;> rfl) | (simp [*, errW_none, errW_some] <;> rfl), by repeat (first | (with_reducible first | exact HB.out | apply below_alloc | apply pw_below_drewN | apply below_drew1) | exact HB.out)⟩
      · replace c10 := Bool.eq_false_iff.mpr c10
        subst c10
        have H1 : (munimentlaw03_OrderLists.l0 kj2 l0 l1 0 5 0 (⟨#[]⟩ : ByteArray) ([] : List (S30)) 5 0 (⟨#[]⟩ : ByteArray)) = some r := by rw [if_neg (show ¬ (false = true) by decide)] at H; exact H
        clear H
        have H := H1
        clear H1
        have H' := Aside0.mk H
        clear H
        go_wp2_with (first | ((with_reducible refine gate_dst (N := 5) rfl ?_); (try (refine gate_guard (by rfl) ?_; dsimp only)); refine box_event ?hg (N := 5) ?hd (cs := #[.int .i64 0, .int .i64 0, .string (⟨#[]⟩ : ByteArray), .slice none 0 0, .slice none 0 0]) (t := 30) ?hr ?_; (case hd => rfl); (case hg => rfl); (case hr => first | (go_simp; done) | (go_simp; rfl)); intro gb285 hg w13 hbox hb; have n0_ := Aside0.mk (below_step (by repeat (first | (with_reducible first | exact HB.out | apply below_alloc | apply pw_below_drewN | apply below_drew1) | exact HB.out)) hb); have n1_ := Aside0.mk (hbox); have n2_ := Aside0.mk ((by rw [hg]; exact (below_size (by repeat (first | (with_reducible first | exact HB.out | apply below_alloc | apply pw_below_drewN | apply below_drew1) | exact HB.out))) : w.heap.size ≤ gb285)); have n3_ := Aside0.mk ((by rw [hg]; exact (below_size (by repeat (first | (with_reducible first | exact HB.out | apply below_alloc | apply pw_below_drewN | apply below_drew1) | exact HB.out))) : w.heap.size ≤ gb285)); clear HB; have HB := n0_; have BK285 := n1_; have GW285 := n2_; have GE285 := n3_; clear n0_ n1_ n2_ n3_; clear hb hbox hg) | ((with_reducible refine gate_dst (N := 6) rfl ?_); (try (refine gate_guard (by rfl) ?_; dsimp only)); refine box_event ?hg (N := 6) ?hd (cs := #[.int .i64 0, .int .i64 0, .string (⟨#[]⟩ : ByteArray), .slice none 0 0, .slice none 0 0]) (t := 30) ?hr ?_; (case hd => rfl); (case hg => rfl); (case hr => first | (go_simp; done) | (go_simp; rfl)); intro gb286 hg w14 hbox hb; have n0_ := Aside0.mk (blk_below (g := gb285) (o := .cells #[.int .i64 0, .int .i64 0, .string (⟨#[]⟩ : ByteArray), .slice none 0 0, .slice none 0 0] 30 (0, 0)) (by (with_reducible repeat (first | refine blk_drewN ?_ _ | refine blk_drew ?_ | refine blk_alloc ?_ _)); exact BK285.out) hb); have n1_ := Aside0.mk (below_step (by repeat (first | (with_reducible first | exact HB.out | apply below_alloc | apply pw_below_drewN | apply below_drew1 | refine below_set ?_ GE285.out) | exact HB.out)) hb); have n2_ := Aside0.mk (hbox); have n3_ := Aside0.mk ((by rw [hg]; exact (below_size (by repeat (first | (with_reducible first | exact HB.out | apply below_alloc | apply pw_below_drewN | apply below_drew1 | refine below_set ?_ GE285.out) | exact HB.out))) : w.heap.size ≤ gb286)); have n4_ := Aside0.mk ((by rw [hg]; exact (below_size (by repeat (first | (with_reducible first | exact HB.out | apply below_alloc | apply pw_below_drewN | apply below_drew1 | refine below_set ?_ GE285.out) | exact HB.out))) : w.heap.size ≤ gb286)); have n5_ := Aside0.mk ((by rw [hg]; exact Nat.ne_of_lt (blk_lt (g := gb285) (o := .cells #[.int .i64 0, .int .i64 0, .string (⟨#[]⟩ : ByteArray), .slice none 0 0, .slice none 0 0] 30 (0, 0)) (by (with_reducible repeat (first | refine blk_drewN ?_ _ | refine blk_drew ?_ | refine blk_alloc ?_ _)); exact BK285.out)) : gb285 ≠ gb286)); have n6_ := Aside0.mk ((by rw [hg]; exact Nat.ne_of_gt (blk_lt (g := gb285) (o := .cells #[.int .i64 0, .int .i64 0, .string (⟨#[]⟩ : ByteArray), .slice none 0 0, .slice none 0 0] 30 (0, 0)) (by (with_reducible repeat (first | refine blk_drewN ?_ _ | refine blk_drew ?_ | refine blk_alloc ?_ _)); exact BK285.out)) : gb286 ≠ gb285)); clear BK285; clear HB; have BK285 := n0_; have HB := n1_; have BK286 := n2_; have GW286 := n3_; have GE286 := n4_; have NB285_286 := n5_; have NB286_285 := n6_; clear n0_ n1_ n2_ n3_ n4_ n5_ n6_; clear hb hbox hg; have hnb15 := NB285_286.out; have hnc15 := NB286_285.out; have hcz16_0 : w14.cell? ⟨gb285, 0, none⟩ = some (.int .i64 0) := (blk_cell BK285.out 0).trans rfl; have hcz16_1 : w14.cell? ⟨gb285, 1, none⟩ = some (.int .i64 0) := (blk_cell BK285.out 1).trans rfl; have hcz16_2 : w14.cell? ⟨gb285, 2, none⟩ = some (.string (⟨#[]⟩ : ByteArray)) := (blk_cell BK285.out 2).trans rfl; have hcz16_3 : w14.cell? ⟨gb285, 3, none⟩ = some (.slice none 0 0) := (blk_cell BK285.out 3).trans rfl; have hcz16_4 : w14.cell? ⟨gb285, 4, none⟩ = some (.slice none 0 0) := (blk_cell BK285.out 4).trans rfl; have hfz16_0 := blk_frozen BK285.out 0; have hfz16_1 := blk_frozen BK285.out 1; have hfz16_2 := blk_frozen BK285.out 2; have hfz16_3 := blk_frozen BK285.out 3; have hfz16_4 := blk_frozen BK285.out 4; have hcz17_0 : w14.cell? ⟨gb286, 0, none⟩ = some (.int .i64 0) := (blk_cell BK286.out 0).trans rfl; have hcz17_1 : w14.cell? ⟨gb286, 1, none⟩ = some (.int .i64 0) := (blk_cell BK286.out 1).trans rfl; have hcz17_2 : w14.cell? ⟨gb286, 2, none⟩ = some (.string (⟨#[]⟩ : ByteArray)) := (blk_cell BK286.out 2).trans rfl; have hcz17_3 : w14.cell? ⟨gb286, 3, none⟩ = some (.slice none 0 0) := (blk_cell BK286.out 3).trans rfl; have hcz17_4 : w14.cell? ⟨gb286, 4, none⟩ = some (.slice none 0 0) := (blk_cell BK286.out 4).trans rfl; have hfz17_0 := blk_frozen BK286.out 0; have hfz17_1 := blk_frozen BK286.out 1; have hfz17_2 := blk_frozen BK286.out 2; have hfz17_3 := blk_frozen BK286.out 3; have hfz17_4 := blk_frozen BK286.out 4))
        go_loopg [7] kj2 (fun kq v7 w' => ∃ (x7_2 : Int) (x286004_2 : List (S30)) (u286004 : Value), v7 = .int .i64 x7_2 ∧ Aside0 (munimentlaw03_OrderLists.l0 kq l0 l1 x7_2 5 0 (⟨#[]⟩ : ByteArray) x286004_2 5 0 (⟨#[]⟩ : ByteArray) = some r) ∧ Aside0 (kq ≤ kj2) ∧ Aside0 (Kd.R k30 30 w' w.heap.size (fun k_ => k_ ≠ gb285 ∧ k_ ≠ gb286) u286004 x286004_2) ∧ Aside0 (w'.heap[gb285]? = some (.cells #[.int .i64 5, .int .i64 0, .string (⟨#[]⟩ : ByteArray), (.slice none 0 0), u286004] 30 (0, 0))) ∧ Aside0 (w'.heap[gb286]? = some (.cells #[.int .i64 5, .int .i64 0, .string (⟨#[]⟩ : ByteArray), (.slice none 0 0), (.slice none 0 0)] 30 (0, 0))) ∧ Aside0 (Below w.heap.size w w'))
        case atStart => exact ⟨(0), (([] : List (S30))), (.slice none 0 0), (by first | rfl | (simp; done) | (simp [*]; done)), H', ⟨Nat.le_refl _⟩, ⟨by first | exact Kd.R_nil _ _ _ _ _ | exact Kd.N_nil _ _ _ _ _ | exact Kd.V_nil _ _ _ _ _ | exact Kd.Q_nil _ _ _ _ _ | exact Kd.S_nil _ _ _ _ _⟩, ⟨by (with_reducible repeat (first | refine blk_drewN ?_ _ | refine blk_drew ?_ | refine blk_alloc ?_ _)); refine blk_far ?_ NB285_286.out _; (with_reducible repeat (first | refine blk_drewN ?_ _ | refine blk_drew ?_ | refine blk_alloc ?_ _)); refine blk_far ?_ NB285_286.out _; (with_reducible repeat (first | refine blk_drewN ?_ _ | refine blk_drew ?_ | refine blk_alloc ?_ _)); refine blk_far ?_ NB285_286.out _; (with_reducible repeat (first | refine blk_drewN ?_ _ | refine blk_drew ?_ | refine blk_alloc ?_ _)); refine blk_far ?_ NB285_286.out _; (with_reducible repeat (first | refine blk_drewN ?_ _ | refine blk_drew ?_ | refine blk_alloc ?_ _)); refine blk_far ?_ NB285_286.out _; (with_reducible repeat (first | refine blk_drewN ?_ _ | refine blk_drew ?_ | refine blk_alloc ?_ _)); refine blk_put (cs := #[.int .i64 5, .int .i64 0, .string (⟨#[]⟩ : ByteArray), .slice none 0 0, .slice none 0 0]) ?_ 4 _ rfl; (with_reducible repeat (first | refine blk_drewN ?_ _ | refine blk_drew ?_ | refine blk_alloc ?_ _)); refine blk_put (cs := #[.int .i64 5, .int .i64 0, .string (⟨#[]⟩ : ByteArray), .slice none 0 0, .slice none 0 0]) ?_ 3 _ rfl; (with_reducible repeat (first | refine blk_drewN ?_ _ | refine blk_drew ?_ | refine blk_alloc ?_ _)); refine blk_put (cs := #[.int .i64 5, .int .i64 0, .string (⟨#[]⟩ : ByteArray), .slice none 0 0, .slice none 0 0]) ?_ 2 _ rfl; (with_reducible repeat (first | refine blk_drewN ?_ _ | refine blk_drew ?_ | refine blk_alloc ?_ _)); refine blk_put (cs := #[.int .i64 5, .int .i64 0, .string (⟨#[]⟩ : ByteArray), .slice none 0 0, .slice none 0 0]) ?_ 1 _ rfl; (with_reducible repeat (first | refine blk_drewN ?_ _ | refine blk_drew ?_ | refine blk_alloc ?_ _)); refine blk_put (cs := #[.int .i64 0, .int .i64 0, .string (⟨#[]⟩ : ByteArray), .slice none 0 0, .slice none 0 0]) ?_ 0 _ rfl; (with_reducible repeat (first | refine blk_drewN ?_ _ | refine blk_drew ?_ | refine blk_alloc ?_ _)); exact BK285.out⟩, ⟨by (with_reducible repeat (first | refine blk_drewN ?_ _ | refine blk_drew ?_ | refine blk_alloc ?_ _)); refine blk_put (cs := #[.int .i64 5, .int .i64 0, .string (⟨#[]⟩ : ByteArray), .slice none 0 0, .slice none 0 0]) ?_ 4 _ rfl; (with_reducible repeat (first | refine blk_drewN ?_ _ | refine blk_drew ?_ | refine blk_alloc ?_ _)); refine blk_put (cs := #[.int .i64 5, .int .i64 0, .string (⟨#[]⟩ : ByteArray), .slice none 0 0, .slice none 0 0]) ?_ 3 _ rfl; (with_reducible repeat (first | refine blk_drewN ?_ _ | refine blk_drew ?_ | refine blk_alloc ?_ _)); refine blk_put (cs := #[.int .i64 5, .int .i64 0, .string (⟨#[]⟩ : ByteArray), .slice none 0 0, .slice none 0 0]) ?_ 2 _ rfl; (with_reducible repeat (first | refine blk_drewN ?_ _ | refine blk_drew ?_ | refine blk_alloc ?_ _)); refine blk_put (cs := #[.int .i64 5, .int .i64 0, .string (⟨#[]⟩ : ByteArray), .slice none 0 0, .slice none 0 0]) ?_ 1 _ rfl; (with_reducible repeat (first | refine blk_drewN ?_ _ | refine blk_drew ?_ | refine blk_alloc ?_ _)); refine blk_put (cs := #[.int .i64 0, .int .i64 0, .string (⟨#[]⟩ : ByteArray), .slice none 0 0, .slice none 0 0]) ?_ 0 _ rfl; (with_reducible repeat (first | refine blk_drewN ?_ _ | refine blk_drew ?_ | refine blk_alloc ?_ _)); refine blk_far ?_ NB286_285.out _; (with_reducible repeat (first | refine blk_drewN ?_ _ | refine blk_drew ?_ | refine blk_alloc ?_ _)); refine blk_far ?_ NB286_285.out _; (with_reducible repeat (first | refine blk_drewN ?_ _ | refine blk_drew ?_ | refine blk_alloc ?_ _)); refine blk_far ?_ NB286_285.out _; (with_reducible repeat (first | refine blk_drewN ?_ _ | refine blk_drew ?_ | refine blk_alloc ?_ _)); refine blk_far ?_ NB286_285.out _; (with_reducible repeat (first | refine blk_drewN ?_ _ | refine blk_drew ?_ | refine blk_alloc ?_ _)); refine blk_far ?_ NB286_285.out _; (with_reducible repeat (first | refine blk_drewN ?_ _ | refine blk_drew ?_ | refine blk_alloc ?_ _)); exact BK286.out⟩, ⟨by repeat (first | (with_reducible first | exact HB.out | apply below_alloc | apply pw_below_drewN | apply below_drew1 | refine below_set ?_ GE285.out | refine below_set ?_ GE286.out) | exact HB.out)⟩⟩
        case round =>
          clear H'
          try clear c1
          try clear p2
          try clear c5
          try clear c6
          try clear c6b0
          try clear c6b1
          try clear c8
          try clear c9
          try clear c10
          try clear c15
          try clear hcz16_0
          try clear hcz16_1
          try clear hcz16_2
          try clear hcz16_3
          try clear hcz16_4
          try clear hcz17_0
          try clear hcz17_1
          try clear hcz17_2
          try clear hcz17_3
          try clear hcz17_4
          try clear hfz16_0
          try clear hfz16_1
          try clear hfz16_2
          try clear hfz16_3
          try clear hfz16_4
          try clear hfz17_0
          try clear hfz17_1
          try clear hfz17_2
          try clear hfz17_3
          try clear hfz17_4
          try clear p2
          obtain ⟨x7_2, x286004_2, u286004, rfl, HA, HK2, HO_286004, BK285, BK286, HB⟩ := hrel
          cases gk with
          | zero => exact absurd HA.out (by simp [munimentlaw03_OrderLists.l0])
          | succ k2 =>
            have H := HA.out
            clear HA
            simp only [munimentlaw03_OrderLists.l0] at H
            by_cases c18 : x7_2 < (l0.length : Int)
            · rw [if_pos c18] at H
              have c18b0 : decide (x7_2 < (l0.length : Int)) = true := decide_eq_true c18
              clear c18
              by_cases c19 : 0 ≤ x7_2
              · rw [if_pos c19] at H
                have c19b0 : decide (0 ≤ x7_2) = true := decide_eq_true c19
                clear c19
                by_cases c20 : x286004_2.length < 1759218604441
                · rw [if_pos c20] at H
                  have LMc20 := Aside0.mk c20
                  clear c20
                  obtain ⟨y288, hy288⟩ : ∃ y_ : List (S30), y_ = (x286004_2 ++ [(⟨3, rd l0 x7_2, (⟨#[]⟩ : ByteArray), ([] : List ByteArray), ([] : List (S30))⟩ : S30)]) := ⟨_, rfl⟩
                  replace H : (munimentlaw03_OrderLists.l0 k2 l0 l1 (wrap64 (x7_2 + 1)) 5 0 (⟨#[]⟩ : ByteArray) y288 5 0 (⟨#[]⟩ : ByteArray)) = some r := by first | (rw [hy288]; with_reducible exact H) | (have H2_ := (Option.bind_some _ _).symm.trans H; rw [hy288]; with_reducible exact H2_) | (have H2_ := (Option.bind_some _ _).symm.trans H; with_reducible exact H2_) | with_reducible exact H | (rw [hy288]; exact H) | exact H
                  have Ny288 := Aside0.mk hy288
                  clear hy288
                  have H' := Aside0.mk H
                  clear H
                  try go_wp2
                  have n0_ := Aside0.mk (Kd.R_drew HO_286004.out)
                  have n1_ := Aside0.mk (blk_drew BK285.out)
                  have n2_ := Aside0.mk (blk_drew BK286.out)
                  have n3_ := Aside0.mk (below_drew1 HB.out)
                  clear HO_286004
                  clear BK285
                  clear BK286
                  clear HB
                  have HO_286004 := n0_
                  have BK285 := n1_
                  have BK286 := n2_
                  have HB := n3_
                  clear n0_ n1_ n2_ n3_
                  have p287 : 0 ≤ (x7_2 : Int) := of_decide_eq_true (by first | (with_reducible assumption) | assumption)
                  have q287 : x7_2 < (l0.length : Int) := of_decide_eq_true (by first | (with_reducible assumption) | assumption)
                  obtain ⟨ad287, e287, hx287_0⟩ := Kd.at_int HR0.out x7_2 p287 q287
                  have hw287_0 := hx287_0
                  cases e287
                  replace hx287_0 := (HB.out.cell (World.block_lt_of_cell? w _ hx287_0)).trans hx287_0
                  replace p287 := eq_true p287
                  replace q287 := eq_true q287
                  refine start_ (n := 11) (S := fun w' => w'.cell? ⟨gb285, 0, none⟩ = some (.int .i64 5) ∧ w'.cell? ⟨gb285, 1, none⟩ = some (.int .i64 0) ∧ w'.cell? ⟨gb285, 2, none⟩ = some (.string (⟨#[]⟩ : ByteArray)) ∧ w'.cell? ⟨gb285, 3, none⟩ = some (.slice none 0 0) ∧ w'.cell? ⟨gb285, 4, none⟩ = some (u286004) ∧ w'.cell? (ad287.add (x7_2).toNat) = some (.int .i64 (rd l0 x7_2))) (ds := [10]) #[false, false, false, false, false, false, false, false, false, false, false] (by kernel_rfl) rfl rfl ⟨(blk_cell BK285.out 0).trans rfl, (blk_cell BK285.out 1).trans rfl, (blk_cell BK285.out 2).trans rfl, (blk_cell BK285.out 3).trans rfl, (blk_cell BK285.out 4).trans rfl, ((HB.out.cell (World.block_lt_of_cell? w _ hw287_0)).trans hw287_0)⟩ (fun hHeld => ?_); refine with_tabW munimentlaw03_OrderLists.tab7 munimentlaw03_OrderLists.bits7 (fun HT_ HW_ => ?_)
                  generalize wr.drew = w21 at HO_286004 BK285 BK286 HB hx287_0 hHeld ⊢
                  refine pure_ (i := 0) (N := some 32) (v := ?_) (a' := ?_) #[true, false, false, false, false, false, false, false, false, false, false] rfl rfl (any_of HT_.out (by kernel_rfl)) (fun _ _ _ h => h) (Or.inl ⟨by rfl, ?_⟩) ?_ ?_
                  rotate_left
                  · intro w'
                    go_simp
                    with_reducible rfl
                  rotate_left
                  · simp only [Act.put, List.setIfInBounds_toArray, List.set_cons_zero, List.set_cons_succ, i64_w, i32_w]
                    rfl
                  refine pure_ (i := 2) (N := some 34) (v := ?_) (a' := ?_) #[true, false, true, false, false, false, false, false, false, false, false] rfl rfl (any_of HT_.out (by kernel_rfl)) (fun _ _ _ h => h) (Or.inl ⟨by rfl, ?_⟩) ?_ ?_
                  rotate_left
                  · intro w'
                    go_simp
                    with_reducible rfl
                  rotate_left
                  · simp only [Act.put, List.setIfInBounds_toArray, List.set_cons_zero, List.set_cons_succ, i64_w, i32_w]
                    rfl
                  refine pure_ (i := 3) (N := some 35) (v := ?_) (a' := ?_) #[true, false, true, true, false, false, false, false, false, false, false] rfl rfl (any_of HT_.out (by kernel_rfl)) (fun _ _ _ h => h) (Or.inl ⟨by rfl, ?_⟩) ?_ ?_
                  rotate_left
                  · intro w'
                    go_simp
                    with_reducible rfl
                  rotate_left
                  · simp only [Act.put, List.setIfInBounds_toArray, List.set_cons_zero, List.set_cons_succ, i64_w, i32_w]
                    rfl
                  refine pure_ (i := 4) (N := some 36) (v := ?_) (a' := ?_) #[true, false, true, true, true, false, false, false, false, false, false] rfl rfl (any_of HT_.out (by kernel_rfl)) (fun _ _ _ h => h) (Or.inl ⟨by rfl, ?_⟩) ?_ ?_
                  rotate_left
                  · intro w'
                    go_simp
                    with_reducible rfl
                  rotate_left
                  · simp only [Act.put, List.setIfInBounds_toArray, List.set_cons_zero, List.set_cons_succ, i64_w, i32_w]
                    rfl
                  refine take_ (i := 1) (N := some 33) (v := ?_) (a' := ?_) #[true, true, true, true, true, false, false, false, false, false, false] rfl rfl (take_ofW HT_.out HW_.out (by kernel_rfl)) (fun _ _ _ h => h) (Or.inl ⟨by rfl, ?_⟩) hHeld ?_ ?_
                  rotate_left
                  · rintro w' ⟨s0, s1, s2, s3, s4, s5⟩
                    go_simp
                    with_reducible rfl
                  rotate_left
                  · simp only [Act.put, List.setIfInBounds_toArray, List.set_cons_zero, List.set_cons_succ, i64_w, i32_w]
                    rfl
                  refine take_ (i := 5) (N := some 37) (v := ?_) (a' := ?_) #[true, true, true, true, true, true, false, false, false, false, false] rfl rfl (take_ofW HT_.out HW_.out (by kernel_rfl)) (fun _ _ _ h => h) (Or.inl ⟨by rfl, ?_⟩) hHeld ?_ ?_
                  rotate_left
                  · rintro w' ⟨s0, s1, s2, s3, s4, s5⟩
                    go_simp
                    with_reducible rfl
                  rotate_left
                  · simp only [Act.put, List.setIfInBounds_toArray, List.set_cons_zero, List.set_cons_succ, i64_w, i32_w]
                    rfl
                  refine pure_ (i := 6) (N := some 38) (v := ?_) (a' := ?_) #[true, true, true, true, true, true, true, false, false, false, false] rfl rfl (any_of HT_.out (by kernel_rfl)) (fun _ _ _ h => h) (Or.inl ⟨by rfl, ?_⟩) ?_ ?_
                  rotate_left
                  · intro w'
                    go_simp
                    with_reducible rfl
                  rotate_left
                  · simp only [Act.put, List.setIfInBounds_toArray, List.set_cons_zero, List.set_cons_succ, i64_w, i32_w]
                    rfl
                  refine one_ (i := 7) (N := some 39) #[true, true, true, true, true, true, true, true, false, false, false] rfl rfl (one_of HT_.out (by kernel_rfl)) (by decide) (fun K hK => ?_)
                  refine value_ (w1 := ?_) (v := ?_) (by rfl) rfl ?_ ?_
                  rotate_left 2
                  · go_simp
                    constructor
                    · rfl
                    · rfl
                  refine hK.out _ _ ⟨(blk_cell (blk_alloc BK285.out _) 0).trans rfl, (blk_cell (blk_alloc BK285.out _) 1).trans rfl, (blk_cell (blk_alloc BK285.out _) 2).trans rfl, (blk_cell (blk_alloc BK285.out _) 3).trans rfl, (blk_cell (blk_alloc BK285.out _) 4).trans rfl, (World.cell?_alloc_lt _ _ _ (World.block_lt_of_cell? _ _ (((HB.out.cell (World.block_lt_of_cell? w _ hw287_0)).trans hw287_0)))).trans (((HB.out.cell (World.block_lt_of_cell? w _ hw287_0)).trans hw287_0))⟩ (fun hHeld => ?_)
                  clear hK K
                  refine norm_ (a' := ?_) ?_ ?_
                  rotate_left
                  · show Act.put _ (some 39) _ = _
                    simp only [Act.put, List.setIfInBounds_toArray, List.set_cons_zero, List.set_cons_succ, i64_w, i32_w]
                    rfl
                  refine one_ (i := 8) (N := some 40) #[true, true, true, true, true, true, true, true, true, false, false] rfl rfl (one_of HT_.out (by kernel_rfl)) (by decide) (fun K hK => ?_)
                  refine Kd.R_append_step k30 (w0 := w) w.heap.size (by rfl) (.tmp 33) (.tmp 39) 22 30 (.agg #[(.int .i64 0), (.int .i64 0), (.string ⟨#[]⟩), (.slice none 0 0), (.slice none 0 0)]) 80 rfl Tryd.underlying22 info30 rfl (by decide) (by omega) u286004 x286004_2 (⟨3, rd l0 x7_2, (⟨#[]⟩ : ByteArray), ([] : List ByteArray), ([] : List (S30))⟩ : S30) [.int .i64 3, .int .i64 (rd l0 x7_2), .string (⟨#[]⟩ : ByteArray), .slice none 0 0, .slice none 0 0] (fun k_ => k_ ≠ gb285 ∧ k_ ≠ gb286) (fun k_ => ((fun k_ => k_ ≠ gb285 ∧ k_ ≠ gb286)) k_ ∧ some k_ ≠ (u286004 : Value).ownBlock) rfl rfl ?aP (fun _ hk => hk) ?aF ?aO ?aB ?aS ?aL ?_
                  (case aP => exact k30_mkM _ _ _ (⟨3, rd l0 x7_2, (⟨#[]⟩ : ByteArray), ([] : List ByteArray), ([] : List (S30))⟩ : S30) (Kd.R_nil _ _ _ _ _) (Kd.R_nil _ _ _ _ _))
                  (case aB => exact (by repeat (first | (with_reducible first | exact HB.out | apply below_alloc | apply pw_below_drewN | apply below_drew1 | refine below_set ?_ GE285.out | refine below_set ?_ GE286.out) | exact HB.out)))
                  (case aF => exact (fun k_ hk => ⟨Kd.freshB (g := gb285) (o := .cells #[.int .i64 5, .int .i64 0, .string (⟨#[]⟩ : ByteArray), .slice none 0 0, u286004] 30 (0, 0)) (by (with_reducible repeat (first | refine blk_drewN ?_ _ | refine blk_drew ?_ | refine blk_alloc ?_ _)); exact BK285.out) k_ hk, Kd.freshB (g := gb286) (o := .cells #[.int .i64 5, .int .i64 0, .string (⟨#[]⟩ : ByteArray), .slice none 0 0, .slice none 0 0] 30 (0, 0)) (by (with_reducible repeat (first | refine blk_drewN ?_ _ | refine blk_drew ?_ | refine blk_alloc ?_ _)); exact BK286.out) k_ hk⟩))
                  (case aO => exact (by (with_reducible repeat (first | apply Kd.R_alloc | apply Kd.R_drewN | apply Kd.R_drew)); exact HO_286004.out))
                  (case aS => exact (below_size (by repeat (first | (with_reducible first | exact HB.out | apply below_alloc | apply pw_below_drewN | apply below_drew1 | refine below_set ?_ GE285.out | refine below_set ?_ GE286.out) | exact HB.out))))
                  (case aL => have := LMc20.out; omega)
                  intro v289 w22 ho hb hg hat
                  rw [← Ny288.out] at ho
                  have n0_ := Aside0.mk (blk_grown (g := gb285) (o := .cells #[.int .i64 5, .int .i64 0, .string (⟨#[]⟩ : ByteArray), .slice none 0 0, u286004] 30 (0, 0)) (by (with_reducible repeat (first | refine blk_drewN ?_ _ | refine blk_drew ?_ | refine blk_alloc ?_ _)); exact BK285.out) hg (Kd.R_away HO_286004.out (fun _ hk => hk.1)))
                  have n1_ := Aside0.mk (blk_grown (g := gb286) (o := .cells #[.int .i64 5, .int .i64 0, .string (⟨#[]⟩ : ByteArray), .slice none 0 0, .slice none 0 0] 30 (0, 0)) (by (with_reducible repeat (first | refine blk_drewN ?_ _ | refine blk_drew ?_ | refine blk_alloc ?_ _)); exact BK286.out) hg (Kd.R_away HO_286004.out (fun _ hk => hk.2)))
                  have n2_ := Aside0.mk (hb)
                  have n3_ := Aside0.mk (ho)
                  clear BK285
                  clear BK286
                  clear HB
                  clear HO_286004
                  have BK285 := n0_
                  have BK286 := n1_
                  have HB := n2_
                  have HO290 := n3_
                  clear n0_ n1_ n2_ n3_
                  clear ho hb hg hat
                  obtain ⟨Ao23, co23, eo23⟩ := Kd.R_slice HO290.out
                  (first | subst eo23 | (injection eo23 with f1_ f2_ f3_; have f4_ := f1_.symm; have f5_ := f3_.symm; clear f1_ f2_ f3_; subst f4_; subst f5_))
                  refine hK.out _ _ ⟨(blk_cell BK285.out 0).trans rfl, (blk_cell BK285.out 1).trans rfl, (blk_cell BK285.out 2).trans rfl, (blk_cell BK285.out 3).trans rfl, (blk_cell BK285.out 4).trans rfl, ((HB.out.cell (World.block_lt_of_cell? w _ hw287_0)).trans hw287_0)⟩ (fun hHeld => ?_)
                  clear hK K
                  refine norm_ (a' := ?_) ?_ ?_
                  rotate_left
                  · show Act.put _ (some 40) _ = _
                    simp only [Act.put, List.setIfInBounds_toArray, List.set_cons_zero, List.set_cons_succ, i64_w, i32_w]
                    rfl
                  refine pure_ (i := 9) (N := some 41) (v := ?_) (a' := ?_) #[true, true, true, true, true, true, true, true, true, true, false] rfl rfl (any_of HT_.out (by kernel_rfl)) (fun _ _ _ h => h) (Or.inl ⟨by rfl, ?_⟩) ?_ ?_
                  rotate_left
                  · intro w'
                    go_simp
                    with_reducible rfl
                  rotate_left
                  · simp only [Act.put, List.setIfInBounds_toArray, List.set_cons_zero, List.set_cons_succ, i64_w, i32_w]
                    rfl
                  refine last_ (i := 10) (N := none) #[true, true, true, true, true, true, true, true, true, true, true] rfl rfl (one_of HT_.out (by kernel_rfl)) (by decide) (fun K hK => ?_)
                  have hs24 : w22.cell? ⟨gb285, 4, none⟩ = some (u286004) := (blk_cell BK285.out 4).trans rfl
                  have hfs24 := blk_frozen BK285.out 4
                  have hns24_1 := NB286_285.out
                  have hms24_1 := NB285_286.out
                  refine skip_ (w1 := ?_) (by rfl) rfl ?_ ?_
                  rotate_left
                  · go_simp
                    rfl
                  refine hK.out _ _ ?_
                  clear hK K
                  refine done_ (done_of HT_.out (by kernel_rfl)) ?_
                  try go_wp2
                  go_roundg k2
                  case measure => have := HJ2.out; have := HK2.out; omega
                  case rel => exact ⟨(wrap64 (x7_2 + 1)), (y288), (.slice Ao23 y288.length co23), (by first | rfl | (simp; done) | (simp [*]; done)), H', ⟨by have := HJ2.out; have := HK2.out; omega⟩, ⟨by (with_reducible repeat (first | apply Kd.R_alloc | apply Kd.R_drewN | apply Kd.R_drew)); exact Kd.R_mono (Kd.R_far (p := ⟨gb285, 4, none⟩) (Kd.R_mono HO290.out (fun k_ hk => (⟨hk, hk.1⟩ : _ ∧ k_ ≠ gb285))) (fun _ hk => hk.2) (.slice Ao23 y288.length co23)) (fun _ hk => ⟨hk.1.1, hk.1.2⟩)⟩, ⟨by (with_reducible repeat (first | refine blk_drewN ?_ _ | refine blk_drew ?_ | refine blk_alloc ?_ _)); refine blk_put (cs := #[.int .i64 5, .int .i64 0, .string (⟨#[]⟩ : ByteArray), .slice none 0 0, u286004]) ?_ 4 _ rfl; (with_reducible repeat (first | refine blk_drewN ?_ _ | refine blk_drew ?_ | refine blk_alloc ?_ _)); exact BK285.out⟩, ⟨by (with_reducible repeat (first | refine blk_drewN ?_ _ | refine blk_drew ?_ | refine blk_alloc ?_ _)); refine blk_far ?_ NB286_285.out _; (with_reducible repeat (first | refine blk_drewN ?_ _ | refine blk_drew ?_ | refine blk_alloc ?_ _)); exact BK286.out⟩, ⟨by repeat (first | (with_reducible first | exact HB.out | apply below_alloc | apply pw_below_drewN | apply below_drew1 | refine below_set ?_ GE285.out | refine below_set ?_ GE286.out) | exact HB.out)⟩⟩
                · rw [if_neg c20] at H
                  exact absurd H (by simp)
              · rw [if_neg c19] at H
                exact absurd H (by simp)
            · rw [if_neg c18] at H
              have c18b0 : decide (x7_2 < (l0.length : Int)) = false := decide_eq_false c18
              clear c18
              have H' := Aside0.mk H
              clear H
              go_wp2
              go_loopg [8] k2 (fun kq v8 w' => ∃ (x8_3 : Int) (x287004_3 : List (S30)) (u287004 : Value), v8 = .int .i64 x8_3 ∧ Aside0 (munimentlaw03_OrderLists.l1 kq l0 l1 x8_3 5 0 (⟨#[]⟩ : ByteArray) x286004_2 5 0 (⟨#[]⟩ : ByteArray) x287004_3 = some r) ∧ Aside0 (kq ≤ k2) ∧ Aside0 (Kd.R k30 30 w' w.heap.size (fun k_ => some k_ ≠ (u287004 : Value).ownBlock ∧ k_ ≠ gb285 ∧ k_ ≠ gb286) u286004 x286004_2) ∧ Aside0 (Kd.R k30 30 w' w.heap.size (fun k_ => some k_ ≠ (u286004 : Value).ownBlock ∧ k_ ≠ gb285 ∧ k_ ≠ gb286) u287004 x287004_3) ∧ Aside0 (w'.heap[gb285]? = some (.cells #[.int .i64 5, .int .i64 0, .string (⟨#[]⟩ : ByteArray), (.slice none 0 0), u286004] 30 (0, 0))) ∧ Aside0 (w'.heap[gb286]? = some (.cells #[.int .i64 5, .int .i64 0, .string (⟨#[]⟩ : ByteArray), (.slice none 0 0), u287004] 30 (0, 0))) ∧ Aside0 (Below w.heap.size w w'))
              case atStart => exact ⟨(0), (([] : List (S30))), (.slice none 0 0), (by first | rfl | (simp; done) | (simp [*]; done)), H', ⟨Nat.le_refl _⟩, ⟨by (with_reducible repeat (first | apply Kd.R_alloc | apply Kd.R_drewN | apply Kd.R_drew)); exact Kd.R_mono HO_286004.out (fun _ hk => ⟨(by simp [Value.ownBlock]), ⟨hk.1, hk.2⟩⟩)⟩, ⟨by first | exact Kd.R_nil _ _ _ _ _ | exact Kd.N_nil _ _ _ _ _ | exact Kd.V_nil _ _ _ _ _ | exact Kd.Q_nil _ _ _ _ _ | exact Kd.S_nil _ _ _ _ _⟩, ⟨by (with_reducible repeat (first | refine blk_drewN ?_ _ | refine blk_drew ?_ | refine blk_alloc ?_ _)); exact BK285.out⟩, ⟨by (with_reducible repeat (first | refine blk_drewN ?_ _ | refine blk_drew ?_ | refine blk_alloc ?_ _)); exact BK286.out⟩, ⟨by repeat (first | (with_reducible first | exact HB.out | apply below_alloc | apply pw_below_drewN | apply below_drew1 | refine below_set ?_ GE285.out | refine below_set ?_ GE286.out) | exact HB.out)⟩⟩
              case round =>
                clear H'
                try clear c1
                try clear c2
                try clear p2
                try clear q2
                try clear hx2
                try clear c5
                try clear c6
                try clear c6b0
                try clear c6b1
                try clear p6
                try clear c8
                try clear c9
                try clear c10
                try clear c15
                try clear c18
                try clear c18b0
                try clear c19
                try clear c19b0
                try clear c20
                try clear hcz16_0
                try clear hcz16_1
                try clear hcz16_2
                try clear hcz16_3
                try clear hcz16_4
                try clear hcz17_0
                try clear hcz17_1
                try clear hcz17_2
                try clear hcz17_3
                try clear hcz17_4
                try clear hfz16_0
                try clear hfz16_1
                try clear hfz16_2
                try clear hfz16_3
                try clear hfz16_4
                try clear hfz17_0
                try clear hfz17_1
                try clear hfz17_2
                try clear hfz17_3
                try clear hfz17_4
                try clear hx287_0
                try clear p2
                try clear p287
                try clear q287
                obtain ⟨x8_3, x287004_3, u287004, rfl, HA, HK3, HO_286004, HO_287004, BK285, BK286, HB⟩ := hrel
                cases gk with
                | zero => exact absurd HA.out (by simp [munimentlaw03_OrderLists.l1])
                | succ k3 =>
                  have H := HA.out
                  clear HA
                  simp only [munimentlaw03_OrderLists.l1] at H
                  by_cases c25 : x8_3 < (l1.length : Int)
                  · rw [if_pos c25] at H
                    have c25b0 : decide (x8_3 < (l1.length : Int)) = true := decide_eq_true c25
                    clear c25
                    by_cases c26 : 0 ≤ x8_3
                    · rw [if_pos c26] at H
                      have c26b0 : decide (0 ≤ x8_3) = true := decide_eq_true c26
                      clear c26
                      by_cases c27 : x287004_3.length < 1759218604441
                      · rw [if_pos c27] at H
                        have LMc27 := Aside0.mk c27
                        clear c27
                        obtain ⟨y292, hy292⟩ : ∃ y_ : List (S30), y_ = (x287004_3 ++ [(⟨3, rd l1 x8_3, (⟨#[]⟩ : ByteArray), ([] : List ByteArray), ([] : List (S30))⟩ : S30)]) := ⟨_, rfl⟩
                        replace H : (munimentlaw03_OrderLists.l1 k3 l0 l1 (wrap64 (x8_3 + 1)) 5 0 (⟨#[]⟩ : ByteArray) x286004_2 5 0 (⟨#[]⟩ : ByteArray) y292) = some r := by first | (rw [hy292]; with_reducible exact H) | (have H2_ := (Option.bind_some _ _).symm.trans H; rw [hy292]; with_reducible exact H2_) | (have H2_ := (Option.bind_some _ _).symm.trans H; with_reducible exact H2_) | with_reducible exact H | (rw [hy292]; exact H) | exact H
                        have Ny292 := Aside0.mk hy292
                        clear hy292
                        have H' := Aside0.mk H
                        clear H
                        try go_wp2
                        have n0_ := Aside0.mk (Kd.R_drew HO_286004.out)
                        have n1_ := Aside0.mk (Kd.R_drew HO_287004.out)
                        have n2_ := Aside0.mk (blk_drew BK285.out)
                        have n3_ := Aside0.mk (blk_drew BK286.out)
                        have n4_ := Aside0.mk (below_drew1 HB.out)
                        clear HO_286004
                        clear HO_287004
                        clear BK285
                        clear BK286
                        clear HB
                        have HO_286004 := n0_
                        have HO_287004 := n1_
                        have BK285 := n2_
                        have BK286 := n3_
                        have HB := n4_
                        clear n0_ n1_ n2_ n3_ n4_
                        have p291 : 0 ≤ (x8_3 : Int) := of_decide_eq_true (by first | (with_reducible assumption) | assumption)
                        have q291 : x8_3 < (l1.length : Int) := of_decide_eq_true (by first | (with_reducible assumption) | assumption)
                        obtain ⟨ad291, e291, hx291_0⟩ := Kd.at_int HR1.out x8_3 p291 q291
                        have hw291_0 := hx291_0
                        cases e291
                        replace hx291_0 := (HB.out.cell (World.block_lt_of_cell? w _ hx291_0)).trans hx291_0
                        replace p291 := eq_true p291
                        replace q291 := eq_true q291
                        refine start_ (n := 11) (S := fun w' => w'.cell? ⟨gb286, 0, none⟩ = some (.int .i64 5) ∧ w'.cell? ⟨gb286, 1, none⟩ = some (.int .i64 0) ∧ w'.cell? ⟨gb286, 2, none⟩ = some (.string (⟨#[]⟩ : ByteArray)) ∧ w'.cell? ⟨gb286, 3, none⟩ = some (.slice none 0 0) ∧ w'.cell? ⟨gb286, 4, none⟩ = some (u287004) ∧ w'.cell? (ad291.add (x8_3).toNat) = some (.int .i64 (rd l1 x8_3))) (ds := [10]) #[false, false, false, false, false, false, false, false, false, false, false] (by kernel_rfl) rfl rfl ⟨(blk_cell BK286.out 0).trans rfl, (blk_cell BK286.out 1).trans rfl, (blk_cell BK286.out 2).trans rfl, (blk_cell BK286.out 3).trans rfl, (blk_cell BK286.out 4).trans rfl, ((HB.out.cell (World.block_lt_of_cell? w _ hw291_0)).trans hw291_0)⟩ (fun hHeld => ?_); refine with_tabW munimentlaw03_OrderLists.tab11 munimentlaw03_OrderLists.bits11 (fun HT_ HW_ => ?_)
                        generalize wr.drew = w28 at HO_286004 HO_287004 BK285 BK286 HB hx291_0 hHeld ⊢
                        refine pure_ (i := 0) (N := some 48) (v := ?_) (a' := ?_) #[true, false, false, false, false, false, false, false, false, false, false] rfl rfl (any_of HT_.out (by kernel_rfl)) (fun _ _ _ h => h) (Or.inl ⟨by rfl, ?_⟩) ?_ ?_
                        rotate_left
                        · intro w'
                          go_simp
                          with_reducible rfl
                        rotate_left
                        · simp only [Act.put, List.setIfInBounds_toArray, List.set_cons_zero, List.set_cons_succ, i64_w, i32_w]
                          rfl
                        refine pure_ (i := 2) (N := some 50) (v := ?_) (a' := ?_) #[true, false, true, false, false, false, false, false, false, false, false] rfl rfl (any_of HT_.out (by kernel_rfl)) (fun _ _ _ h => h) (Or.inl ⟨by rfl, ?_⟩) ?_ ?_
                        rotate_left
                        · intro w'
                          go_simp
                          with_reducible rfl
                        rotate_left
                        · simp only [Act.put, List.setIfInBounds_toArray, List.set_cons_zero, List.set_cons_succ, i64_w, i32_w]
                          rfl
                        refine pure_ (i := 3) (N := some 51) (v := ?_) (a' := ?_) #[true, false, true, true, false, false, false, false, false, false, false] rfl rfl (any_of HT_.out (by kernel_rfl)) (fun _ _ _ h => h) (Or.inl ⟨by rfl, ?_⟩) ?_ ?_
                        rotate_left
                        · intro w'
                          go_simp
                          with_reducible rfl
                        rotate_left
                        · simp only [Act.put, List.setIfInBounds_toArray, List.set_cons_zero, List.set_cons_succ, i64_w, i32_w]
                          rfl
                        refine pure_ (i := 4) (N := some 52) (v := ?_) (a' := ?_) #[true, false, true, true, true, false, false, false, false, false, false] rfl rfl (any_of HT_.out (by kernel_rfl)) (fun _ _ _ h => h) (Or.inl ⟨by rfl, ?_⟩) ?_ ?_
                        rotate_left
                        · intro w'
                          go_simp
                          with_reducible rfl
                        rotate_left
                        · simp only [Act.put, List.setIfInBounds_toArray, List.set_cons_zero, List.set_cons_succ, i64_w, i32_w]
                          rfl
                        refine take_ (i := 1) (N := some 49) (v := ?_) (a' := ?_) #[true, true, true, true, true, false, false, false, false, false, false] rfl rfl (take_ofW HT_.out HW_.out (by kernel_rfl)) (fun _ _ _ h => h) (Or.inl ⟨by rfl, ?_⟩) hHeld ?_ ?_
                        rotate_left
                        · rintro w' ⟨s0, s1, s2, s3, s4, s5⟩
                          go_simp
                          with_reducible rfl
                        rotate_left
                        · simp only [Act.put, List.setIfInBounds_toArray, List.set_cons_zero, List.set_cons_succ, i64_w, i32_w]
                          rfl
                        refine take_ (i := 5) (N := some 53) (v := ?_) (a' := ?_) #[true, true, true, true, true, true, false, false, false, false, false] rfl rfl (take_ofW HT_.out HW_.out (by kernel_rfl)) (fun _ _ _ h => h) (Or.inl ⟨by rfl, ?_⟩) hHeld ?_ ?_
                        rotate_left
                        · rintro w' ⟨s0, s1, s2, s3, s4, s5⟩
                          go_simp
                          with_reducible rfl
                        rotate_left
                        · simp only [Act.put, List.setIfInBounds_toArray, List.set_cons_zero, List.set_cons_succ, i64_w, i32_w]
                          rfl
                        refine pure_ (i := 6) (N := some 54) (v := ?_) (a' := ?_) #[true, true, true, true, true, true, true, false, false, false, false] rfl rfl (any_of HT_.out (by kernel_rfl)) (fun _ _ _ h => h) (Or.inl ⟨by rfl, ?_⟩) ?_ ?_
                        rotate_left
                        · intro w'
                          go_simp
                          with_reducible rfl
                        rotate_left
                        · simp only [Act.put, List.setIfInBounds_toArray, List.set_cons_zero, List.set_cons_succ, i64_w, i32_w]
                          rfl
                        refine one_ (i := 7) (N := some 55) #[true, true, true, true, true, true, true, true, false, false, false] rfl rfl (one_of HT_.out (by kernel_rfl)) (by decide) (fun K hK => ?_)
                        refine value_ (w1 := ?_) (v := ?_) (by rfl) rfl ?_ ?_
                        rotate_left 2
                        · go_simp
                          constructor
                          · rfl
                          · rfl
                        refine hK.out _ _ ⟨(blk_cell (blk_alloc BK286.out _) 0).trans rfl, (blk_cell (blk_alloc BK286.out _) 1).trans rfl, (blk_cell (blk_alloc BK286.out _) 2).trans rfl, (blk_cell (blk_alloc BK286.out _) 3).trans rfl, (blk_cell (blk_alloc BK286.out _) 4).trans rfl, (World.cell?_alloc_lt _ _ _ (World.block_lt_of_cell? _ _ (((HB.out.cell (World.block_lt_of_cell? w _ hw291_0)).trans hw291_0)))).trans (((HB.out.cell (World.block_lt_of_cell? w _ hw291_0)).trans hw291_0))⟩ (fun hHeld => ?_)
                        clear hK K
                        refine norm_ (a' := ?_) ?_ ?_
                        rotate_left
                        · show Act.put _ (some 55) _ = _
                          simp only [Act.put, List.setIfInBounds_toArray, List.set_cons_zero, List.set_cons_succ, i64_w, i32_w]
                          rfl
                        refine one_ (i := 8) (N := some 56) #[true, true, true, true, true, true, true, true, true, false, false] rfl rfl (one_of HT_.out (by kernel_rfl)) (by decide) (fun K hK => ?_)
                        refine Kd.R_append_step k30 (w0 := w) w.heap.size (by rfl) (.tmp 49) (.tmp 55) 22 30 (.agg #[(.int .i64 0), (.int .i64 0), (.string ⟨#[]⟩), (.slice none 0 0), (.slice none 0 0)]) 80 rfl Tryd.underlying22 info30 rfl (by decide) (by omega) u287004 x287004_3 (⟨3, rd l1 x8_3, (⟨#[]⟩ : ByteArray), ([] : List ByteArray), ([] : List (S30))⟩ : S30) [.int .i64 3, .int .i64 (rd l1 x8_3), .string (⟨#[]⟩ : ByteArray), .slice none 0 0, .slice none 0 0] (fun k_ => some k_ ≠ (u286004 : Value).ownBlock ∧ k_ ≠ gb285 ∧ k_ ≠ gb286) (fun k_ => ((fun k_ => some k_ ≠ (u286004 : Value).ownBlock ∧ k_ ≠ gb285 ∧ k_ ≠ gb286)) k_ ∧ some k_ ≠ (u287004 : Value).ownBlock) rfl rfl ?aP (fun _ hk => hk) ?aF ?aO ?aB ?aS ?aL ?_
                        (case aP => exact k30_mkM _ _ _ (⟨3, rd l1 x8_3, (⟨#[]⟩ : ByteArray), ([] : List ByteArray), ([] : List (S30))⟩ : S30) (Kd.R_nil _ _ _ _ _) (Kd.R_nil _ _ _ _ _))
                        (case aB => exact (by repeat (first | (with_reducible first | exact HB.out | apply below_alloc | apply pw_below_drewN | apply below_drew1 | refine below_set ?_ GE285.out | refine below_set ?_ GE286.out) | exact HB.out)))
                        (case aF => exact (fun k_ hk => ⟨Kd.fresh' (Kd.R_lt (by (with_reducible repeat (first | apply Kd.R_alloc | apply Kd.R_drewN | apply Kd.R_drew)); exact HO_286004.out)) k_ hk, Kd.freshB (g := gb285) (o := .cells #[.int .i64 5, .int .i64 0, .string (⟨#[]⟩ : ByteArray), .slice none 0 0, u286004] 30 (0, 0)) (by (with_reducible repeat (first | refine blk_drewN ?_ _ | refine blk_drew ?_ | refine blk_alloc ?_ _)); exact BK285.out) k_ hk, Kd.freshB (g := gb286) (o := .cells #[.int .i64 5, .int .i64 0, .string (⟨#[]⟩ : ByteArray), .slice none 0 0, u287004] 30 (0, 0)) (by (with_reducible repeat (first | refine blk_drewN ?_ _ | refine blk_drew ?_ | refine blk_alloc ?_ _)); exact BK286.out) k_ hk⟩))
                        (case aO => exact (by (with_reducible repeat (first | apply Kd.R_alloc | apply Kd.R_drewN | apply Kd.R_drew)); exact HO_287004.out))
                        (case aS => exact (below_size (by repeat (first | (with_reducible first | exact HB.out | apply below_alloc | apply pw_below_drewN | apply below_drew1 | refine below_set ?_ GE285.out | refine below_set ?_ GE286.out) | exact HB.out))))
                        (case aL => have := LMc27.out; omega)
                        intro v293 w29 ho hb hg hat
                        rw [← Ny292.out] at ho
                        have n0_ := Aside0.mk (Kd.R_after (ok := (fun k_ => k_ ≠ gb285 ∧ k_ ≠ gb286)) (by (with_reducible repeat (first | apply Kd.R_alloc | apply Kd.R_drewN | apply Kd.R_drew)); exact Kd.R_mono HO_286004.out (fun _ hk => ⟨⟨hk.2.1, hk.2.2⟩, hk.1⟩)) hg hat)
                        have n1_ := Aside0.mk (blk_grown (g := gb285) (o := .cells #[.int .i64 5, .int .i64 0, .string (⟨#[]⟩ : ByteArray), .slice none 0 0, u286004] 30 (0, 0)) (by (with_reducible repeat (first | refine blk_drewN ?_ _ | refine blk_drew ?_ | refine blk_alloc ?_ _)); exact BK285.out) hg (Kd.R_away HO_287004.out (fun _ hk => hk.2.1)))
                        have n2_ := Aside0.mk (blk_grown (g := gb286) (o := .cells #[.int .i64 5, .int .i64 0, .string (⟨#[]⟩ : ByteArray), .slice none 0 0, u287004] 30 (0, 0)) (by (with_reducible repeat (first | refine blk_drewN ?_ _ | refine blk_drew ?_ | refine blk_alloc ?_ _)); exact BK286.out) hg (Kd.R_away HO_287004.out (fun _ hk => hk.2.2)))
                        have n3_ := Aside0.mk (hb)
                        have n4_ := Aside0.mk (ho)
                        clear HO_286004
                        clear BK285
                        clear BK286
                        clear HB
                        clear HO_287004
                        have HO_286004 := n0_
                        have BK285 := n1_
                        have BK286 := n2_
                        have HB := n3_
                        have HO294 := n4_
                        clear n0_ n1_ n2_ n3_ n4_
                        clear ho hb hg hat
                        obtain ⟨Ao30, co30, eo30⟩ := Kd.R_slice HO294.out
                        (first | subst eo30 | (injection eo30 with f1_ f2_ f3_; have f4_ := f1_.symm; have f5_ := f3_.symm; clear f1_ f2_ f3_; subst f4_; subst f5_))
                        refine hK.out _ _ ⟨(blk_cell BK286.out 0).trans rfl, (blk_cell BK286.out 1).trans rfl, (blk_cell BK286.out 2).trans rfl, (blk_cell BK286.out 3).trans rfl, (blk_cell BK286.out 4).trans rfl, ((HB.out.cell (World.block_lt_of_cell? w _ hw291_0)).trans hw291_0)⟩ (fun hHeld => ?_)
                        clear hK K
                        refine norm_ (a' := ?_) ?_ ?_
                        rotate_left
                        · show Act.put _ (some 56) _ = _
                          simp only [Act.put, List.setIfInBounds_toArray, List.set_cons_zero, List.set_cons_succ, i64_w, i32_w]
                          rfl
                        refine pure_ (i := 9) (N := some 57) (v := ?_) (a' := ?_) #[true, true, true, true, true, true, true, true, true, true, false] rfl rfl (any_of HT_.out (by kernel_rfl)) (fun _ _ _ h => h) (Or.inl ⟨by rfl, ?_⟩) ?_ ?_
                        rotate_left
                        · intro w'
                          go_simp
                          with_reducible rfl
                        rotate_left
                        · simp only [Act.put, List.setIfInBounds_toArray, List.set_cons_zero, List.set_cons_succ, i64_w, i32_w]
                          rfl
                        refine last_ (i := 10) (N := none) #[true, true, true, true, true, true, true, true, true, true, true] rfl rfl (one_of HT_.out (by kernel_rfl)) (by decide) (fun K hK => ?_)
                        have hs31 : w29.cell? ⟨gb286, 4, none⟩ = some (u287004) := (blk_cell BK286.out 4).trans rfl
                        have hfs31 := blk_frozen BK286.out 4
                        have hns31_0 := NB285_286.out
                        have hms31_0 := NB286_285.out
                        refine skip_ (w1 := ?_) (by rfl) rfl ?_ ?_
                        rotate_left
                        · go_simp
                          rfl
                        refine hK.out _ _ ?_
                        clear hK K
                        refine done_ (done_of HT_.out (by kernel_rfl)) ?_
                        try go_wp2
                        go_roundg k3
                        case measure => have := HJ2.out; have := HK2.out; have := HK3.out; omega
                        case rel => exact ⟨(wrap64 (x8_3 + 1)), (y292), (.slice Ao30 y292.length co30), (by first | rfl | (simp; done) | (simp [*]; done)), H', ⟨by have := HJ2.out; have := HK2.out; have := HK3.out; omega⟩, ⟨by (with_reducible repeat (first | apply Kd.R_alloc | apply Kd.R_drewN | apply Kd.R_drew)); exact Kd.R_mono (Kd.R_far (p := ⟨gb286, 4, none⟩) (Kd.R_mono HO_286004.out (fun k_ hk => (⟨hk, hk.1.2⟩ : _ ∧ k_ ≠ gb286))) (fun _ hk => hk.2) (.slice Ao30 y292.length co30)) (fun _ hk => ⟨hk.1.2, ⟨hk.1.1.1, hk.1.1.2⟩⟩)⟩, ⟨by (with_reducible repeat (first | apply Kd.R_alloc | apply Kd.R_drewN | apply Kd.R_drew)); exact Kd.R_mono (Kd.R_far (p := ⟨gb286, 4, none⟩) (Kd.R_mono HO294.out (fun k_ hk => (⟨hk, hk.2.2⟩ : _ ∧ k_ ≠ gb286))) (fun _ hk => hk.2) (.slice Ao30 y292.length co30)) (fun _ hk => ⟨hk.1.1, ⟨hk.1.2.1, hk.1.2.2⟩⟩)⟩, ⟨by (with_reducible repeat (first | refine blk_drewN ?_ _ | refine blk_drew ?_ | refine blk_alloc ?_ _)); refine blk_far ?_ NB285_286.out _; (with_reducible repeat (first | refine blk_drewN ?_ _ | refine blk_drew ?_ | refine blk_alloc ?_ _)); exact BK285.out⟩, ⟨by (with_reducible repeat (first | refine blk_drewN ?_ _ | refine blk_drew ?_ | refine blk_alloc ?_ _)); refine blk_put (cs := #[.int .i64 5, .int .i64 0, .string (⟨#[]⟩ : ByteArray), .slice none 0 0, u287004]) ?_ 4 _ rfl; (with_reducible repeat (first | refine blk_drewN ?_ _ | refine blk_drew ?_ | refine blk_alloc ?_ _)); exact BK286.out⟩, ⟨by repeat (first | (with_reducible first | exact HB.out | apply below_alloc | apply pw_below_drewN | apply below_drew1 | refine below_set ?_ GE285.out | refine below_set ?_ GE286.out) | exact HB.out)⟩⟩
                      · rw [if_neg c27] at H
                        exact absurd H (by simp)
                    · rw [if_neg c26] at H
                      exact absurd H (by simp)
                  · rw [if_neg c25] at H
                    have c25b0 : decide (x8_3 < (l1.length : Int)) = false := decide_eq_false c25
                    clear c25
                    have H' := Aside0.mk H
                    clear H
                    go_wp2
                    go_loopg [9, 10] k3 (fun kq v9 v10 w' => ∃ (x9_4 : Int) (x10_4 : Int), v9 = .int .i64 x9_4 ∧ v10 = .int .i64 x10_4 ∧ Aside0 (munimentlaw03_OrderLists.l2 kq l0 l1 x9_4 x10_4 5 0 (⟨#[]⟩ : ByteArray) x286004_2 5 0 (⟨#[]⟩ : ByteArray) x287004_3 = some r) ∧ Aside0 (kq ≤ k3) ∧ Aside0 (Kd.R k30 30 w' w.heap.size (fun k_ => some k_ ≠ (u287004 : Value).ownBlock ∧ k_ ≠ gb285 ∧ k_ ≠ gb286) u286004 x286004_2) ∧ Aside0 (Kd.R k30 30 w' w.heap.size (fun k_ => some k_ ≠ (u286004 : Value).ownBlock ∧ k_ ≠ gb285 ∧ k_ ≠ gb286) u287004 x287004_3) ∧ Aside0 (w'.heap[gb285]? = some (.cells #[.int .i64 5, .int .i64 0, .string (⟨#[]⟩ : ByteArray), (.slice none 0 0), u286004] 30 (0, 0))) ∧ Aside0 (w'.heap[gb286]? = some (.cells #[.int .i64 5, .int .i64 0, .string (⟨#[]⟩ : ByteArray), (.slice none 0 0), u287004] 30 (0, 0))) ∧ Aside0 (Below w.heap.size w w'))
                    case atStart => exact ⟨(0), (0), (by first | rfl | (simp; done) | (simp [*]; done)), (by first | rfl | (simp; done) | (simp [*]; done)), H', ⟨Nat.le_refl _⟩, ⟨by (with_reducible repeat (first | apply Kd.R_alloc | apply Kd.R_drewN | apply Kd.R_drew)); exact HO_286004.out⟩, ⟨by (with_reducible repeat (first | apply Kd.R_alloc | apply Kd.R_drewN | apply Kd.R_drew)); exact HO_287004.out⟩, ⟨by (with_reducible repeat (first | refine blk_drewN ?_ _ | refine blk_drew ?_ | refine blk_alloc ?_ _)); exact BK285.out⟩, ⟨by (with_reducible repeat (first | refine blk_drewN ?_ _ | refine blk_drew ?_ | refine blk_alloc ?_ _)); exact BK286.out⟩, ⟨by repeat (first | (with_reducible first | exact HB.out | apply below_alloc | apply pw_below_drewN | apply below_drew1 | refine below_set ?_ GE285.out | refine below_set ?_ GE286.out) | exact HB.out)⟩⟩
                    case round =>
                      clear H'
                      try clear c1
                      try clear c2
                      try clear p2
                      try clear q2
                      try clear hx2
                      try clear c5
                      try clear c6
                      try clear c6b0
                      try clear c6b1
                      try clear p6
                      try clear c8
                      try clear c9
                      try clear c10
                      try clear c15
                      try clear c18
                      try clear c18b0
                      try clear c19
                      try clear c19b0
                      try clear c20
                      try clear c25
                      try clear c25b0
                      try clear c26
                      try clear c26b0
                      try clear c27
                      try clear p28
                      try clear q28
                      try clear hx28
                      try clear p29
                      try clear q29
                      try clear hx29
                      try clear hcz16_0
                      try clear hcz16_1
                      try clear hcz16_2
                      try clear hcz16_3
                      try clear hcz16_4
                      try clear hcz17_0
                      try clear hcz17_1
                      try clear hcz17_2
                      try clear hcz17_3
                      try clear hcz17_4
                      try clear hfz16_0
                      try clear hfz16_1
                      try clear hfz16_2
                      try clear hfz16_3
                      try clear hfz16_4
                      try clear hfz17_0
                      try clear hfz17_1
                      try clear hfz17_2
                      try clear hfz17_3
                      try clear hfz17_4
                      try clear hx287_0
                      try clear hx291_0
                      try clear p2
                      try clear p287
                      try clear p291
                      try clear p6
                      try clear q2
                      try clear q287
                      try clear q291
                      obtain ⟨x9_4, x10_4, rfl, rfl, HA, HK4, HO_286004, HO_287004, BK285, BK286, HB⟩ := hrel
                      cases gk with
                      | zero => exact absurd HA.out (by simp [munimentlaw03_OrderLists.l2])
                      | succ k4 =>
                        have H := HA.out
                        clear HA
                        simp only [munimentlaw03_OrderLists.l2] at H
                        have HC32 := Aside0.mk H
                        clear H
                        go_upto_region 14 with (fail)
                        go_cut [71] (fun v71 wc => ∃ (kq : Nat) (x71_31 : Bool), v71 = .bool x71_31 ∧ Aside0 (munimentlaw03_OrderLists.j4 kq l0 l1 x9_4 x10_4 x71_31 5 0 (⟨#[]⟩ : ByteArray) x286004_2 5 0 (⟨#[]⟩ : ByteArray) x287004_3 = some r) ∧ Aside0 (kq ≤ k4) ∧ Aside0 (Kd.R k30 30 wc w.heap.size (fun k_ => some k_ ≠ (u287004 : Value).ownBlock ∧ k_ ≠ gb285 ∧ k_ ≠ gb286) u286004 x286004_2) ∧ Aside0 (Kd.R k30 30 wc w.heap.size (fun k_ => some k_ ≠ (u286004 : Value).ownBlock ∧ k_ ≠ gb285 ∧ k_ ≠ gb286) u287004 x287004_3) ∧ Aside0 (wc.heap[gb285]? = some (.cells #[.int .i64 5, .int .i64 0, .string (⟨#[]⟩ : ByteArray), (.slice none 0 0), u286004] 30 (0, 0))) ∧ Aside0 (wc.heap[gb286]? = some (.cells #[.int .i64 5, .int .i64 0, .string (⟨#[]⟩ : ByteArray), (.slice none 0 0), u287004] 30 (0, 0))) ∧ Aside0 (Below w.heap.size w wc))
                        case first =>
                          have H := HC32.out
                          clear HC32
                          by_cases c33 : x10_4 < (l0.length : Int)
                          · rw [if_pos c33] at H
                            have c33b0 : decide (x10_4 < (l0.length : Int)) = true := decide_eq_true c33
                            clear c33
                            (first | rw [c33b0] | (simp only [i64_w, i32_w]; rw [c33b0]) | skip)
                            by_cases c34 : x10_4 < (l1.length : Int)
                            · rw [if_pos c34] at H
                              have c34b0 : decide (x10_4 < (l1.length : Int)) = true := decide_eq_true c34
                              clear c34
                              have H' := Aside0.mk H
                              clear H
                              go_wp2
                              go_meet
                              case rel => exact ⟨_, ((x9_4 == 0)), (by first | rfl | (simp; done) | (simp [*]; done)), H', ⟨by have := HJ2.out; have := HK2.out; have := HK3.out; have := HK4.out; first | omega | exact Nat.le_refl _⟩, ⟨by (with_reducible repeat (first | apply Kd.R_alloc | apply Kd.R_drewN | apply Kd.R_drew)); exact HO_286004.out⟩, ⟨by (with_reducible repeat (first | apply Kd.R_alloc | apply Kd.R_drewN | apply Kd.R_drew)); exact HO_287004.out⟩, ⟨by (with_reducible repeat (first | refine blk_drewN ?_ _ | refine blk_drew ?_ | refine blk_alloc ?_ _)); exact BK285.out⟩, ⟨by (with_reducible repeat (first | refine blk_drewN ?_ _ | refine blk_drew ?_ | refine blk_alloc ?_ _)); exact BK286.out⟩, ⟨by repeat (first | (with_reducible first | exact HB.out | apply below_alloc | apply pw_below_drewN | apply below_drew1 | refine below_set ?_ GE285.out | refine below_set ?_ GE286.out) | exact HB.out)⟩⟩
                            · rw [if_neg c34] at H
                              have c34b0 : decide (x10_4 < (l1.length : Int)) = false := decide_eq_false c34
                              clear c34
                              have H' := Aside0.mk H
                              clear H
                              go_wp2
                              go_meet
                              case rel => exact ⟨_, (false), (by first | rfl | (simp; done) | (simp [*]; done)), H', ⟨by have := HJ2.out; have := HK2.out; have := HK3.out; have := HK4.out; first | omega | exact Nat.le_refl _⟩, ⟨by (with_reducible repeat (first | apply Kd.R_alloc | apply Kd.R_drewN | apply Kd.R_drew)); exact HO_286004.out⟩, ⟨by (with_reducible repeat (first | apply Kd.R_alloc | apply Kd.R_drewN | apply Kd.R_drew)); exact HO_287004.out⟩, ⟨by (with_reducible repeat (first | refine blk_drewN ?_ _ | refine blk_drew ?_ | refine blk_alloc ?_ _)); exact BK285.out⟩, ⟨by (with_reducible repeat (first | refine blk_drewN ?_ _ | refine blk_drew ?_ | refine blk_alloc ?_ _)); exact BK286.out⟩, ⟨by repeat (first | (with_reducible first | exact HB.out | apply below_alloc | apply pw_below_drewN | apply below_drew1 | refine below_set ?_ GE285.out | refine below_set ?_ GE286.out) | exact HB.out)⟩⟩
                          · rw [if_neg c33] at H
                            have c33b0 : decide (x10_4 < (l0.length : Int)) = false := decide_eq_false c33
                            clear c33
                            (first | rw [c33b0] | (simp only [i64_w, i32_w]; rw [c33b0]) | skip)
                            have H' := Aside0.mk H
                            clear H
                            go_wp2
                            go_meet
                            case rel => exact ⟨_, (false), (by first | rfl | (simp; done) | (simp [*]; done)), H', ⟨by have := HJ2.out; have := HK2.out; have := HK3.out; have := HK4.out; first | omega | exact Nat.le_refl _⟩, ⟨by (with_reducible repeat (first | apply Kd.R_alloc | apply Kd.R_drewN | apply Kd.R_drew)); exact HO_286004.out⟩, ⟨by (with_reducible repeat (first | apply Kd.R_alloc | apply Kd.R_drewN | apply Kd.R_drew)); exact HO_287004.out⟩, ⟨by (with_reducible repeat (first | refine blk_drewN ?_ _ | refine blk_drew ?_ | refine blk_alloc ?_ _)); exact BK285.out⟩, ⟨by (with_reducible repeat (first | refine blk_drewN ?_ _ | refine blk_drew ?_ | refine blk_alloc ?_ _)); exact BK286.out⟩, ⟨by repeat (first | (with_reducible first | exact HB.out | apply below_alloc | apply pw_below_drewN | apply below_drew1 | refine below_set ?_ GE285.out | refine below_set ?_ GE286.out) | exact HB.out)⟩⟩
                        case rest =>
                          clear HC32
                          try clear c1
                          try clear c2
                          try clear p2
                          try clear q2
                          try clear hx2
                          try clear c3
                          try clear c5
                          try clear c6
                          try clear c6b0
                          try clear c6b1
                          try clear p6
                          try clear c8
                          try clear c9
                          try clear c10
                          try clear c15
                          try clear c18
                          try clear c18b0
                          try clear c19
                          try clear c19b0
                          try clear c20
                          try clear c25
                          try clear c25b0
                          try clear c26
                          try clear c26b0
                          try clear c27
                          try clear p28
                          try clear q28
                          try clear hx28
                          try clear p29
                          try clear q29
                          try clear hx29
                          try clear c33
                          try clear c33b0
                          try clear c34
                          try clear c34b0
                          try clear hcz16_0
                          try clear hcz16_1
                          try clear hcz16_2
                          try clear hcz16_3
                          try clear hcz16_4
                          try clear hcz17_0
                          try clear hcz17_1
                          try clear hcz17_2
                          try clear hcz17_3
                          try clear hcz17_4
                          try clear hfz16_0
                          try clear hfz16_1
                          try clear hfz16_2
                          try clear hfz16_3
                          try clear hfz16_4
                          try clear hfz17_0
                          try clear hfz17_1
                          try clear hfz17_2
                          try clear hfz17_3
                          try clear hfz17_4
                          try clear hx287_0
                          try clear hx291_0
                          try clear p2
                          try clear p28
                          try clear p287
                          try clear p29
                          try clear p291
                          try clear p6
                          try clear q2
                          try clear q28
                          try clear q287
                          try clear q29
                          try clear q291
                          obtain ⟨kq, x71_31, rfl, HA, HJ31, HO_286004, HO_287004, BK285, BK286, HB⟩ := hcut
                          cases kq with
                          | zero => exact absurd HA.out (by simp [munimentlaw03_OrderLists.j4])
                          | succ kj31 =>
                            have H := HA.out
                            clear HA
                            simp only [munimentlaw03_OrderLists.j4] at H
                            by_cases c35 : x71_31 = true
                            · subst c35
                              have H1 : (if 0 ≤ x10_4 then (if x10_4 < (l0.length : Int) then (if x10_4 < (l1.length : Int) then (if (rd l0 x10_4) < (rd l1 x10_4) then (munimentlaw03_OrderLists.l2 kj31 l0 l1 (-1) (wrap64 (x10_4 + 1)) 5 0 (⟨#[]⟩ : ByteArray) x286004_2 5 0 (⟨#[]⟩ : ByteArray) x287004_3) else (if (rd l0 x10_4) > (rd l1 x10_4) then (munimentlaw03_OrderLists.l2 kj31 l0 l1 1 (wrap64 (x10_4 + 1)) 5 0 (⟨#[]⟩ : ByteArray) x286004_2 5 0 (⟨#[]⟩ : ByteArray) x287004_3) else (munimentlaw03_OrderLists.l2 kj31 l0 l1 x9_4 (wrap64 (x10_4 + 1)) 5 0 (⟨#[]⟩ : ByteArray) x286004_2 5 0 (⟨#[]⟩ : ByteArray) x287004_3))) else (none)) else (none)) else (none)) = some r := by rw [if_pos rfl] at H; exact H
                              clear H
                              have H := H1
                              clear H1
                              by_cases c36 : 0 ≤ x10_4
                              · rw [if_pos c36] at H
                                have c36b0 : decide (0 ≤ x10_4) = true := decide_eq_true c36
                                clear c36
                                by_cases c37 : x10_4 < (l0.length : Int)
                                · rw [if_pos c37] at H
                                  have c37b0 : decide (x10_4 < (l0.length : Int)) = true := decide_eq_true c37
                                  clear c37
                                  by_cases c38 : x10_4 < (l1.length : Int)
                                  · rw [if_pos c38] at H
                                    have c38b0 : decide (x10_4 < (l1.length : Int)) = true := decide_eq_true c38
                                    clear c38
                                    by_cases c39 : (rd l0 x10_4) < (rd l1 x10_4)
                                    · rw [if_pos c39] at H
                                      have c39b0 : decide ((rd l0 x10_4) < (rd l1 x10_4)) = true := decide_eq_true c39
                                      clear c39
                                      have H' := Aside0.mk H
                                      clear H
                                      try go_wp2
                                      have n0_ := Aside0.mk (Kd.R_drew HO_286004.out)
                                      have n1_ := Aside0.mk (Kd.R_drew HO_287004.out)
                                      have n2_ := Aside0.mk (blk_drew BK285.out)
                                      have n3_ := Aside0.mk (blk_drew BK286.out)
                                      have n4_ := Aside0.mk (below_drew1 HB.out)
                                      clear HO_286004
                                      clear HO_287004
                                      clear BK285
                                      clear BK286
                                      clear HB
                                      have HO_286004 := n0_
                                      have HO_287004 := n1_
                                      have BK285 := n2_
                                      have BK286 := n3_
                                      have HB := n4_
                                      clear n0_ n1_ n2_ n3_ n4_
                                      have p295 : 0 ≤ (x10_4 : Int) := of_decide_eq_true (by first | (with_reducible assumption) | assumption)
                                      have q295 : x10_4 < (l0.length : Int) := of_decide_eq_true (by first | (with_reducible assumption) | assumption)
                                      obtain ⟨ad295, e295, hx295_0⟩ := Kd.at_int HR0.out x10_4 p295 q295
                                      have hw295_0 := hx295_0
                                      cases e295
                                      replace hx295_0 := (HB.out.cell (World.block_lt_of_cell? w _ hx295_0)).trans hx295_0
                                      replace p295 := eq_true p295
                                      replace q295 := eq_true q295
                                      have p296 : 0 ≤ (x10_4 : Int) := of_decide_eq_true (by first | (with_reducible assumption) | assumption)
                                      have q296 : x10_4 < (l1.length : Int) := of_decide_eq_true (by first | (with_reducible assumption) | assumption)
                                      obtain ⟨ad296, e296, hx296_0⟩ := Kd.at_int HR1.out x10_4 p296 q296
                                      have hw296_0 := hx296_0
                                      cases e296
                                      replace hx296_0 := (HB.out.cell (World.block_lt_of_cell? w _ hx296_0)).trans hx296_0
                                      replace p296 := eq_true p296
                                      replace q296 := eq_true q296
                                      refine start_ (n := 9) (S := fun w' => w'.cell? (ad295.add (x10_4).toNat) = some (.int .i64 (rd l0 x10_4)) ∧ w'.cell? (ad296.add (x10_4).toNat) = some (.int .i64 (rd l1 x10_4))) (ds := []) #[false, false, false, false, false, false, false, false, false] (by kernel_rfl) rfl rfl ⟨((HB.out.cell (World.block_lt_of_cell? w _ hw295_0)).trans hw295_0), ((HB.out.cell (World.block_lt_of_cell? w _ hw296_0)).trans hw296_0)⟩ (fun hHeld => ?_); refine with_tabW munimentlaw03_OrderLists.tab16 munimentlaw03_OrderLists.bits16 (fun HT_ HW_ => ?_)
                                      generalize wc.drew = w40 at HO_286004 HO_287004 BK285 BK286 HB hx295_0 hx296_0 hHeld ⊢
                                      refine pure_ (i := 0) (N := some 74) (v := ?_) (a' := ?_) #[true, false, false, false, false, false, false, false, false] rfl rfl (any_of HT_.out (by kernel_rfl)) (fun _ _ _ h => h) (Or.inl ⟨by rfl, ?_⟩) ?_ ?_
                                      rotate_left
                                      · intro w'
                                        go_simp
                                        with_reducible rfl
                                      rotate_left
                                      · simp only [Act.put, List.setIfInBounds_toArray, List.set_cons_zero, List.set_cons_succ, i64_w, i32_w]
                                        rfl
                                      refine pure_ (i := 1) (N := some 75) (v := ?_) (a' := ?_) #[true, true, false, false, false, false, false, false, false] rfl rfl (any_of HT_.out (by kernel_rfl)) (fun _ _ _ h => h) (Or.inl ⟨by rfl, ?_⟩) ?_ ?_
                                      rotate_left
                                      · intro w'
                                        go_simp
                                        with_reducible rfl
                                      rotate_left
                                      · simp only [Act.put, List.setIfInBounds_toArray, List.set_cons_zero, List.set_cons_succ, i64_w, i32_w]
                                        rfl
                                      refine pure_ (i := 2) (N := some 76) (v := ?_) (a' := ?_) #[true, true, true, false, false, false, false, false, false] rfl rfl (any_of HT_.out (by kernel_rfl)) (fun _ _ _ h => h) (Or.inl ⟨by rfl, ?_⟩) ?_ ?_
                                      rotate_left
                                      · intro w'
                                        go_simp
                                        with_reducible rfl
                                      rotate_left
                                      · simp only [Act.put, List.setIfInBounds_toArray, List.set_cons_zero, List.set_cons_succ, i64_w, i32_w]
                                        rfl
                                      refine pure_ (i := 4) (N := some 78) (v := ?_) (a' := ?_) #[true, true, true, false, true, false, false, false, false] rfl rfl (any_of HT_.out (by kernel_rfl)) (fun _ _ _ h => h) (Or.inl ⟨by rfl, ?_⟩) ?_ ?_
                                      rotate_left
                                      · intro w'
                                        go_simp
                                        with_reducible rfl
                                      rotate_left
                                      · simp only [Act.put, List.setIfInBounds_toArray, List.set_cons_zero, List.set_cons_succ, i64_w, i32_w]
                                        rfl
                                      refine pure_ (i := 5) (N := some 79) (v := ?_) (a' := ?_) #[true, true, true, false, true, true, false, false, false] rfl rfl (any_of HT_.out (by kernel_rfl)) (fun _ _ _ h => h) (Or.inl ⟨by rfl, ?_⟩) ?_ ?_
                                      rotate_left
                                      · intro w'
                                        go_simp
                                        with_reducible rfl
                                      rotate_left
                                      · simp only [Act.put, List.setIfInBounds_toArray, List.set_cons_zero, List.set_cons_succ, i64_w, i32_w]
                                        rfl
                                      refine pure_ (i := 6) (N := some 80) (v := ?_) (a' := ?_) #[true, true, true, false, true, true, true, false, false] rfl rfl (any_of HT_.out (by kernel_rfl)) (fun _ _ _ h => h) (Or.inl ⟨by rfl, ?_⟩) ?_ ?_
                                      rotate_left
                                      · intro w'
                                        go_simp
                                        with_reducible rfl
                                      rotate_left
                                      · simp only [Act.put, List.setIfInBounds_toArray, List.set_cons_zero, List.set_cons_succ, i64_w, i32_w]
                                        rfl
                                      refine take_ (i := 3) (N := some 77) (v := ?_) (a' := ?_) #[true, true, true, true, true, true, true, false, false] rfl rfl (take_ofW HT_.out HW_.out (by kernel_rfl)) (fun _ _ _ h => h) (Or.inl ⟨by rfl, ?_⟩) hHeld ?_ ?_
                                      rotate_left
                                      · rintro w' ⟨s0, s1⟩
                                        go_simp
                                        with_reducible rfl
                                      rotate_left
                                      · simp only [Act.put, List.setIfInBounds_toArray, List.set_cons_zero, List.set_cons_succ, i64_w, i32_w]
                                        rfl
                                      refine take_ (i := 7) (N := some 81) (v := ?_) (a' := ?_) #[true, true, true, true, true, true, true, true, false] rfl rfl (take_ofW HT_.out HW_.out (by kernel_rfl)) (fun _ _ _ h => h) (Or.inl ⟨by rfl, ?_⟩) hHeld ?_ ?_
                                      rotate_left
                                      · rintro w' ⟨s0, s1⟩
                                        go_simp
                                        with_reducible rfl
                                      rotate_left
                                      · simp only [Act.put, List.setIfInBounds_toArray, List.set_cons_zero, List.set_cons_succ, i64_w, i32_w]
                                        rfl
                                      refine pure_ (i := 8) (N := some 82) (v := ?_) (a' := ?_) #[true, true, true, true, true, true, true, true, true] rfl rfl (any_of HT_.out (by kernel_rfl)) (fun _ _ _ h => h) (Or.inl ⟨by rfl, ?_⟩) ?_ ?_
                                      rotate_left
                                      · intro w'
                                        go_simp
                                        with_reducible rfl
                                      rotate_left
                                      · simp only [Act.put, List.setIfInBounds_toArray, List.set_cons_zero, List.set_cons_succ, i64_w, i32_w]
                                        rfl
                                      refine done_ (done_of HT_.out (by kernel_rfl)) ?_
                                      try go_wp2
                                      go_roundg kj31
                                      case measure => have := HJ2.out; have := HK2.out; have := HK3.out; have := HK4.out; have := HJ31.out; omega
                                      case rel => exact ⟨((-1)), (wrap64 (x10_4 + 1)), (by first | rfl | (simp; done) | (simp [*]; done)), (by first | rfl | (simp; done) | (simp [*]; done)), H', ⟨by have := HJ2.out; have := HK2.out; have := HK3.out; have := HK4.out; have := HJ31.out; omega⟩, ⟨by (with_reducible repeat (first | apply Kd.R_alloc | apply Kd.R_drewN | apply Kd.R_drew)); exact HO_286004.out⟩, ⟨by (with_reducible repeat (first | apply Kd.R_alloc | apply Kd.R_drewN | apply Kd.R_drew)); exact HO_287004.out⟩, ⟨by (with_reducible repeat (first | refine blk_drewN ?_ _ | refine blk_drew ?_ | refine blk_alloc ?_ _)); exact BK285.out⟩, ⟨by (with_reducible repeat (first | refine blk_drewN ?_ _ | refine blk_drew ?_ | refine blk_alloc ?_ _)); exact BK286.out⟩, ⟨by repeat (first | (with_reducible first | exact HB.out | apply below_alloc | apply pw_below_drewN | apply below_drew1 | refine below_set ?_ GE285.out | refine below_set ?_ GE286.out) | exact HB.out)⟩⟩
                                    · rw [if_neg c39] at H
                                      have c39b0 : decide ((rd l0 x10_4) < (rd l1 x10_4)) = false := decide_eq_false c39
                                      clear c39
                                      by_cases c41 : (rd l0 x10_4) > (rd l1 x10_4)
                                      · rw [if_pos c41] at H
                                        have c41b0 : decide ((rd l1 x10_4) < (rd l0 x10_4)) = true := decide_eq_true c41
                                        clear c41
                                        have H' := Aside0.mk H
                                        clear H
                                        try go_wp2
                                        have n0_ := Aside0.mk (Kd.R_drew HO_286004.out)
                                        have n1_ := Aside0.mk (Kd.R_drew HO_287004.out)
                                        have n2_ := Aside0.mk (blk_drew BK285.out)
                                        have n3_ := Aside0.mk (blk_drew BK286.out)
                                        have n4_ := Aside0.mk (below_drew1 HB.out)
                                        clear HO_286004
                                        clear HO_287004
                                        clear BK285
                                        clear BK286
                                        clear HB
                                        have HO_286004 := n0_
                                        have HO_287004 := n1_
                                        have BK285 := n2_
                                        have BK286 := n3_
                                        have HB := n4_
                                        clear n0_ n1_ n2_ n3_ n4_
                                        have p295 : 0 ≤ (x10_4 : Int) := of_decide_eq_true (by first | (with_reducible assumption) | assumption)
                                        have q295 : x10_4 < (l0.length : Int) := of_decide_eq_true (by first | (with_reducible assumption) | assumption)
                                        obtain ⟨ad295, e295, hx295_0⟩ := Kd.at_int HR0.out x10_4 p295 q295
                                        have hw295_0 := hx295_0
                                        cases e295
                                        replace hx295_0 := (HB.out.cell (World.block_lt_of_cell? w _ hx295_0)).trans hx295_0
                                        replace p295 := eq_true p295
                                        replace q295 := eq_true q295
                                        have p296 : 0 ≤ (x10_4 : Int) := of_decide_eq_true (by first | (with_reducible assumption) | assumption)
                                        have q296 : x10_4 < (l1.length : Int) := of_decide_eq_true (by first | (with_reducible assumption) | assumption)
                                        obtain ⟨ad296, e296, hx296_0⟩ := Kd.at_int HR1.out x10_4 p296 q296
                                        have hw296_0 := hx296_0
                                        cases e296
                                        replace hx296_0 := (HB.out.cell (World.block_lt_of_cell? w _ hx296_0)).trans hx296_0
                                        replace p296 := eq_true p296
                                        replace q296 := eq_true q296
                                        refine start_ (n := 9) (S := fun w' => w'.cell? (ad295.add (x10_4).toNat) = some (.int .i64 (rd l0 x10_4)) ∧ w'.cell? (ad296.add (x10_4).toNat) = some (.int .i64 (rd l1 x10_4))) (ds := []) #[false, false, false, false, false, false, false, false, false] (by kernel_rfl) rfl rfl ⟨((HB.out.cell (World.block_lt_of_cell? w _ hw295_0)).trans hw295_0), ((HB.out.cell (World.block_lt_of_cell? w _ hw296_0)).trans hw296_0)⟩ (fun hHeld => ?_); refine with_tabW munimentlaw03_OrderLists.tab16 munimentlaw03_OrderLists.bits16 (fun HT_ HW_ => ?_)
                                        generalize wc.drew = w42 at HO_286004 HO_287004 BK285 BK286 HB hx295_0 hx296_0 hHeld ⊢
                                        refine pure_ (i := 0) (N := some 74) (v := ?_) (a' := ?_) #[true, false, false, false, false, false, false, false, false] rfl rfl (any_of HT_.out (by kernel_rfl)) (fun _ _ _ h => h) (Or.inl ⟨by rfl, ?_⟩) ?_ ?_
                                        rotate_left
                                        · intro w'
                                          go_simp
                                          with_reducible rfl
                                        rotate_left
                                        · simp only [Act.put, List.setIfInBounds_toArray, List.set_cons_zero, List.set_cons_succ, i64_w, i32_w]
                                          rfl
                                        refine pure_ (i := 1) (N := some 75) (v := ?_) (a' := ?_) #[true, true, false, false, false, false, false, false, false] rfl rfl (any_of HT_.out (by kernel_rfl)) (fun _ _ _ h => h) (Or.inl ⟨by rfl, ?_⟩) ?_ ?_
                                        rotate_left
                                        · intro w'
                                          go_simp
                                          with_reducible rfl
                                        rotate_left
                                        · simp only [Act.put, List.setIfInBounds_toArray, List.set_cons_zero, List.set_cons_succ, i64_w, i32_w]
                                          rfl
                                        refine pure_ (i := 2) (N := some 76) (v := ?_) (a' := ?_) #[true, true, true, false, false, false, false, false, false] rfl rfl (any_of HT_.out (by kernel_rfl)) (fun _ _ _ h => h) (Or.inl ⟨by rfl, ?_⟩) ?_ ?_
                                        rotate_left
                                        · intro w'
                                          go_simp
                                          with_reducible rfl
                                        rotate_left
                                        · simp only [Act.put, List.setIfInBounds_toArray, List.set_cons_zero, List.set_cons_succ, i64_w, i32_w]
                                          rfl
                                        refine pure_ (i := 4) (N := some 78) (v := ?_) (a' := ?_) #[true, true, true, false, true, false, false, false, false] rfl rfl (any_of HT_.out (by kernel_rfl)) (fun _ _ _ h => h) (Or.inl ⟨by rfl, ?_⟩) ?_ ?_
                                        rotate_left
                                        · intro w'
                                          go_simp
                                          with_reducible rfl
                                        rotate_left
                                        · simp only [Act.put, List.setIfInBounds_toArray, List.set_cons_zero, List.set_cons_succ, i64_w, i32_w]
                                          rfl
                                        refine pure_ (i := 5) (N := some 79) (v := ?_) (a' := ?_) #[true, true, true, false, true, true, false, false, false] rfl rfl (any_of HT_.out (by kernel_rfl)) (fun _ _ _ h => h) (Or.inl ⟨by rfl, ?_⟩) ?_ ?_
                                        rotate_left
                                        · intro w'
                                          go_simp
                                          with_reducible rfl
                                        rotate_left
                                        · simp only [Act.put, List.setIfInBounds_toArray, List.set_cons_zero, List.set_cons_succ, i64_w, i32_w]
                                          rfl
                                        refine pure_ (i := 6) (N := some 80) (v := ?_) (a' := ?_) #[true, true, true, false, true, true, true, false, false] rfl rfl (any_of HT_.out (by kernel_rfl)) (fun _ _ _ h => h) (Or.inl ⟨by rfl, ?_⟩) ?_ ?_
                                        rotate_left
                                        · intro w'
                                          go_simp
                                          with_reducible rfl
                                        rotate_left
                                        · simp only [Act.put, List.setIfInBounds_toArray, List.set_cons_zero, List.set_cons_succ, i64_w, i32_w]
                                          rfl
                                        refine take_ (i := 3) (N := some 77) (v := ?_) (a' := ?_) #[true, true, true, true, true, true, true, false, false] rfl rfl (take_ofW HT_.out HW_.out (by kernel_rfl)) (fun _ _ _ h => h) (Or.inl ⟨by rfl, ?_⟩) hHeld ?_ ?_
                                        rotate_left
                                        · rintro w' ⟨s0, s1⟩
                                          go_simp
                                          with_reducible rfl
                                        rotate_left
                                        · simp only [Act.put, List.setIfInBounds_toArray, List.set_cons_zero, List.set_cons_succ, i64_w, i32_w]
                                          rfl
                                        refine take_ (i := 7) (N := some 81) (v := ?_) (a' := ?_) #[true, true, true, true, true, true, true, true, false] rfl rfl (take_ofW HT_.out HW_.out (by kernel_rfl)) (fun _ _ _ h => h) (Or.inl ⟨by rfl, ?_⟩) hHeld ?_ ?_
                                        rotate_left
                                        · rintro w' ⟨s0, s1⟩
                                          go_simp
                                          with_reducible rfl
                                        rotate_left
                                        · simp only [Act.put, List.setIfInBounds_toArray, List.set_cons_zero, List.set_cons_succ, i64_w, i32_w]
                                          rfl
                                        refine pure_ (i := 8) (N := some 82) (v := ?_) (a' := ?_) #[true, true, true, true, true, true, true, true, true] rfl rfl (any_of HT_.out (by kernel_rfl)) (fun _ _ _ h => h) (Or.inl ⟨by rfl, ?_⟩) ?_ ?_
                                        rotate_left
                                        · intro w'
                                          go_simp
                                          with_reducible rfl
                                        rotate_left
                                        · simp only [Act.put, List.setIfInBounds_toArray, List.set_cons_zero, List.set_cons_succ, i64_w, i32_w]
                                          rfl
                                        refine done_ (done_of HT_.out (by kernel_rfl)) ?_
                                        try go_wp2
                                        have n0_ := Aside0.mk (Kd.R_drew HO_286004.out)
                                        have n1_ := Aside0.mk (Kd.R_drew HO_287004.out)
                                        have n2_ := Aside0.mk (blk_drew BK285.out)
                                        have n3_ := Aside0.mk (blk_drew BK286.out)
                                        have n4_ := Aside0.mk (below_drew1 HB.out)
                                        clear HO_286004
                                        clear HO_287004
                                        clear BK285
                                        clear BK286
                                        clear HB
                                        have HO_286004 := n0_
                                        have HO_287004 := n1_
                                        have BK285 := n2_
                                        have BK286 := n3_
                                        have HB := n4_
                                        clear n0_ n1_ n2_ n3_ n4_
                                        have p297 : 0 ≤ (x10_4 : Int) := of_decide_eq_true (by first | (with_reducible assumption) | assumption)
                                        have q297 : x10_4 < (l0.length : Int) := of_decide_eq_true (by first | (with_reducible assumption) | assumption)
                                        obtain ⟨ad297, e297, hx297_0⟩ := Kd.at_int HR0.out x10_4 p297 q297
                                        have hw297_0 := hx297_0
                                        obtain rfl : ad295 = ad297 := (by injection e297)
                                        replace hx297_0 := (HB.out.cell (World.block_lt_of_cell? w _ hx297_0)).trans hx297_0
                                        replace p297 := eq_true p297
                                        replace q297 := eq_true q297
                                        have p298 : 0 ≤ (x10_4 : Int) := of_decide_eq_true (by first | (with_reducible assumption) | assumption)
                                        have q298 : x10_4 < (l1.length : Int) := of_decide_eq_true (by first | (with_reducible assumption) | assumption)
                                        obtain ⟨ad298, e298, hx298_0⟩ := Kd.at_int HR1.out x10_4 p298 q298
                                        have hw298_0 := hx298_0
                                        obtain rfl : ad296 = ad298 := (by injection e298)
                                        replace hx298_0 := (HB.out.cell (World.block_lt_of_cell? w _ hx298_0)).trans hx298_0
                                        replace p298 := eq_true p298
                                        replace q298 := eq_true q298
                                        refine start_ (n := 9) (S := fun w' => w'.cell? (ad295.add (x10_4).toNat) = some (.int .i64 (rd l0 x10_4)) ∧ w'.cell? (ad296.add (x10_4).toNat) = some (.int .i64 (rd l1 x10_4))) (ds := []) #[false, false, false, false, false, false, false, false, false] (by kernel_rfl) rfl rfl ⟨((HB.out.cell (World.block_lt_of_cell? w _ hw297_0)).trans hw297_0), ((HB.out.cell (World.block_lt_of_cell? w _ hw298_0)).trans hw298_0)⟩ (fun hHeld => ?_); refine with_tabW munimentlaw03_OrderLists.tab18 munimentlaw03_OrderLists.bits18 (fun HT_ HW_ => ?_)
                                        generalize w42.drew = w43 at HO_286004 HO_287004 BK285 BK286 HB hx297_0 hx298_0 hHeld ⊢
                                        refine pure_ (i := 0) (N := some 83) (v := ?_) (a' := ?_) #[true, false, false, false, false, false, false, false, false] rfl rfl (any_of HT_.out (by kernel_rfl)) (fun _ _ _ h => h) (Or.inl ⟨by rfl, ?_⟩) ?_ ?_
                                        rotate_left
                                        · intro w'
                                          go_simp
                                          with_reducible rfl
                                        rotate_left
                                        · simp only [Act.put, List.setIfInBounds_toArray, List.set_cons_zero, List.set_cons_succ, i64_w, i32_w]
                                          rfl
                                        refine pure_ (i := 1) (N := some 84) (v := ?_) (a' := ?_) #[true, true, false, false, false, false, false, false, false] rfl rfl (any_of HT_.out (by kernel_rfl)) (fun _ _ _ h => h) (Or.inl ⟨by rfl, ?_⟩) ?_ ?_
                                        rotate_left
                                        · intro w'
                                          go_simp
                                          with_reducible rfl
                                        rotate_left
                                        · simp only [Act.put, List.setIfInBounds_toArray, List.set_cons_zero, List.set_cons_succ, i64_w, i32_w]
                                          rfl
                                        refine pure_ (i := 2) (N := some 85) (v := ?_) (a' := ?_) #[true, true, true, false, false, false, false, false, false] rfl rfl (any_of HT_.out (by kernel_rfl)) (fun _ _ _ h => h) (Or.inl ⟨by rfl, ?_⟩) ?_ ?_
                                        rotate_left
                                        · intro w'
                                          go_simp
                                          with_reducible rfl
                                        rotate_left
                                        · simp only [Act.put, List.setIfInBounds_toArray, List.set_cons_zero, List.set_cons_succ, i64_w, i32_w]
                                          rfl
                                        refine pure_ (i := 4) (N := some 87) (v := ?_) (a' := ?_) #[true, true, true, false, true, false, false, false, false] rfl rfl (any_of HT_.out (by kernel_rfl)) (fun _ _ _ h => h) (Or.inl ⟨by rfl, ?_⟩) ?_ ?_
                                        rotate_left
                                        · intro w'
                                          go_simp
                                          with_reducible rfl
                                        rotate_left
                                        · simp only [Act.put, List.setIfInBounds_toArray, List.set_cons_zero, List.set_cons_succ, i64_w, i32_w]
                                          rfl
                                        refine pure_ (i := 5) (N := some 88) (v := ?_) (a' := ?_) #[true, true, true, false, true, true, false, false, false] rfl rfl (any_of HT_.out (by kernel_rfl)) (fun _ _ _ h => h) (Or.inl ⟨by rfl, ?_⟩) ?_ ?_
                                        rotate_left
                                        · intro w'
                                          go_simp
                                          with_reducible rfl
                                        rotate_left
                                        · simp only [Act.put, List.setIfInBounds_toArray, List.set_cons_zero, List.set_cons_succ, i64_w, i32_w]
                                          rfl
                                        refine pure_ (i := 6) (N := some 89) (v := ?_) (a' := ?_) #[true, true, true, false, true, true, true, false, false] rfl rfl (any_of HT_.out (by kernel_rfl)) (fun _ _ _ h => h) (Or.inl ⟨by rfl, ?_⟩) ?_ ?_
                                        rotate_left
                                        · intro w'
                                          go_simp
                                          with_reducible rfl
                                        rotate_left
                                        · simp only [Act.put, List.setIfInBounds_toArray, List.set_cons_zero, List.set_cons_succ, i64_w, i32_w]
                                          rfl
                                        refine take_ (i := 3) (N := some 86) (v := ?_) (a' := ?_) #[true, true, true, true, true, true, true, false, false] rfl rfl (take_ofW HT_.out HW_.out (by kernel_rfl)) (fun _ _ _ h => h) (Or.inl ⟨by rfl, ?_⟩) hHeld ?_ ?_
                                        rotate_left
                                        · rintro w' ⟨s0, s1⟩
                                          go_simp
                                          with_reducible rfl
                                        rotate_left
                                        · simp only [Act.put, List.setIfInBounds_toArray, List.set_cons_zero, List.set_cons_succ, i64_w, i32_w]
                                          rfl
                                        refine take_ (i := 7) (N := some 90) (v := ?_) (a' := ?_) #[true, true, true, true, true, true, true, true, false] rfl rfl (take_ofW HT_.out HW_.out (by kernel_rfl)) (fun _ _ _ h => h) (Or.inl ⟨by rfl, ?_⟩) hHeld ?_ ?_
                                        rotate_left
                                        · rintro w' ⟨s0, s1⟩
                                          go_simp
                                          with_reducible rfl
                                        rotate_left
                                        · simp only [Act.put, List.setIfInBounds_toArray, List.set_cons_zero, List.set_cons_succ, i64_w, i32_w]
                                          rfl
                                        refine pure_ (i := 8) (N := some 91) (v := ?_) (a' := ?_) #[true, true, true, true, true, true, true, true, true] rfl rfl (any_of HT_.out (by kernel_rfl)) (fun _ _ _ h => h) (Or.inl ⟨by rfl, ?_⟩) ?_ ?_
                                        rotate_left
                                        · intro w'
                                          go_simp
                                          with_reducible rfl
                                        rotate_left
                                        · simp only [Act.put, List.setIfInBounds_toArray, List.set_cons_zero, List.set_cons_succ, i64_w, i32_w]
                                          rfl
                                        refine done_ (done_of HT_.out (by kernel_rfl)) ?_
                                        try go_wp2
                                        go_roundg kj31
                                        case measure => have := HJ2.out; have := HK2.out; have := HK3.out; have := HK4.out; have := HJ31.out; omega
                                        case rel => exact ⟨(1), (wrap64 (x10_4 + 1)), (by first | rfl | (simp; done) | (simp [*]; done)), (by first | rfl | (simp; done) | (simp [*]; done)), H', ⟨by have := HJ2.out; have := HK2.out; have := HK3.out; have := HK4.out; have := HJ31.out; omega⟩, ⟨by (with_reducible repeat (first | apply Kd.R_alloc | apply Kd.R_drewN | apply Kd.R_drew)); exact HO_286004.out⟩, ⟨by (with_reducible repeat (first | apply Kd.R_alloc | apply Kd.R_drewN | apply Kd.R_drew)); exact HO_287004.out⟩, ⟨by (with_reducible repeat (first | refine blk_drewN ?_ _ | refine blk_drew ?_ | refine blk_alloc ?_ _)); exact BK285.out⟩, ⟨by (with_reducible repeat (first | refine blk_drewN ?_ _ | refine blk_drew ?_ | refine blk_alloc ?_ _)); exact BK286.out⟩, ⟨by repeat (first | (with_reducible first | exact HB.out | apply below_alloc | apply pw_below_drewN | apply below_drew1 | refine below_set ?_ GE285.out | refine below_set ?_ GE286.out) | exact HB.out)⟩⟩
                                      · rw [if_neg c41] at H
                                        have c41b0 : decide ((rd l1 x10_4) < (rd l0 x10_4)) = false := decide_eq_false c41
                                        clear c41
                                        have H' := Aside0.mk H
                                        clear H
                                        try go_wp2
                                        have n0_ := Aside0.mk (Kd.R_drew HO_286004.out)
                                        have n1_ := Aside0.mk (Kd.R_drew HO_287004.out)
                                        have n2_ := Aside0.mk (blk_drew BK285.out)
                                        have n3_ := Aside0.mk (blk_drew BK286.out)
                                        have n4_ := Aside0.mk (below_drew1 HB.out)
                                        clear HO_286004
                                        clear HO_287004
                                        clear BK285
                                        clear BK286
                                        clear HB
                                        have HO_286004 := n0_
                                        have HO_287004 := n1_
                                        have BK285 := n2_
                                        have BK286 := n3_
                                        have HB := n4_
                                        clear n0_ n1_ n2_ n3_ n4_
                                        have p295 : 0 ≤ (x10_4 : Int) := of_decide_eq_true (by first | (with_reducible assumption) | assumption)
                                        have q295 : x10_4 < (l0.length : Int) := of_decide_eq_true (by first | (with_reducible assumption) | assumption)
                                        obtain ⟨ad295, e295, hx295_0⟩ := Kd.at_int HR0.out x10_4 p295 q295
                                        have hw295_0 := hx295_0
                                        cases e295
                                        replace hx295_0 := (HB.out.cell (World.block_lt_of_cell? w _ hx295_0)).trans hx295_0
                                        replace p295 := eq_true p295
                                        replace q295 := eq_true q295
                                        have p296 : 0 ≤ (x10_4 : Int) := of_decide_eq_true (by first | (with_reducible assumption) | assumption)
                                        have q296 : x10_4 < (l1.length : Int) := of_decide_eq_true (by first | (with_reducible assumption) | assumption)
                                        obtain ⟨ad296, e296, hx296_0⟩ := Kd.at_int HR1.out x10_4 p296 q296
                                        have hw296_0 := hx296_0
                                        cases e296
                                        replace hx296_0 := (HB.out.cell (World.block_lt_of_cell? w _ hx296_0)).trans hx296_0
                                        replace p296 := eq_true p296
                                        replace q296 := eq_true q296
                                        refine start_ (n := 9) (S := fun w' => w'.cell? (ad295.add (x10_4).toNat) = some (.int .i64 (rd l0 x10_4)) ∧ w'.cell? (ad296.add (x10_4).toNat) = some (.int .i64 (rd l1 x10_4))) (ds := []) #[false, false, false, false, false, false, false, false, false] (by kernel_rfl) rfl rfl ⟨((HB.out.cell (World.block_lt_of_cell? w _ hw295_0)).trans hw295_0), ((HB.out.cell (World.block_lt_of_cell? w _ hw296_0)).trans hw296_0)⟩ (fun hHeld => ?_); refine with_tabW munimentlaw03_OrderLists.tab16 munimentlaw03_OrderLists.bits16 (fun HT_ HW_ => ?_)
                                        generalize wc.drew = w44 at HO_286004 HO_287004 BK285 BK286 HB hx295_0 hx296_0 hHeld ⊢
                                        refine pure_ (i := 0) (N := some 74) (v := ?_) (a' := ?_) #[true, false, false, false, false, false, false, false, false] rfl rfl (any_of HT_.out (by kernel_rfl)) (fun _ _ _ h => h) (Or.inl ⟨by rfl, ?_⟩) ?_ ?_
                                        rotate_left
                                        · intro w'
                                          go_simp
                                          with_reducible rfl
                                        rotate_left
                                        · simp only [Act.put, List.setIfInBounds_toArray, List.set_cons_zero, List.set_cons_succ, i64_w, i32_w]
                                          rfl
                                        refine pure_ (i := 1) (N := some 75) (v := ?_) (a' := ?_) #[true, true, false, false, false, false, false, false, false] rfl rfl (any_of HT_.out (by kernel_rfl)) (fun _ _ _ h => h) (Or.inl ⟨by rfl, ?_⟩) ?_ ?_
                                        rotate_left
                                        · intro w'
                                          go_simp
                                          with_reducible rfl
                                        rotate_left
                                        · simp only [Act.put, List.setIfInBounds_toArray, List.set_cons_zero, List.set_cons_succ, i64_w, i32_w]
                                          rfl
                                        refine pure_ (i := 2) (N := some 76) (v := ?_) (a' := ?_) #[true, true, true, false, false, false, false, false, false] rfl rfl (any_of HT_.out (by kernel_rfl)) (fun _ _ _ h => h) (Or.inl ⟨by rfl, ?_⟩) ?_ ?_
                                        rotate_left
                                        · intro w'
                                          go_simp
                                          with_reducible rfl
                                        rotate_left
                                        · simp only [Act.put, List.setIfInBounds_toArray, List.set_cons_zero, List.set_cons_succ, i64_w, i32_w]
                                          rfl
                                        refine pure_ (i := 4) (N := some 78) (v := ?_) (a' := ?_) #[true, true, true, false, true, false, false, false, false] rfl rfl (any_of HT_.out (by kernel_rfl)) (fun _ _ _ h => h) (Or.inl ⟨by rfl, ?_⟩) ?_ ?_
                                        rotate_left
                                        · intro w'
                                          go_simp
                                          with_reducible rfl
                                        rotate_left
                                        · simp only [Act.put, List.setIfInBounds_toArray, List.set_cons_zero, List.set_cons_succ, i64_w, i32_w]
                                          rfl
                                        refine pure_ (i := 5) (N := some 79) (v := ?_) (a' := ?_) #[true, true, true, false, true, true, false, false, false] rfl rfl (any_of HT_.out (by kernel_rfl)) (fun _ _ _ h => h) (Or.inl ⟨by rfl, ?_⟩) ?_ ?_
                                        rotate_left
                                        · intro w'
                                          go_simp
                                          with_reducible rfl
                                        rotate_left
                                        · simp only [Act.put, List.setIfInBounds_toArray, List.set_cons_zero, List.set_cons_succ, i64_w, i32_w]
                                          rfl
                                        refine pure_ (i := 6) (N := some 80) (v := ?_) (a' := ?_) #[true, true, true, false, true, true, true, false, false] rfl rfl (any_of HT_.out (by kernel_rfl)) (fun _ _ _ h => h) (Or.inl ⟨by rfl, ?_⟩) ?_ ?_
                                        rotate_left
                                        · intro w'
                                          go_simp
                                          with_reducible rfl
                                        rotate_left
                                        · simp only [Act.put, List.setIfInBounds_toArray, List.set_cons_zero, List.set_cons_succ, i64_w, i32_w]
                                          rfl
                                        refine take_ (i := 3) (N := some 77) (v := ?_) (a' := ?_) #[true, true, true, true, true, true, true, false, false] rfl rfl (take_ofW HT_.out HW_.out (by kernel_rfl)) (fun _ _ _ h => h) (Or.inl ⟨by rfl, ?_⟩) hHeld ?_ ?_
                                        rotate_left
                                        · rintro w' ⟨s0, s1⟩
                                          go_simp
                                          with_reducible rfl
                                        rotate_left
                                        · simp only [Act.put, List.setIfInBounds_toArray, List.set_cons_zero, List.set_cons_succ, i64_w, i32_w]
                                          rfl
                                        refine take_ (i := 7) (N := some 81) (v := ?_) (a' := ?_) #[true, true, true, true, true, true, true, true, false] rfl rfl (take_ofW HT_.out HW_.out (by kernel_rfl)) (fun _ _ _ h => h) (Or.inl ⟨by rfl, ?_⟩) hHeld ?_ ?_
                                        rotate_left
                                        · rintro w' ⟨s0, s1⟩
                                          go_simp
                                          with_reducible rfl
                                        rotate_left
                                        · simp only [Act.put, List.setIfInBounds_toArray, List.set_cons_zero, List.set_cons_succ, i64_w, i32_w]
                                          rfl
                                        refine pure_ (i := 8) (N := some 82) (v := ?_) (a' := ?_) #[true, true, true, true, true, true, true, true, true] rfl rfl (any_of HT_.out (by kernel_rfl)) (fun _ _ _ h => h) (Or.inl ⟨by rfl, ?_⟩) ?_ ?_
                                        rotate_left
                                        · intro w'
                                          go_simp
                                          with_reducible rfl
                                        rotate_left
                                        · simp only [Act.put, List.setIfInBounds_toArray, List.set_cons_zero, List.set_cons_succ, i64_w, i32_w]
                                          rfl
                                        refine done_ (done_of HT_.out (by kernel_rfl)) ?_
                                        try go_wp2
                                        have n0_ := Aside0.mk (Kd.R_drew HO_286004.out)
                                        have n1_ := Aside0.mk (Kd.R_drew HO_287004.out)
                                        have n2_ := Aside0.mk (blk_drew BK285.out)
                                        have n3_ := Aside0.mk (blk_drew BK286.out)
                                        have n4_ := Aside0.mk (below_drew1 HB.out)
                                        clear HO_286004
                                        clear HO_287004
                                        clear BK285
                                        clear BK286
                                        clear HB
                                        have HO_286004 := n0_
                                        have HO_287004 := n1_
                                        have BK285 := n2_
                                        have BK286 := n3_
                                        have HB := n4_
                                        clear n0_ n1_ n2_ n3_ n4_
                                        have p297 : 0 ≤ (x10_4 : Int) := of_decide_eq_true (by first | (with_reducible assumption) | assumption)
                                        have q297 : x10_4 < (l0.length : Int) := of_decide_eq_true (by first | (with_reducible assumption) | assumption)
                                        obtain ⟨ad297, e297, hx297_0⟩ := Kd.at_int HR0.out x10_4 p297 q297
                                        have hw297_0 := hx297_0
                                        obtain rfl : ad295 = ad297 := (by injection e297)
                                        replace hx297_0 := (HB.out.cell (World.block_lt_of_cell? w _ hx297_0)).trans hx297_0
                                        replace p297 := eq_true p297
                                        replace q297 := eq_true q297
                                        have p298 : 0 ≤ (x10_4 : Int) := of_decide_eq_true (by first | (with_reducible assumption) | assumption)
                                        have q298 : x10_4 < (l1.length : Int) := of_decide_eq_true (by first | (with_reducible assumption) | assumption)
                                        obtain ⟨ad298, e298, hx298_0⟩ := Kd.at_int HR1.out x10_4 p298 q298
                                        have hw298_0 := hx298_0
                                        obtain rfl : ad296 = ad298 := (by injection e298)
                                        replace hx298_0 := (HB.out.cell (World.block_lt_of_cell? w _ hx298_0)).trans hx298_0
                                        replace p298 := eq_true p298
                                        replace q298 := eq_true q298
                                        refine start_ (n := 9) (S := fun w' => w'.cell? (ad295.add (x10_4).toNat) = some (.int .i64 (rd l0 x10_4)) ∧ w'.cell? (ad296.add (x10_4).toNat) = some (.int .i64 (rd l1 x10_4))) (ds := []) #[false, false, false, false, false, false, false, false, false] (by kernel_rfl) rfl rfl ⟨((HB.out.cell (World.block_lt_of_cell? w _ hw297_0)).trans hw297_0), ((HB.out.cell (World.block_lt_of_cell? w _ hw298_0)).trans hw298_0)⟩ (fun hHeld => ?_); refine with_tabW munimentlaw03_OrderLists.tab18 munimentlaw03_OrderLists.bits18 (fun HT_ HW_ => ?_)
                                        generalize w44.drew = w45 at HO_286004 HO_287004 BK285 BK286 HB hx297_0 hx298_0 hHeld ⊢
                                        refine pure_ (i := 0) (N := some 83) (v := ?_) (a' := ?_) #[true, false, false, false, false, false, false, false, false] rfl rfl (any_of HT_.out (by kernel_rfl)) (fun _ _ _ h => h) (Or.inl ⟨by rfl, ?_⟩) ?_ ?_
                                        rotate_left
                                        · intro w'
                                          go_simp
                                          with_reducible rfl
                                        rotate_left
                                        · simp only [Act.put, List.setIfInBounds_toArray, List.set_cons_zero, List.set_cons_succ, i64_w, i32_w]
                                          rfl
                                        refine pure_ (i := 1) (N := some 84) (v := ?_) (a' := ?_) #[true, true, false, false, false, false, false, false, false] rfl rfl (any_of HT_.out (by kernel_rfl)) (fun _ _ _ h => h) (Or.inl ⟨by rfl, ?_⟩) ?_ ?_
                                        rotate_left
                                        · intro w'
                                          go_simp
                                          with_reducible rfl
                                        rotate_left
                                        · simp only [Act.put, List.setIfInBounds_toArray, List.set_cons_zero, List.set_cons_succ, i64_w, i32_w]
                                          rfl
                                        refine pure_ (i := 2) (N := some 85) (v := ?_) (a' := ?_) #[true, true, true, false, false, false, false, false, false] rfl rfl (any_of HT_.out (by kernel_rfl)) (fun _ _ _ h => h) (Or.inl ⟨by rfl, ?_⟩) ?_ ?_
                                        rotate_left
                                        · intro w'
                                          go_simp
                                          with_reducible rfl
                                        rotate_left
                                        · simp only [Act.put, List.setIfInBounds_toArray, List.set_cons_zero, List.set_cons_succ, i64_w, i32_w]
                                          rfl
                                        refine pure_ (i := 4) (N := some 87) (v := ?_) (a' := ?_) #[true, true, true, false, true, false, false, false, false] rfl rfl (any_of HT_.out (by kernel_rfl)) (fun _ _ _ h => h) (Or.inl ⟨by rfl, ?_⟩) ?_ ?_
                                        rotate_left
                                        · intro w'
                                          go_simp
                                          with_reducible rfl
                                        rotate_left
                                        · simp only [Act.put, List.setIfInBounds_toArray, List.set_cons_zero, List.set_cons_succ, i64_w, i32_w]
                                          rfl
                                        refine pure_ (i := 5) (N := some 88) (v := ?_) (a' := ?_) #[true, true, true, false, true, true, false, false, false] rfl rfl (any_of HT_.out (by kernel_rfl)) (fun _ _ _ h => h) (Or.inl ⟨by rfl, ?_⟩) ?_ ?_
                                        rotate_left
                                        · intro w'
                                          go_simp
                                          with_reducible rfl
                                        rotate_left
                                        · simp only [Act.put, List.setIfInBounds_toArray, List.set_cons_zero, List.set_cons_succ, i64_w, i32_w]
                                          rfl
                                        refine pure_ (i := 6) (N := some 89) (v := ?_) (a' := ?_) #[true, true, true, false, true, true, true, false, false] rfl rfl (any_of HT_.out (by kernel_rfl)) (fun _ _ _ h => h) (Or.inl ⟨by rfl, ?_⟩) ?_ ?_
                                        rotate_left
                                        · intro w'
                                          go_simp
                                          with_reducible rfl
                                        rotate_left
                                        · simp only [Act.put, List.setIfInBounds_toArray, List.set_cons_zero, List.set_cons_succ, i64_w, i32_w]
                                          rfl
                                        refine take_ (i := 3) (N := some 86) (v := ?_) (a' := ?_) #[true, true, true, true, true, true, true, false, false] rfl rfl (take_ofW HT_.out HW_.out (by kernel_rfl)) (fun _ _ _ h => h) (Or.inl ⟨by rfl, ?_⟩) hHeld ?_ ?_
                                        rotate_left
                                        · rintro w' ⟨s0, s1⟩
                                          go_simp
                                          with_reducible rfl
                                        rotate_left
                                        · simp only [Act.put, List.setIfInBounds_toArray, List.set_cons_zero, List.set_cons_succ, i64_w, i32_w]
                                          rfl
                                        refine take_ (i := 7) (N := some 90) (v := ?_) (a' := ?_) #[true, true, true, true, true, true, true, true, false] rfl rfl (take_ofW HT_.out HW_.out (by kernel_rfl)) (fun _ _ _ h => h) (Or.inl ⟨by rfl, ?_⟩) hHeld ?_ ?_
                                        rotate_left
                                        · rintro w' ⟨s0, s1⟩
                                          go_simp
                                          with_reducible rfl
                                        rotate_left
                                        · simp only [Act.put, List.setIfInBounds_toArray, List.set_cons_zero, List.set_cons_succ, i64_w, i32_w]
                                          rfl
                                        refine pure_ (i := 8) (N := some 91) (v := ?_) (a' := ?_) #[true, true, true, true, true, true, true, true, true] rfl rfl (any_of HT_.out (by kernel_rfl)) (fun _ _ _ h => h) (Or.inl ⟨by rfl, ?_⟩) ?_ ?_
                                        rotate_left
                                        · intro w'
                                          go_simp
                                          with_reducible rfl
                                        rotate_left
                                        · simp only [Act.put, List.setIfInBounds_toArray, List.set_cons_zero, List.set_cons_succ, i64_w, i32_w]
                                          rfl
                                        refine done_ (done_of HT_.out (by kernel_rfl)) ?_
                                        try go_wp2
                                        go_roundg kj31
                                        case measure => have := HJ2.out; have := HK2.out; have := HK3.out; have := HK4.out; have := HJ31.out; omega
                                        case rel => exact ⟨(x9_4), (wrap64 (x10_4 + 1)), (by first | rfl | (simp; done) | (simp [*]; done)), (by first | rfl | (simp; done) | (simp [*]; done)), H', ⟨by have := HJ2.out; have := HK2.out; have := HK3.out; have := HK4.out; have := HJ31.out; omega⟩, ⟨by (with_reducible repeat (first | apply Kd.R_alloc | apply Kd.R_drewN | apply Kd.R_drew)); exact HO_286004.out⟩, ⟨by (with_reducible repeat (first | apply Kd.R_alloc | apply Kd.R_drewN | apply Kd.R_drew)); exact HO_287004.out⟩, ⟨by (with_reducible repeat (first | refine blk_drewN ?_ _ | refine blk_drew ?_ | refine blk_alloc ?_ _)); exact BK285.out⟩, ⟨by (with_reducible repeat (first | refine blk_drewN ?_ _ | refine blk_drew ?_ | refine blk_alloc ?_ _)); exact BK286.out⟩, ⟨by repeat (first | (with_reducible first | exact HB.out | apply below_alloc | apply pw_below_drewN | apply below_drew1 | refine below_set ?_ GE285.out | refine below_set ?_ GE286.out) | exact HB.out)⟩⟩
                                  · rw [if_neg c38] at H
                                    exact absurd H (by simp)
                                · rw [if_neg c37] at H
                                  exact absurd H (by simp)
                              · rw [if_neg c36] at H
                                exact absurd H (by simp)
                            · replace c35 := Bool.eq_false_iff.mpr c35
                              subst c35
                              have H1 : (if x9_4 = 0 then (munimentlaw03_OrderLists.j5 kj31 l0 l1 x9_4 (decide ((l0.length : Int) < (l1.length : Int))) 5 0 (⟨#[]⟩ : ByteArray) x286004_2 5 0 (⟨#[]⟩ : ByteArray) x287004_3) else (munimentlaw03_OrderLists.j5 kj31 l0 l1 x9_4 false 5 0 (⟨#[]⟩ : ByteArray) x286004_2 5 0 (⟨#[]⟩ : ByteArray) x287004_3)) = some r := by rw [if_neg (show ¬ (false = true) by decide)] at H; exact H
                              clear H
                              have H := H1
                              clear H1
                              have HC46 := Aside0.mk H
                              clear H
                              go_upto_region 20 with (fail)
                              go_cut [100] (fun v100 wc => ∃ (kq : Nat) (x100_45 : Bool), v100 = .bool x100_45 ∧ Aside0 (munimentlaw03_OrderLists.j5 kq l0 l1 x9_4 x100_45 5 0 (⟨#[]⟩ : ByteArray) x286004_2 5 0 (⟨#[]⟩ : ByteArray) x287004_3 = some r) ∧ Aside0 (kq ≤ kj31) ∧ Aside0 (Kd.R k30 30 wc w.heap.size (fun k_ => some k_ ≠ (u287004 : Value).ownBlock ∧ k_ ≠ gb285 ∧ k_ ≠ gb286) u286004 x286004_2) ∧ Aside0 (Kd.R k30 30 wc w.heap.size (fun k_ => some k_ ≠ (u286004 : Value).ownBlock ∧ k_ ≠ gb285 ∧ k_ ≠ gb286) u287004 x287004_3) ∧ Aside0 (wc.heap[gb285]? = some (.cells #[.int .i64 5, .int .i64 0, .string (⟨#[]⟩ : ByteArray), (.slice none 0 0), u286004] 30 (0, 0))) ∧ Aside0 (wc.heap[gb286]? = some (.cells #[.int .i64 5, .int .i64 0, .string (⟨#[]⟩ : ByteArray), (.slice none 0 0), u287004] 30 (0, 0))) ∧ Aside0 (Below w.heap.size w wc))
                              case first =>
                                have H := HC46.out
                                clear HC46
                                by_cases c47 : x9_4 = 0
                                · rw [if_pos c47] at H
                                  have c47b0 : (x9_4 == 0) = true := beq_iff_eq.mpr c47
                                  have c47b1 : (x9_4 != 0) = false := bne_eq_false_iff_eq.mpr c47
                                  clear c47
                                  (first | rw [c47b0] | (simp only [i64_w, i32_w]; rw [c47b0]) | skip)
                                  have H' := Aside0.mk H
                                  clear H
                                  go_wp2
                                  go_meet
                                  case rel => exact ⟨_, (decide ((l0.length : Int) < (l1.length : Int))), (by first | rfl | (simp; done) | (simp [*]; done)), H', ⟨by have := HJ2.out; have := HK2.out; have := HK3.out; have := HK4.out; have := HJ31.out; first | omega | exact Nat.le_refl _⟩, ⟨by (with_reducible repeat (first | apply Kd.R_alloc | apply Kd.R_drewN | apply Kd.R_drew)); exact HO_286004.out⟩, ⟨by (with_reducible repeat (first | apply Kd.R_alloc | apply Kd.R_drewN | apply Kd.R_drew)); exact HO_287004.out⟩, ⟨by (with_reducible repeat (first | refine blk_drewN ?_ _ | refine blk_drew ?_ | refine blk_alloc ?_ _)); exact BK285.out⟩, ⟨by (with_reducible repeat (first | refine blk_drewN ?_ _ | refine blk_drew ?_ | refine blk_alloc ?_ _)); exact BK286.out⟩, ⟨by repeat (first | (with_reducible first | exact HB.out | apply below_alloc | apply pw_below_drewN | apply below_drew1 | refine below_set ?_ GE285.out | refine below_set ?_ GE286.out) | exact HB.out)⟩⟩
                                · rw [if_neg c47] at H
                                  have c47b0 : (x9_4 == 0) = false := beq_eq_false_iff_ne.mpr c47
                                  have c47b1 : (x9_4 != 0) = true := bne_iff_ne.mpr c47
                                  (first | rw [c47b0] | (simp only [i64_w, i32_w]; rw [c47b0]) | skip)
                                  have H' := Aside0.mk H
                                  clear H
                                  go_wp2
                                  go_meet
                                  case rel => exact ⟨_, (false), (by first | rfl | (simp; done) | (simp [*]; done)), H', ⟨by have := HJ2.out; have := HK2.out; have := HK3.out; have := HK4.out; have := HJ31.out; first | omega | exact Nat.le_refl _⟩, ⟨by (with_reducible repeat (first | apply Kd.R_alloc | apply Kd.R_drewN | apply Kd.R_drew)); exact HO_286004.out⟩, ⟨by (with_reducible repeat (first | apply Kd.R_alloc | apply Kd.R_drewN | apply Kd.R_drew)); exact HO_287004.out⟩, ⟨by (with_reducible repeat (first | refine blk_drewN ?_ _ | refine blk_drew ?_ | refine blk_alloc ?_ _)); exact BK285.out⟩, ⟨by (with_reducible repeat (first | refine blk_drewN ?_ _ | refine blk_drew ?_ | refine blk_alloc ?_ _)); exact BK286.out⟩, ⟨by repeat (first | (with_reducible first | exact HB.out | apply below_alloc | apply pw_below_drewN | apply below_drew1 | refine below_set ?_ GE285.out | refine below_set ?_ GE286.out) | exact HB.out)⟩⟩
                              case rest =>
                                clear HC46
                                try clear p2
                                try clear q2
                                try clear hx2
                                try clear c3
                                try clear c4
                                try clear p6
                                try clear p29
                                try clear q29
                                try clear hx29
                                try clear c35
                                try clear c36
                                try clear c37
                                try clear c38
                                try clear c39
                                try clear c39b0
                                try clear c41
                                try clear c41b0
                                try clear c47
                                try clear c47b0
                                try clear c47b1
                                try clear hx295_0
                                try clear hx296_0
                                try clear hx297_0
                                try clear hx298_0
                                try clear p295
                                try clear p296
                                try clear p297
                                try clear p298
                                try clear q295
                                try clear q296
                                try clear q297
                                try clear q298
                                obtain ⟨kq, x100_45, rfl, HA, HJ45, HO_286004, HO_287004, BK285, BK286, HB⟩ := hcut
                                cases kq with
                                | zero => exact absurd HA.out (by simp [munimentlaw03_OrderLists.j5])
                                | succ kj45 =>
                                  have H := HA.out
                                  clear HA
                                  simp only [munimentlaw03_OrderLists.j5] at H
                                  by_cases c48 : x100_45 = true
                                  · subst c48
                                    have H1 : ((order_Compare.f kj45 5 0 (⟨#[]⟩ : ByteArray) ([] : List ByteArray) x286004_2 5 0 (⟨#[]⟩ : ByteArray) ([] : List ByteArray) x287004_3).bind fun t299 => (some (t299 == (-1)))) = some r := by rw [if_pos rfl] at H; exact H
                                    clear H
                                    have H := H1
                                    clear H1
                                    replace H := Option.bind_eq_some_iff.mp H
                                    obtain ⟨t299, A490, H⟩ := H
                                    replace H : (some (t299 == (-1))) = some r := H
                                    have A49 := Aside0.mk A490
                                    clear A490
                                    obtain rfl := Option.some.inj H
                                    have hnb50 := NB285_286.out
                                    have hnc50 := NB286_285.out
                                    have hcz51_0 : wc.cell? ⟨gb285, 0, none⟩ = some (.int .i64 5) := (blk_cell BK285.out 0).trans rfl
                                    have hcz51_1 : wc.cell? ⟨gb285, 1, none⟩ = some (.int .i64 0) := (blk_cell BK285.out 1).trans rfl
                                    have hcz51_2 : wc.cell? ⟨gb285, 2, none⟩ = some (.string (⟨#[]⟩ : ByteArray)) := (blk_cell BK285.out 2).trans rfl
                                    have hcz51_3 : wc.cell? ⟨gb285, 3, none⟩ = some (.slice none 0 0) := (blk_cell BK285.out 3).trans rfl
                                    have hcz51_4 : wc.cell? ⟨gb285, 4, none⟩ = some (u286004) := (blk_cell BK285.out 4).trans rfl
                                    have hfz51_0 := blk_frozen BK285.out 0
                                    have hfz51_1 := blk_frozen BK285.out 1
                                    have hfz51_2 := blk_frozen BK285.out 2
                                    have hfz51_3 := blk_frozen BK285.out 3
                                    have hfz51_4 := blk_frozen BK285.out 4
                                    have hcz52_0 : wc.cell? ⟨gb286, 0, none⟩ = some (.int .i64 5) := (blk_cell BK286.out 0).trans rfl
                                    have hcz52_1 : wc.cell? ⟨gb286, 1, none⟩ = some (.int .i64 0) := (blk_cell BK286.out 1).trans rfl
                                    have hcz52_2 : wc.cell? ⟨gb286, 2, none⟩ = some (.string (⟨#[]⟩ : ByteArray)) := (blk_cell BK286.out 2).trans rfl
                                    have hcz52_3 : wc.cell? ⟨gb286, 3, none⟩ = some (.slice none 0 0) := (blk_cell BK286.out 3).trans rfl
                                    have hcz52_4 : wc.cell? ⟨gb286, 4, none⟩ = some (u287004) := (blk_cell BK286.out 4).trans rfl
                                    have hfz52_0 := blk_frozen BK286.out 0
                                    have hfz52_1 := blk_frozen BK286.out 1
                                    have hfz52_2 := blk_frozen BK286.out 2
                                    have hfz52_3 := blk_frozen BK286.out 3
                                    have hfz52_4 := blk_frozen BK286.out 4
                                    obtain ⟨Ao53, co53, eo53⟩ := Kd.R_slice HO_286004.out
                                    subst eo53
                                    obtain ⟨Ao54, co54, eo54⟩ := Kd.R_slice HO_287004.out
                                    subst eo54
                                    go_wp2_with (first | ((with_reducible refine gate_callee (f := 17) rfl ?_); refine goesL_ (some 112) rfl rfl Tryd.func17 (by kernel_rfl) rfl #[.agg #[.int .i64 5, .int .i64 0, .string (⟨#[]⟩ : ByteArray), .slice none 0 0, .slice Ao53 x286004_2.length co53], .agg #[.int .i64 5, .int .i64 0, .string (⟨#[]⟩ : ByteArray), .slice none 0 0, .slice Ao54 x287004_3.length co54]] rfl (by (try simp only [List.map_toArray, List.map_cons, List.map_nil]); first | done | rfl | (simp only [List.length_drop, List.length_take]; rfl)) ?_; (refine (order_Compare.calls kj45 5 0 (⟨#[]⟩ : ByteArray) _ _ ([] : List ByteArray) _ _ x286004_2 5 0 (⟨#[]⟩ : ByteArray) _ _ ([] : List ByteArray) _ _ x287004_3 t299 _ ?side1 ?side2 ?side3 ?side4 ?side5 ?side6 ?side7 ?side8 ?side9 A49.out).mono ?_); (case side1 => exact Kd.C_nil _ _); (case side2 => exact Nat.le_refl _); (case side3 => repeat (first | exact (Kd.R_reads' HO_286004.out).2.2 | (with_reducible refine Kd.C_alloc ?_ _) | (with_reducible refine Kd.C_drewN ?_ _) | (with_reducible refine Kd.C_drew ?_))); (case side4 => exact (Kd.R_reads' HO_286004.out).2.1); (case side5 => exact Kd.C_nil _ _); (case side6 => exact Nat.le_refl _); (case side7 => repeat (first | exact (Kd.R_reads' HO_287004.out).2.2 | (with_reducible refine Kd.C_alloc ?_ _) | (with_reducible refine Kd.C_drewN ?_ _) | (with_reducible refine Kd.C_drew ?_))); (case side8 => exact (Kd.R_reads' HO_287004.out).2.1); (case side9 => first | exact HT.out | (refine tabs_below HT.out ?_; repeat (first | exact HB.out | (with_reducible first | apply below_alloc | apply pw_below_drewN | apply below_drew1 | exact Below.refl _ _) | (refine below_set ?_ (Aside0.out (by assumption)))))); rintro e w55 ⟨rfl, hb⟩; refine ⟨_, rfl, ?_⟩; have n0_ := Aside0.mk (Kd.R_below (by (with_reducible repeat (first | apply Kd.R_alloc | apply Kd.R_drewN | apply Kd.R_drew)); exact HO_286004.out) hb); have n1_ := Aside0.mk (Kd.R_below (by (with_reducible repeat (first | apply Kd.R_alloc | apply Kd.R_drewN | apply Kd.R_drew)); exact HO_287004.out) hb); have n2_ := Aside0.mk (blk_below (g := gb285) (o := .cells #[.int .i64 5, .int .i64 0, .string (⟨#[]⟩ : ByteArray), .slice none 0 0, .slice Ao53 x286004_2.length co53] 30 (0, 0)) (by (with_reducible repeat (first | refine blk_drewN ?_ _ | refine blk_drew ?_ | refine blk_alloc ?_ _)); exact BK285.out) hb); have n3_ := Aside0.mk (blk_below (g := gb286) (o := .cells #[.int .i64 5, .int .i64 0, .string (⟨#[]⟩ : ByteArray), .slice none 0 0, .slice Ao54 x287004_3.length co54] 30 (0, 0)) (by (with_reducible repeat (first | refine blk_drewN ?_ _ | refine blk_drew ?_ | refine blk_alloc ?_ _)); exact BK286.out) hb); have n4_ := Aside0.mk (below_step (by repeat (first | (with_reducible first | exact HB.out | apply below_alloc | apply pw_below_drewN | apply below_drew1 | refine below_set ?_ GE285.out | refine below_set ?_ GE286.out) | exact HB.out)) hb); clear HO_286004; clear HO_287004; clear BK285; clear BK286; clear HB; have HO_286004 := n0_; have HO_287004 := n1_; have BK285 := n2_; have BK286 := n3_; have HB := n4_; clear n0_ n1_ n2_ n3_ n4_; (try clear hb); (try clear hb2); (try clear hk); (try clear hi)))
                                    go_ret
                                    exact ⟨by first | rfl | (simp [errW_none, errW_some] <;> rfl) | (simp [*, errW_none, errW_some] <;> rfl), by repeat (first | (with_reducible first | exact HB.out | apply below_alloc | apply pw_below_drewN | apply below_drew1 | refine below_set ?_ GE285.out | refine below_set ?_ GE286.out) | exact HB.out)⟩
                                  · replace c48 := Bool.eq_false_iff.mpr c48
                                    subst c48
                                    have H1 : (if x9_4 = 0 then (if (l0.length : Int) > (l1.length : Int) then ((order_Compare.f kj45 5 0 (⟨#[]⟩ : ByteArray) ([] : List ByteArray) x286004_2 5 0 (⟨#[]⟩ : ByteArray) ([] : List ByteArray) x287004_3).bind fun t300 => (some (t300 == 1))) else ((order_Compare.f kj45 5 0 (⟨#[]⟩ : ByteArray) ([] : List ByteArray) x286004_2 5 0 (⟨#[]⟩ : ByteArray) ([] : List ByteArray) x287004_3).bind fun t301 => (some (t301 == x9_4)))) else ((order_Compare.f kj45 5 0 (⟨#[]⟩ : ByteArray) ([] : List ByteArray) x286004_2 5 0 (⟨#[]⟩ : ByteArray) ([] : List ByteArray) x287004_3).bind fun t302 => (some (t302 == x9_4)))) = some r := by rw [if_neg (show ¬ (false = true) by decide)] at H; exact H
                                    clear H
                                    have H := H1
                                    clear H1
                                    by_cases c56 : x9_4 = 0
                                    · rw [if_pos c56] at H
                                      have c56b0 : (x9_4 == 0) = true := beq_iff_eq.mpr c56
                                      have c56b1 : (x9_4 != 0) = false := bne_eq_false_iff_eq.mpr c56
                                      clear c56
                                      by_cases c57 : (l0.length : Int) > (l1.length : Int)
                                      · rw [if_pos c57] at H
                                        have c57b0 : decide ((l1.length : Int) < (l0.length : Int)) = true := decide_eq_true c57
                                        have c57b1 : decide (l1.length < l0.length) = true := decide_eq_true (Int.ofNat_lt.mp c57)
                                        clear c57
                                        replace H := Option.bind_eq_some_iff.mp H
                                        obtain ⟨t300, A580, H⟩ := H
                                        replace H : (some (t300 == 1)) = some r := H
                                        have A58 := Aside0.mk A580
                                        clear A580
                                        obtain rfl := Option.some.inj H
                                        have hnb59 := NB285_286.out
                                        have hnc59 := NB286_285.out
                                        have hcz60_0 : wc.cell? ⟨gb285, 0, none⟩ = some (.int .i64 5) := (blk_cell BK285.out 0).trans rfl
                                        have hcz60_1 : wc.cell? ⟨gb285, 1, none⟩ = some (.int .i64 0) := (blk_cell BK285.out 1).trans rfl
                                        have hcz60_2 : wc.cell? ⟨gb285, 2, none⟩ = some (.string (⟨#[]⟩ : ByteArray)) := (blk_cell BK285.out 2).trans rfl
                                        have hcz60_3 : wc.cell? ⟨gb285, 3, none⟩ = some (.slice none 0 0) := (blk_cell BK285.out 3).trans rfl
                                        have hcz60_4 : wc.cell? ⟨gb285, 4, none⟩ = some (u286004) := (blk_cell BK285.out 4).trans rfl
                                        have hfz60_0 := blk_frozen BK285.out 0
                                        have hfz60_1 := blk_frozen BK285.out 1
                                        have hfz60_2 := blk_frozen BK285.out 2
                                        have hfz60_3 := blk_frozen BK285.out 3
                                        have hfz60_4 := blk_frozen BK285.out 4
                                        have hcz61_0 : wc.cell? ⟨gb286, 0, none⟩ = some (.int .i64 5) := (blk_cell BK286.out 0).trans rfl
                                        have hcz61_1 : wc.cell? ⟨gb286, 1, none⟩ = some (.int .i64 0) := (blk_cell BK286.out 1).trans rfl
                                        have hcz61_2 : wc.cell? ⟨gb286, 2, none⟩ = some (.string (⟨#[]⟩ : ByteArray)) := (blk_cell BK286.out 2).trans rfl
                                        have hcz61_3 : wc.cell? ⟨gb286, 3, none⟩ = some (.slice none 0 0) := (blk_cell BK286.out 3).trans rfl
                                        have hcz61_4 : wc.cell? ⟨gb286, 4, none⟩ = some (u287004) := (blk_cell BK286.out 4).trans rfl
                                        have hfz61_0 := blk_frozen BK286.out 0
                                        have hfz61_1 := blk_frozen BK286.out 1
                                        have hfz61_2 := blk_frozen BK286.out 2
                                        have hfz61_3 := blk_frozen BK286.out 3
                                        have hfz61_4 := blk_frozen BK286.out 4
                                        obtain ⟨Ao62, co62, eo62⟩ := Kd.R_slice HO_286004.out
                                        subst eo62
                                        obtain ⟨Ao63, co63, eo63⟩ := Kd.R_slice HO_287004.out
                                        subst eo63
                                        go_wp2_with (first | ((with_reducible refine gate_callee (f := 17) rfl ?_); refine goesL_ (some 112) rfl rfl Tryd.func17 (by kernel_rfl) rfl #[.agg #[.int .i64 5, .int .i64 0, .string (⟨#[]⟩ : ByteArray), .slice none 0 0, .slice Ao62 x286004_2.length co62], .agg #[.int .i64 5, .int .i64 0, .string (⟨#[]⟩ : ByteArray), .slice none 0 0, .slice Ao63 x287004_3.length co63]] rfl (by (try simp only [List.map_toArray, List.map_cons, List.map_nil]); first | done | rfl | (simp only [List.length_drop, List.length_take]; rfl)) ?_; (refine (order_Compare.calls kj45 5 0 (⟨#[]⟩ : ByteArray) _ _ ([] : List ByteArray) _ _ x286004_2 5 0 (⟨#[]⟩ : ByteArray) _ _ ([] : List ByteArray) _ _ x287004_3 t300 _ ?side1 ?side2 ?side3 ?side4 ?side5 ?side6 ?side7 ?side8 ?side9 A58.out).mono ?_); (case side1 => exact Kd.C_nil _ _); (case side2 => exact Nat.le_refl _); (case side3 => repeat (first | exact (Kd.R_reads' HO_286004.out).2.2 | (with_reducible refine Kd.C_alloc ?_ _) | (with_reducible refine Kd.C_drewN ?_ _) | (with_reducible refine Kd.C_drew ?_))); (case side4 => exact (Kd.R_reads' HO_286004.out).2.1); (case side5 => exact Kd.C_nil _ _); (case side6 => exact Nat.le_refl _); (case side7 => repeat (first | exact (Kd.R_reads' HO_287004.out).2.2 | (with_reducible refine Kd.C_alloc ?_ _) | (with_reducible refine Kd.C_drewN ?_ _) | (with_reducible refine Kd.C_drew ?_))); (case side8 => exact (Kd.R_reads' HO_287004.out).2.1); (case side9 => first | exact HT.out | (refine tabs_below HT.out ?_; repeat (first | exact HB.out | (with_reducible first | apply below_alloc | apply pw_below_drewN | apply below_drew1 | exact Below.refl _ _) | (refine below_set ?_ (Aside0.out (by assumption)))))); rintro e w64 ⟨rfl, hb⟩; refine ⟨_, rfl, ?_⟩; have n0_ := Aside0.mk (Kd.R_below (by (with_reducible repeat (first | apply Kd.R_alloc | apply Kd.R_drewN | apply Kd.R_drew)); exact HO_286004.out) hb); have n1_ := Aside0.mk (Kd.R_below (by (with_reducible repeat (first | apply Kd.R_alloc | apply Kd.R_drewN | apply Kd.R_drew)); exact HO_287004.out) hb); have n2_ := Aside0.mk (blk_below (g := gb285) (o := .cells #[.int .i64 5, .int .i64 0, .string (⟨#[]⟩ : ByteArray), .slice none 0 0, .slice Ao62 x286004_2.length co62] 30 (0, 0)) (by (with_reducible repeat (first | refine blk_drewN ?_ _ | refine blk_drew ?_ | refine blk_alloc ?_ _)); exact BK285.out) hb); have n3_ := Aside0.mk (blk_below (g := gb286) (o := .cells #[.int .i64 5, .int .i64 0, .string (⟨#[]⟩ : ByteArray), .slice none 0 0, .slice Ao63 x287004_3.length co63] 30 (0, 0)) (by (with_reducible repeat (first | refine blk_drewN ?_ _ | refine blk_drew ?_ | refine blk_alloc ?_ _)); exact BK286.out) hb); have n4_ := Aside0.mk (below_step (by repeat (first | (with_reducible first | exact HB.out | apply below_alloc | apply pw_below_drewN | apply below_drew1 | refine below_set ?_ GE285.out | refine below_set ?_ GE286.out) | exact HB.out)) hb); clear HO_286004; clear HO_287004; clear BK285; clear BK286; clear HB; have HO_286004 := n0_; have HO_287004 := n1_; have BK285 := n2_; have BK286 := n3_; have HB := n4_; clear n0_ n1_ n2_ n3_ n4_; (try clear hb); (try clear hb2); (try clear hk); (try clear hi)))
                                        go_ret
                                        exact ⟨by first | rfl | (simp [errW_none, errW_some] <;> rfl) | (simp [*, errW_none, errW_some] <;> rfl), by repeat (first | (with_reducible first | exact HB.out | apply below_alloc | apply pw_below_drewN | apply below_drew1 | refine below_set ?_ GE285.out | refine below_set ?_ GE286.out) | exact HB.out)⟩
                                      · rw [if_neg c57] at H
                                        have c57b0 : decide ((l1.length : Int) < (l0.length : Int)) = false := decide_eq_false c57
                                        have c57b1 : decide (l1.length < l0.length) = false := decide_eq_false (fun h => c57 (Int.ofNat_lt.mpr h))
                                        clear c57
                                        replace H := Option.bind_eq_some_iff.mp H
                                        obtain ⟨t301, A650, H⟩ := H
                                        replace H : (some (t301 == x9_4)) = some r := H
                                        have A65 := Aside0.mk A650
                                        clear A650
                                        obtain rfl := Option.some.inj H
                                        have hnb66 := NB285_286.out
                                        have hnc66 := NB286_285.out
                                        have hcz67_0 : wc.cell? ⟨gb285, 0, none⟩ = some (.int .i64 5) := (blk_cell BK285.out 0).trans rfl
                                        have hcz67_1 : wc.cell? ⟨gb285, 1, none⟩ = some (.int .i64 0) := (blk_cell BK285.out 1).trans rfl
                                        have hcz67_2 : wc.cell? ⟨gb285, 2, none⟩ = some (.string (⟨#[]⟩ : ByteArray)) := (blk_cell BK285.out 2).trans rfl
                                        have hcz67_3 : wc.cell? ⟨gb285, 3, none⟩ = some (.slice none 0 0) := (blk_cell BK285.out 3).trans rfl
                                        have hcz67_4 : wc.cell? ⟨gb285, 4, none⟩ = some (u286004) := (blk_cell BK285.out 4).trans rfl
                                        have hfz67_0 := blk_frozen BK285.out 0
                                        have hfz67_1 := blk_frozen BK285.out 1
                                        have hfz67_2 := blk_frozen BK285.out 2
                                        have hfz67_3 := blk_frozen BK285.out 3
                                        have hfz67_4 := blk_frozen BK285.out 4
                                        have hcz68_0 : wc.cell? ⟨gb286, 0, none⟩ = some (.int .i64 5) := (blk_cell BK286.out 0).trans rfl
                                        have hcz68_1 : wc.cell? ⟨gb286, 1, none⟩ = some (.int .i64 0) := (blk_cell BK286.out 1).trans rfl
                                        have hcz68_2 : wc.cell? ⟨gb286, 2, none⟩ = some (.string (⟨#[]⟩ : ByteArray)) := (blk_cell BK286.out 2).trans rfl
                                        have hcz68_3 : wc.cell? ⟨gb286, 3, none⟩ = some (.slice none 0 0) := (blk_cell BK286.out 3).trans rfl
                                        have hcz68_4 : wc.cell? ⟨gb286, 4, none⟩ = some (u287004) := (blk_cell BK286.out 4).trans rfl
                                        have hfz68_0 := blk_frozen BK286.out 0
                                        have hfz68_1 := blk_frozen BK286.out 1
                                        have hfz68_2 := blk_frozen BK286.out 2
                                        have hfz68_3 := blk_frozen BK286.out 3
                                        have hfz68_4 := blk_frozen BK286.out 4
                                        obtain ⟨Ao69, co69, eo69⟩ := Kd.R_slice HO_286004.out
                                        subst eo69
                                        obtain ⟨Ao70, co70, eo70⟩ := Kd.R_slice HO_287004.out
                                        subst eo70
                                        go_wp2_with (first | ((with_reducible refine gate_callee (f := 17) rfl ?_); refine goesL_ (some 112) rfl rfl Tryd.func17 (by kernel_rfl) rfl #[.agg #[.int .i64 5, .int .i64 0, .string (⟨#[]⟩ : ByteArray), .slice none 0 0, .slice Ao69 x286004_2.length co69], .agg #[.int .i64 5, .int .i64 0, .string (⟨#[]⟩ : ByteArray), .slice none 0 0, .slice Ao70 x287004_3.length co70]] rfl (by (try simp only [List.map_toArray, List.map_cons, List.map_nil]); first | done | rfl | (simp only [List.length_drop, List.length_take]; rfl)) ?_; (refine (order_Compare.calls kj45 5 0 (⟨#[]⟩ : ByteArray) _ _ ([] : List ByteArray) _ _ x286004_2 5 0 (⟨#[]⟩ : ByteArray) _ _ ([] : List ByteArray) _ _ x287004_3 t301 _ ?side1 ?side2 ?side3 ?side4 ?side5 ?side6 ?side7 ?side8 ?side9 A65.out).mono ?_); (case side1 => exact Kd.C_nil _ _); (case side2 => exact Nat.le_refl _); (case side3 => repeat (first | exact (Kd.R_reads' HO_286004.out).2.2 | (with_reducible refine Kd.C_alloc ?_ _) | (with_reducible refine Kd.C_drewN ?_ _) | (with_reducible refine Kd.C_drew ?_))); (case side4 => exact (Kd.R_reads' HO_286004.out).2.1); (case side5 => exact Kd.C_nil _ _); (case side6 => exact Nat.le_refl _); (case side7 => repeat (first | exact (Kd.R_reads' HO_287004.out).2.2 | (with_reducible refine Kd.C_alloc ?_ _) | (with_reducible refine Kd.C_drewN ?_ _) | (with_reducible refine Kd.C_drew ?_))); (case side8 => exact (Kd.R_reads' HO_287004.out).2.1); (case side9 => first | exact HT.out | (refine tabs_below HT.out ?_; repeat (first | exact HB.out | (with_reducible first | apply below_alloc | apply pw_below_drewN | apply below_drew1 | exact Below.refl _ _) | (refine below_set ?_ (Aside0.out (by assumption)))))); rintro e w71 ⟨rfl, hb⟩; refine ⟨_, rfl, ?_⟩; have n0_ := Aside0.mk (Kd.R_below (by (with_reducible repeat (first | apply Kd.R_alloc | apply Kd.R_drewN | apply Kd.R_drew)); exact HO_286004.out) hb); have n1_ := Aside0.mk (Kd.R_below (by (with_reducible repeat (first | apply Kd.R_alloc | apply Kd.R_drewN | apply Kd.R_drew)); exact HO_287004.out) hb); have n2_ := Aside0.mk (blk_below (g := gb285) (o := .cells #[.int .i64 5, .int .i64 0, .string (⟨#[]⟩ : ByteArray), .slice none 0 0, .slice Ao69 x286004_2.length co69] 30 (0, 0)) (by (with_reducible repeat (first | refine blk_drewN ?_ _ | refine blk_drew ?_ | refine blk_alloc ?_ _)); exact BK285.out) hb); have n3_ := Aside0.mk (blk_below (g := gb286) (o := .cells #[.int .i64 5, .int .i64 0, .string (⟨#[]⟩ : ByteArray), .slice none 0 0, .slice Ao70 x287004_3.length co70] 30 (0, 0)) (by (with_reducible repeat (first | refine blk_drewN ?_ _ | refine blk_drew ?_ | refine blk_alloc ?_ _)); exact BK286.out) hb); have n4_ := Aside0.mk (below_step (by repeat (first | (with_reducible first | exact HB.out | apply below_alloc | apply pw_below_drewN | apply below_drew1 | refine below_set ?_ GE285.out | refine below_set ?_ GE286.out) | exact HB.out)) hb); clear HO_286004; clear HO_287004; clear BK285; clear BK286; clear HB; have HO_286004 := n0_; have HO_287004 := n1_; have BK285 := n2_; have BK286 := n3_; have HB := n4_; clear n0_ n1_ n2_ n3_ n4_; (try clear hb); (try clear hb2); (try clear hk); (try clear hi)))
                                        go_ret
                                        exact ⟨by first | rfl | (simp [errW_none, errW_some] <;> rfl) | (simp [*, errW_none, errW_some] <;> rfl), by repeat (first | (with_reducible first | exact HB.out | apply below_alloc | apply pw_below_drewN | apply below_drew1 | refine below_set ?_ GE285.out | refine below_set ?_ GE286.out) | exact HB.out)⟩
                                    · rw [if_neg c56] at H
                                      have c56b0 : (x9_4 == 0) = false := beq_eq_false_iff_ne.mpr c56
                                      have c56b1 : (x9_4 != 0) = true := bne_iff_ne.mpr c56
                                      replace H := Option.bind_eq_some_iff.mp H
                                      obtain ⟨t302, A720, H⟩ := H
                                      replace H : (some (t302 == x9_4)) = some r := H
                                      have A72 := Aside0.mk A720
                                      clear A720
                                      obtain rfl := Option.some.inj H
                                      have hnb73 := NB285_286.out
                                      have hnc73 := NB286_285.out
                                      have hcz74_0 : wc.cell? ⟨gb285, 0, none⟩ = some (.int .i64 5) := (blk_cell BK285.out 0).trans rfl
                                      have hcz74_1 : wc.cell? ⟨gb285, 1, none⟩ = some (.int .i64 0) := (blk_cell BK285.out 1).trans rfl
                                      have hcz74_2 : wc.cell? ⟨gb285, 2, none⟩ = some (.string (⟨#[]⟩ : ByteArray)) := (blk_cell BK285.out 2).trans rfl
                                      have hcz74_3 : wc.cell? ⟨gb285, 3, none⟩ = some (.slice none 0 0) := (blk_cell BK285.out 3).trans rfl
                                      have hcz74_4 : wc.cell? ⟨gb285, 4, none⟩ = some (u286004) := (blk_cell BK285.out 4).trans rfl
                                      have hfz74_0 := blk_frozen BK285.out 0
                                      have hfz74_1 := blk_frozen BK285.out 1
                                      have hfz74_2 := blk_frozen BK285.out 2
                                      have hfz74_3 := blk_frozen BK285.out 3
                                      have hfz74_4 := blk_frozen BK285.out 4
                                      have hcz75_0 : wc.cell? ⟨gb286, 0, none⟩ = some (.int .i64 5) := (blk_cell BK286.out 0).trans rfl
                                      have hcz75_1 : wc.cell? ⟨gb286, 1, none⟩ = some (.int .i64 0) := (blk_cell BK286.out 1).trans rfl
                                      have hcz75_2 : wc.cell? ⟨gb286, 2, none⟩ = some (.string (⟨#[]⟩ : ByteArray)) := (blk_cell BK286.out 2).trans rfl
                                      have hcz75_3 : wc.cell? ⟨gb286, 3, none⟩ = some (.slice none 0 0) := (blk_cell BK286.out 3).trans rfl
                                      have hcz75_4 : wc.cell? ⟨gb286, 4, none⟩ = some (u287004) := (blk_cell BK286.out 4).trans rfl
                                      have hfz75_0 := blk_frozen BK286.out 0
                                      have hfz75_1 := blk_frozen BK286.out 1
                                      have hfz75_2 := blk_frozen BK286.out 2
                                      have hfz75_3 := blk_frozen BK286.out 3
                                      have hfz75_4 := blk_frozen BK286.out 4
                                      obtain ⟨Ao76, co76, eo76⟩ := Kd.R_slice HO_286004.out
                                      subst eo76
                                      obtain ⟨Ao77, co77, eo77⟩ := Kd.R_slice HO_287004.out
                                      subst eo77
                                      go_wp2_with (first | ((with_reducible refine gate_callee (f := 17) rfl ?_); refine goesL_ (some 112) rfl rfl Tryd.func17 (by kernel_rfl) rfl #[.agg #[.int .i64 5, .int .i64 0, .string (⟨#[]⟩ : ByteArray), .slice none 0 0, .slice Ao76 x286004_2.length co76], .agg #[.int .i64 5, .int .i64 0, .string (⟨#[]⟩ : ByteArray), .slice none 0 0, .slice Ao77 x287004_3.length co77]] rfl (by (try simp only [List.map_toArray, List.map_cons, List.map_nil]); first | done | rfl | (simp only [List.length_drop, List.length_take]; rfl)) ?_; (refine (order_Compare.calls kj45 5 0 (⟨#[]⟩ : ByteArray) _ _ ([] : List ByteArray) _ _ x286004_2 5 0 (⟨#[]⟩ : ByteArray) _ _ ([] : List ByteArray) _ _ x287004_3 t302 _ ?side1 ?side2 ?side3 ?side4 ?side5 ?side6 ?side7 ?side8 ?side9 A72.out).mono ?_); (case side1 => exact Kd.C_nil _ _); (case side2 => exact Nat.le_refl _); (case side3 => repeat (first | exact (Kd.R_reads' HO_286004.out).2.2 | (with_reducible refine Kd.C_alloc ?_ _) | (with_reducible refine Kd.C_drewN ?_ _) | (with_reducible refine Kd.C_drew ?_))); (case side4 => exact (Kd.R_reads' HO_286004.out).2.1); (case side5 => exact Kd.C_nil _ _); (case side6 => exact Nat.le_refl _); (case side7 => repeat (first | exact (Kd.R_reads' HO_287004.out).2.2 | (with_reducible refine Kd.C_alloc ?_ _) | (with_reducible refine Kd.C_drewN ?_ _) | (with_reducible refine Kd.C_drew ?_))); (case side8 => exact (Kd.R_reads' HO_287004.out).2.1); (case side9 => first | exact HT.out | (refine tabs_below HT.out ?_; repeat (first | exact HB.out | (with_reducible first | apply below_alloc | apply pw_below_drewN | apply below_drew1 | exact Below.refl _ _) | (refine below_set ?_ (Aside0.out (by assumption)))))); rintro e w78 ⟨rfl, hb⟩; refine ⟨_, rfl, ?_⟩; have n0_ := Aside0.mk (Kd.R_below (by (with_reducible repeat (first | apply Kd.R_alloc | apply Kd.R_drewN | apply Kd.R_drew)); exact HO_286004.out) hb); have n1_ := Aside0.mk (Kd.R_below (by (with_reducible repeat (first | apply Kd.R_alloc | apply Kd.R_drewN | apply Kd.R_drew)); exact HO_287004.out) hb); have n2_ := Aside0.mk (blk_below (g := gb285) (o := .cells #[.int .i64 5, .int .i64 0, .string (⟨#[]⟩ : ByteArray), .slice none 0 0, .slice Ao76 x286004_2.length co76] 30 (0, 0)) (by (with_reducible repeat (first | refine blk_drewN ?_ _ | refine blk_drew ?_ | refine blk_alloc ?_ _)); exact BK285.out) hb); have n3_ := Aside0.mk (blk_below (g := gb286) (o := .cells #[.int .i64 5, .int .i64 0, .string (⟨#[]⟩ : ByteArray), .slice none 0 0, .slice Ao77 x287004_3.length co77] 30 (0, 0)) (by (with_reducible repeat (first | refine blk_drewN ?_ _ | refine blk_drew ?_ | refine blk_alloc ?_ _)); exact BK286.out) hb); have n4_ := Aside0.mk (below_step (by repeat (first | (with_reducible first | exact HB.out | apply below_alloc | apply pw_below_drewN | apply below_drew1 | refine below_set ?_ GE285.out | refine below_set ?_ GE286.out) | exact HB.out)) hb); clear HO_286004; clear HO_287004; clear BK285; clear BK286; clear HB; have HO_286004 := n0_; have HO_287004 := n1_; have BK285 := n2_; have BK286 := n3_; have HB := n4_; clear n0_ n1_ n2_ n3_ n4_; (try clear hb); (try clear hb2); (try clear hk); (try clear hi)))
                                      go_ret
                                      exact ⟨by first | rfl | (simp [errW_none, errW_some] <;> rfl) | (simp [*, errW_none, errW_some] <;> rfl), by repeat (first | (with_reducible first | exact HB.out | apply below_alloc | apply pw_below_drewN | apply below_drew1 | refine below_set ?_ GE285.out | refine below_set ?_ GE286.out) | exact HB.out)⟩
end Go.Proofs.YtegcbfgoomopdaaDoor.PO
