import Derived.Test.YtmphdmhpfghfkaaDoorZkbckPKx0
import Derived.Test.YtmphdmhpfghfkaaDoorZkbckPKx3
import Derived.Test.YtmphdmhpfghfkaaDoorZkbckPKx4
namespace Go.Proofs.YtmphdmhpfghfkaaDoor.PK
open Go.RowKit Go.Proofs.YtmphdmhpfghfkaaDoorW.PrintWords Go.Proofs.YtmphdmhpfghfkaaDoorW.PrintLast Go.Proofs.YtmphdmhpfghfkaaDoorW.PrintMore
attribute [local go_sem] max2_mx_ min2_mn_ max_two min_two max_three min_three max_four min_four   -- for this text's walks alone
set_option linter.unusedVariables false
set_option linter.unusedSimpArgs false
mutual
def keys_put.j0 : Nat → List Int → Bool → Int → Int → ByteArray → List ByteArray → List (S25) → Option (List Int)
  | 0, _, _, _, _, _, _, _ => none
  | k + 1, x0, x30, x120000, x120001, x120002, x120003, x120004 => if x30 = true then (keys_put.l0 k x0 x120004 (x120004.length : Int) 0 x120000 x120001 x120002 x120003 x120004) else (some x0)
def keys_put.l0 : Nat → List Int → List (S25) → Int → Int → Int → Int → ByteArray → List ByteArray → List (S25) → Option (List Int)
  | 0, _, _, _, _, _, _, _, _, _ => none
  | k + 1, x0, x34, x35, x36, x120000, x120001, x120002, x120003, x120004 => if x36 < x35 then (if 0 ≤ x36 then (if x36 < (x34.length : Int) then (if x120000 = 6 then (if x0.length < 140737488355328 then (if x36 < (x120003.length : Int) then ((keys_text.f k (x0 ++ [1]) (rdOf ByteArray.empty x120003 x36)).bind fun t138 => ((keys_put.f k t138 ((rd_T25 x34 x36).f0) ((rd_T25 x34 x36).f1) ((rd_T25 x34 x36).f2) ((rd_T25 x34 x36).f3) ((rd_T25 x34 x36).f4)).bind fun t141 => (keys_put.l0 k t141 x34 x35 (wrap64 (x36 + 1)) x120000 x120001 x120002 x120003 x120004))) else (none)) else (none)) else ((keys_put.f k x0 ((rd_T25 x34 x36).f0) ((rd_T25 x34 x36).f1) ((rd_T25 x34 x36).f2) ((rd_T25 x34 x36).f3) ((rd_T25 x34 x36).f4)).bind fun t144 => (keys_put.l0 k t144 x34 x35 (wrap64 (x36 + 1)) x120000 x120001 x120002 x120003 x120004))) else (none)) else (none)) else (if x0.length < 140737488355328 then (some (x0 ++ [0])) else (none))
def keys_put.f : Nat → List Int → Int → Int → ByteArray → List ByteArray → List (S25) → Option (List Int)
  | 0, _, _, _, _, _, _ => none
  | k + 1, l0, a1_0, a1_1, a1_2, l1_3, l1_4 => if l0.length < 140737488355328 then ((some (l0 ++ [(wrap64 (a1_0 + 1)) % 256] : List Int)).bind fun y120 => (if a1_0 = 3 then ((keys_append64.f k y120 (Go.bits .xor .u64 (IntKind.u64.wrap (a1_1)) 9223372036854775808)).bind fun t123 => (some t123)) else (if a1_0 = 4 then ((keys_text.f k y120 a1_2).bind fun t126 => (some t126)) else (if a1_0 = 5 then (keys_put.j0 k y120 (a1_0 == 5) a1_0 a1_1 a1_2 l1_3 l1_4) else (keys_put.j0 k y120 (a1_0 == 6) a1_0 a1_1 a1_2 l1_3 l1_4))))) else (none)
end
def keys_put.T13 : Bool × List (List Nat × List Nat) := (true, [([], []), ([], []), ([0, 1], [0, 1]), ([], []), ([3], [3]), ([], []), ([4, 5], [4, 5]), ([6], [6]), ([2, 7, 2], [2, 7]), ([8, 8, 0, 1, 2, 3, 4, 5, 6, 7, 8], [0, 8])])
def keys_put.B13 : List Nat := [0, 0, 3, 0, 8, 0, 56, 120, 255, 511]
theorem keys_put.tab13 : rtab .any (opsOf Tryd.f24 13) = keys_put.T13 := by kernel_rfl
theorem keys_put.bits13 : waitsOk keys_put.T13.2 keys_put.B13 = true := by kernel_rfl
set_option maxHeartbeats 8000000 in
set_option maxRecDepth 100000 in
theorem keys_put.calls (k : Nat) : ∀ (P0_ : Nat → Prop) (u9000_ : Value) (l0 : List Int) (a1_0 : Int) (a1_1 : Int) (a1_2 : ByteArray) (A1_3 : Option Addr) (c1_3 : Nat) (l1_3 : List ByteArray) (A1_4 : Option Addr) (c1_4 : Nat) (l1_4 : List (S25)) (r : List Int) (w0 w : World) (hB : Below w0.heap.size w0 w) (ho0 : Kd.R (Kd.int .u8) 5 w w0.heap.size P0_ u9000_ l0) (hr1_3 : ∀ W_, Kept w W_ (fun k_ => P0_ k_) → Kd.C Kd.string W_ A1_3 l1_3.length l1_3) (hc1_3 : l1_3.length ≤ c1_3) (hr1_4 : ∀ W_, Kept w W_ (fun k_ => P0_ k_) → Kd.C k25 W_ A1_4 l1_4.length l1_4) (hc1_4 : l1_4.length ≤ c1_4) (h : keys_put.f k l0 a1_0 a1_1 a1_2 l1_3 l1_4 = some r),
    Calls Tryd.prog 24 #[u9000_, .agg #[.int .i64 a1_0, .int .i64 a1_1, .string a1_2, .slice A1_3 l1_3.length c1_3, .slice A1_4 l1_4.length c1_4]] w fun e w' => ∃ v0_ : Value, e = .returned (v0_) ∧ Kd.R (Kd.int .u8) 5 w' w0.heap.size (fun k_ => (P0_ k_ ∨ w.heap.size ≤ k_)) v0_ r ∧ Below w0.heap.size w0 w' ∧ Kept w w' (fun k_ => P0_ k_) := by
  induction k using Nat.strongRecOn with
  | _ k ih =>
  intro P0_ u9000_ l0 a1_0 a1_1 a1_2 A1_3 c1_3 l1_3 A1_4 c1_4 l1_4 r w0 w hB ho0 hr1_3 hc1_3 hr1_4 hc1_4 h
  cases k with
  | zero => exact absurd h (by simp [keys_put.f])
  | succ k =>
  simp only [keys_put.f] at h
  have hu25 := Tryd.underlying25
  have HO0 := Aside0.mk (show Kd.R (Kd.int .u8) 5 w w0.heap.size (fun k_ => (P0_ k_ ∨ w.heap.size ≤ k_)) u9000_ l0 from Kd.R_mono ho0 (fun k_ hk => (.inl hk)))
  have HR1_3 := Aside0.mk hr1_3
  have HC1_3 := Aside0.mk hc1_3
  clear hr1_3 hc1_3
  have HR1_4 := Aside0.mk hr1_4
  have HC1_4 := Aside0.mk hc1_4
  clear hr1_4 hc1_4
  have HK := Aside0.mk (Kept.refl w (fun k_ => P0_ k_))
  have HW0 := Aside0.mk hB.size
  have HB := Aside0.mk hB
  clear hB
  have H : (if l0.length < 140737488355328 then ((some (l0 ++ [(wrap64 (a1_0 + 1)) % 256] : List Int)).bind fun y120 => (if a1_0 = 3 then ((keys_append64.f k y120 (Go.bits .xor .u64 (IntKind.u64.wrap (a1_1)) 9223372036854775808)).bind fun t123 => (some t123)) else (if a1_0 = 4 then ((keys_text.f k y120 a1_2).bind fun t126 => (some t126)) else (if a1_0 = 5 then (keys_put.j0 k y120 (a1_0 == 5) a1_0 a1_1 a1_2 l1_3 l1_4) else (keys_put.j0 k y120 (a1_0 == 6) a1_0 a1_1 a1_2 l1_3 l1_4))))) else (none)) = some r := h
  clear h
  by_cases c3 : l0.length < 140737488355328
  · rw [if_pos c3] at H
    have LMc3 := Aside0.mk c3
    clear c3
    obtain ⟨y120, hy120⟩ : ∃ y_ : List Int, y_ = (l0 ++ [(wrap64 (a1_0 + 1)) % 256]) := ⟨_, rfl⟩
    replace H : (if a1_0 = 3 then ((keys_append64.f k y120 (Go.bits .xor .u64 (IntKind.u64.wrap (a1_1)) 9223372036854775808)).bind fun t123 => (some t123)) else (if a1_0 = 4 then ((keys_text.f k y120 a1_2).bind fun t126 => (some t126)) else (if a1_0 = 5 then (keys_put.j0 k y120 (a1_0 == 5) a1_0 a1_1 a1_2 l1_3 l1_4) else (keys_put.j0 k y120 (a1_0 == 6) a1_0 a1_1 a1_2 l1_3 l1_4)))) = some r := by first | (rw [hy120]; with_reducible exact H) | (have H2_ := (Option.bind_some _ _).symm.trans H; rw [hy120]; with_reducible exact H2_) | (have H2_ := (Option.bind_some _ _).symm.trans H; with_reducible exact H2_) | with_reducible exact H | (rw [hy120]; exact H) | exact H
    have Ny120 := Aside0.mk hy120
    clear hy120
    by_cases c4 : a1_0 = 3
    · rw [if_pos c4] at H
      have c4b0 : (a1_0 == 3) = true := beq_iff_eq.mpr c4
      have c4b1 : (a1_0 != 3) = false := bne_eq_false_iff_eq.mpr c4
      clear c4
      replace H := Option.bind_eq_some_iff.mp H
      obtain ⟨t123, A50, H⟩ := H
      replace H : (some t123) = some r := H
      have A5 := Aside0.mk A50
      clear A50
      obtain rfl := Option.some.inj H
      go_enter Tryd.func24, Tryd.ntmps24
      go_wp2_with (first | ((with_reducible refine gate_dst (N := 3) rfl ?_); refine box_event ?hg (N := 3) ?hd (cs := #[.int .i64 a1_0, .int .i64 a1_1, .string a1_2, .slice A1_3 l1_3.length c1_3, .slice A1_4 l1_4.length c1_4]) (t := 25) ?hr ?_; (case hd => rfl); (case hg => rfl); (case hr => first | (go_simp; done) | (go_simp; rfl)); intro gb119 hg w6 hbox hb; have n0_ := Aside0.mk (Kd.R_below (by (with_reducible repeat (first | apply Kd.R_alloc | apply Kd.R_drewN | apply Kd.R_drew)); exact HO0.out) hb); have n1_ := Aside0.mk (Kept.below (S := (fun k_ => P0_ k_)) (by repeat (first | (with_reducible first | exact HK.out | apply Kept.alloc | apply Kept.drewN | apply Kept.drew) | exact HK.out)) hb); have n2_ := Aside0.mk (below_step (by repeat (first | (with_reducible first | exact HB.out | apply below_alloc | apply pw_below_drewN | apply below_drew1) | exact HB.out)) hb); have n3_ := Aside0.mk (hbox); have n4_ := Aside0.mk ((by rw [hg]; exact (by first | exact HK.out.1 | exact (show Kept w _ (fun k_ => P0_ k_) from by repeat (first | (with_reducible first | exact HK.out | apply Kept.alloc | apply Kept.drewN | apply Kept.drew) | exact HK.out)).1) : w.heap.size ≤ gb119)); have n5_ := Aside0.mk ((by rw [hg]; exact (below_size (by repeat (first | (with_reducible first | exact HB.out | apply below_alloc | apply pw_below_drewN | apply below_drew1) | exact HB.out))) : w0.heap.size ≤ gb119)); clear HO0; clear HK; clear HB; have HO0 := n0_; have HK := n1_; have HB := n2_; have BK119 := n3_; have GW119 := n4_; have GE119 := n5_; clear n0_ n1_ n2_ n3_ n4_ n5_; clear hb hbox hg; have hcz7_0 : w6.cell? ⟨gb119, 0, none⟩ = some (.int .i64 a1_0) := (blk_cell BK119.out 0).trans rfl; have hcz7_1 : w6.cell? ⟨gb119, 1, none⟩ = some (.int .i64 a1_1) := (blk_cell BK119.out 1).trans rfl; have hcz7_2 : w6.cell? ⟨gb119, 2, none⟩ = some (.string a1_2) := (blk_cell BK119.out 2).trans rfl; have hcz7_3 : w6.cell? ⟨gb119, 3, none⟩ = some (.slice A1_3 l1_3.length c1_3) := (blk_cell BK119.out 3).trans rfl; have hcz7_4 : w6.cell? ⟨gb119, 4, none⟩ = some (.slice A1_4 l1_4.length c1_4) := (blk_cell BK119.out 4).trans rfl; have hfz7_0 := blk_frozen BK119.out 0; have hfz7_1 := blk_frozen BK119.out 1; have hfz7_2 := blk_frozen BK119.out 2; have hfz7_3 := blk_frozen BK119.out 3; have hfz7_4 := blk_frozen BK119.out 4) | ((with_reducible refine gate_builtin (b := .append) (xs := #[.tmp 7, .tmp 12]) rfl ?_); at_builtin; refine Kd.R_append (Kd.int .u8) (w0 := w0) w0.heap.size rfl (.tmp 7) (.tmp 12) 28 5 (.int .u8 0) 1 rfl Tryd.underlying28 info5 rfl (by decide) (by omega) u9000_ l0 ((wrap64 (a1_0 + 1)) % 256) [.int .u8 ((wrap64 (a1_0 + 1)) % 256)] (fun k_ => (P0_ k_ ∨ w.heap.size ≤ k_)) (fun _ => False) rfl rfl ?aP (fun _ hk => hk.elim) ?aF ?aO ?aB ?aS ?aL ?_; (case aP => exact rfl); (case aB => exact (by repeat (first | (with_reducible first | exact HB.out | apply below_alloc | apply pw_below_drewN | apply below_drew1 | refine below_set ?_ GE119.out) | exact HB.out))); (case aF => exact (fun k_ hk => (.inr (Nat.le_trans (by first | exact HK.out.1 | exact (show Kept w _ (fun k_ => P0_ k_) from by repeat (first | (with_reducible first | exact HK.out | apply Kept.alloc | apply Kept.drewN | apply Kept.drew | refine Kept.setCell ?_ (.inr GW119.out) _) | exact HK.out)).1) hk)))); (case aO => exact (by (with_reducible repeat (first | apply Kd.R_alloc | apply Kd.R_drewN | apply Kd.R_drew)); exact HO0.out)); (case aS => exact (below_size (by repeat (first | (with_reducible first | exact HB.out | apply below_alloc | apply pw_below_drewN | apply below_drew1 | refine below_set ?_ GE119.out) | exact HB.out)))); (case aL => have := LMc3.out; omega); intro v121 w8 ho hb hg hat; rw [← Ny120.out] at ho; have n0_ := Aside0.mk (blk_grown (g := gb119) (o := .cells #[.int .i64 a1_0, .int .i64 a1_1, .string a1_2, .slice A1_3 l1_3.length c1_3, .slice A1_4 l1_4.length c1_4] 25 (0, 0)) (by (with_reducible repeat (first | refine blk_drewN ?_ _ | refine blk_drew ?_ | refine blk_alloc ?_ _)); exact BK119.out) hg (Kd.R_ne HO0.out BK119.out (by decide))); have n1_ := Aside0.mk (hb); have n2_ := Aside0.mk (Kept.of_grown (S := (fun k_ => P0_ k_)) hg (by repeat (first | (with_reducible first | exact HK.out | apply Kept.alloc | apply Kept.drewN | apply Kept.drew | refine Kept.setCell ?_ (.inr GW119.out) _) | exact HK.out)) (fun k_ e_ => (HO0.out.1 k_ e_))); have n3_ := Aside0.mk (ho); clear BK119; clear HB; clear HK; clear HO0; have BK119 := n0_; have HB := n1_; have HK := n2_; have HO122 := n3_; clear n0_ n1_ n2_ n3_; clear ho hb hg hat; have hcz9_0 : w8.cell? ⟨gb119, 0, none⟩ = some (.int .i64 a1_0) := (blk_cell BK119.out 0).trans rfl; have hcz9_1 : w8.cell? ⟨gb119, 1, none⟩ = some (.int .i64 a1_1) := (blk_cell BK119.out 1).trans rfl; have hcz9_2 : w8.cell? ⟨gb119, 2, none⟩ = some (.string a1_2) := (blk_cell BK119.out 2).trans rfl; have hcz9_3 : w8.cell? ⟨gb119, 3, none⟩ = some (.slice A1_3 l1_3.length c1_3) := (blk_cell BK119.out 3).trans rfl; have hcz9_4 : w8.cell? ⟨gb119, 4, none⟩ = some (.slice A1_4 l1_4.length c1_4) := (blk_cell BK119.out 4).trans rfl; have hfz9_0 := blk_frozen BK119.out 0; have hfz9_1 := blk_frozen BK119.out 1; have hfz9_2 := blk_frozen BK119.out 2; have hfz9_3 := blk_frozen BK119.out 3; have hfz9_4 := blk_frozen BK119.out 4; obtain ⟨Ao10, co10, eo10⟩ := Kd.R_slice HO122.out; subst eo10) | ((with_reducible refine gate_callee (f := 34) rfl ?_); refine goesL_ (some 23) rfl rfl Tryd.func34 (by kernel_rfl) rfl #[.slice Ao10 y120.length co10, .int .u64 (Go.bits .xor .u64 (IntKind.u64.wrap (a1_1)) 9223372036854775808)] rfl (by (try simp only [List.map_toArray, List.map_cons, List.map_nil]); first | done | rfl | (simp only [List.length_drop, List.length_take]; rfl)) ?_; (with_reducible refine (keys_append64.calls k (fun k_ => some k_ = (.slice Ao10 y120.length co10 : Value).ownBlock) (.slice Ao10 y120.length co10) y120 (Go.bits .xor .u64 (IntKind.u64.wrap (a1_1)) 9223372036854775808) t123 w0 _ ?side1 ?side2 A5.out).mono ?_); (case side1 => repeat (first | (with_reducible first | exact HB.out | apply below_alloc | apply pw_below_drewN | apply below_drew1 | refine below_set ?_ GE119.out) | exact HB.out)); (case side2 => exact Kd.R_tight rfl HO122.out); rintro e w11 ⟨v124, rfl, ho0, hb, hkp⟩; refine ⟨_, rfl, ?_⟩; have n0_ := Aside0.mk (blk_kept (by (with_reducible repeat (first | refine blk_drewN ?_ _ | refine blk_drew ?_ | refine blk_alloc ?_ _)); exact BK119.out) hkp (fun hs_ => (fun e_ => (Kd.R_ne HO122.out BK119.out (by decide)) e_) hs_)); have n1_ := Aside0.mk (Kd.R_mono (ok' := fun k_ => (P0_ k_ ∨ w.heap.size ≤ k_)) ho0 (fun k_ hk_ => Or.elim hk_ (fun hs_ => (HO122.out.1 k_ (hs_).symm)) (fun hn_ => (.inr (Nat.le_trans (by first | exact HK.out.1 | exact (show Kept w _ (fun k_ => P0_ k_) from by repeat (first | (with_reducible first | exact HK.out | apply Kept.alloc | apply Kept.drewN | apply Kept.drew | refine Kept.setCell ?_ (.inr GW119.out) _) | exact HK.out)).1) hn_))))); have n2_ := Aside0.mk (Kept.then_ (S := (fun k_ => P0_ k_)) (by repeat (first | (with_reducible first | exact HK.out | apply Kept.alloc | apply Kept.drewN | apply Kept.drew | refine Kept.setCell ?_ (.inr GW119.out) _) | exact HK.out)) hkp (fun k_ hs_ => (fun e_ => (HO122.out.1 k_ e_.symm)) hs_)); have n3_ := Aside0.mk (hb); clear BK119; clear HK; clear HB; clear HO122; have BK119 := n0_; have HO125 := n1_; have HK := n2_; have HB := n3_; clear n0_ n1_ n2_ n3_; (try clear hb); (try clear hkp); (try clear ho0)))
      go_ret
      exact ⟨_, by first | rfl | (simp [errW_none, errW_some] <;> rfl) | (simp [*, errW_none, errW_some] <;> rfl), by (with_reducible repeat (first | apply Kd.R_alloc | apply Kd.R_drewN | apply Kd.R_drew)); exact HO125.out, by repeat (first | (with_reducible first | exact HB.out | apply below_alloc | apply pw_below_drewN | apply below_drew1 | refine below_set ?_ GE119.out) | exact HB.out), by repeat (first | (with_reducible first | exact HK.out | apply Kept.alloc | apply Kept.drewN | apply Kept.drew | refine Kept.setCell ?_ (.inr GW119.out) _) | exact HK.out)⟩
    · rw [if_neg c4] at H
      have c4b0 : (a1_0 == 3) = false := beq_eq_false_iff_ne.mpr c4
      have c4b1 : (a1_0 != 3) = true := bne_iff_ne.mpr c4
      by_cases c12 : a1_0 = 4
      · rw [if_pos c12] at H
        have c12b0 : (a1_0 == 4) = true := beq_iff_eq.mpr c12
        have c12b1 : (a1_0 != 4) = false := bne_eq_false_iff_eq.mpr c12
        clear c12
        replace H := Option.bind_eq_some_iff.mp H
        obtain ⟨t126, A130, H⟩ := H
        replace H : (some t126) = some r := H
        have A13 := Aside0.mk A130
        clear A130
        obtain rfl := Option.some.inj H
        go_enter Tryd.func24, Tryd.ntmps24
        go_wp2_with (first | ((with_reducible refine gate_dst (N := 3) rfl ?_); refine box_event ?hg (N := 3) ?hd (cs := #[.int .i64 a1_0, .int .i64 a1_1, .string a1_2, .slice A1_3 l1_3.length c1_3, .slice A1_4 l1_4.length c1_4]) (t := 25) ?hr ?_; (case hd => rfl); (case hg => rfl); (case hr => first | (go_simp; done) | (go_simp; rfl)); intro gb119 hg w14 hbox hb; have n0_ := Aside0.mk (Kd.R_below (by (with_reducible repeat (first | apply Kd.R_alloc | apply Kd.R_drewN | apply Kd.R_drew)); exact HO0.out) hb); have n1_ := Aside0.mk (Kept.below (S := (fun k_ => P0_ k_)) (by repeat (first | (with_reducible first | exact HK.out | apply Kept.alloc | apply Kept.drewN | apply Kept.drew) | exact HK.out)) hb); have n2_ := Aside0.mk (below_step (by repeat (first | (with_reducible first | exact HB.out | apply below_alloc | apply pw_below_drewN | apply below_drew1) | exact HB.out)) hb); have n3_ := Aside0.mk (hbox); have n4_ := Aside0.mk ((by rw [hg]; exact (by first | exact HK.out.1 | exact (show Kept w _ (fun k_ => P0_ k_) from by repeat (first | (with_reducible first | exact HK.out | apply Kept.alloc | apply Kept.drewN | apply Kept.drew) | exact HK.out)).1) : w.heap.size ≤ gb119)); have n5_ := Aside0.mk ((by rw [hg]; exact (below_size (by repeat (first | (with_reducible first | exact HB.out | apply below_alloc | apply pw_below_drewN | apply below_drew1) | exact HB.out))) : w0.heap.size ≤ gb119)); clear HO0; clear HK; clear HB; have HO0 := n0_; have HK := n1_; have HB := n2_; have BK119 := n3_; have GW119 := n4_; have GE119 := n5_; clear n0_ n1_ n2_ n3_ n4_ n5_; clear hb hbox hg; have hcz15_0 : w14.cell? ⟨gb119, 0, none⟩ = some (.int .i64 a1_0) := (blk_cell BK119.out 0).trans rfl; have hcz15_1 : w14.cell? ⟨gb119, 1, none⟩ = some (.int .i64 a1_1) := (blk_cell BK119.out 1).trans rfl; have hcz15_2 : w14.cell? ⟨gb119, 2, none⟩ = some (.string a1_2) := (blk_cell BK119.out 2).trans rfl; have hcz15_3 : w14.cell? ⟨gb119, 3, none⟩ = some (.slice A1_3 l1_3.length c1_3) := (blk_cell BK119.out 3).trans rfl; have hcz15_4 : w14.cell? ⟨gb119, 4, none⟩ = some (.slice A1_4 l1_4.length c1_4) := (blk_cell BK119.out 4).trans rfl; have hfz15_0 := blk_frozen BK119.out 0; have hfz15_1 := blk_frozen BK119.out 1; have hfz15_2 := blk_frozen BK119.out 2; have hfz15_3 := blk_frozen BK119.out 3; have hfz15_4 := blk_frozen BK119.out 4) | ((with_reducible refine gate_builtin (b := .append) (xs := #[.tmp 7, .tmp 12]) rfl ?_); at_builtin; refine Kd.R_append (Kd.int .u8) (w0 := w0) w0.heap.size rfl (.tmp 7) (.tmp 12) 28 5 (.int .u8 0) 1 rfl Tryd.underlying28 info5 rfl (by decide) (by omega) u9000_ l0 ((wrap64 (a1_0 + 1)) % 256) [.int .u8 ((wrap64 (a1_0 + 1)) % 256)] (fun k_ => (P0_ k_ ∨ w.heap.size ≤ k_)) (fun _ => False) rfl rfl ?aP (fun _ hk => hk.elim) ?aF ?aO ?aB ?aS ?aL ?_; (case aP => exact rfl); (case aB => exact (by repeat (first | (with_reducible first | exact HB.out | apply below_alloc | apply pw_below_drewN | apply below_drew1 | refine below_set ?_ GE119.out) | exact HB.out))); (case aF => exact (fun k_ hk => (.inr (Nat.le_trans (by first | exact HK.out.1 | exact (show Kept w _ (fun k_ => P0_ k_) from by repeat (first | (with_reducible first | exact HK.out | apply Kept.alloc | apply Kept.drewN | apply Kept.drew | refine Kept.setCell ?_ (.inr GW119.out) _) | exact HK.out)).1) hk)))); (case aO => exact (by (with_reducible repeat (first | apply Kd.R_alloc | apply Kd.R_drewN | apply Kd.R_drew)); exact HO0.out)); (case aS => exact (below_size (by repeat (first | (with_reducible first | exact HB.out | apply below_alloc | apply pw_below_drewN | apply below_drew1 | refine below_set ?_ GE119.out) | exact HB.out)))); (case aL => have := LMc3.out; omega); intro v121 w16 ho hb hg hat; rw [← Ny120.out] at ho; have n0_ := Aside0.mk (blk_grown (g := gb119) (o := .cells #[.int .i64 a1_0, .int .i64 a1_1, .string a1_2, .slice A1_3 l1_3.length c1_3, .slice A1_4 l1_4.length c1_4] 25 (0, 0)) (by (with_reducible repeat (first | refine blk_drewN ?_ _ | refine blk_drew ?_ | refine blk_alloc ?_ _)); exact BK119.out) hg (Kd.R_ne HO0.out BK119.out (by decide))); have n1_ := Aside0.mk (hb); have n2_ := Aside0.mk (Kept.of_grown (S := (fun k_ => P0_ k_)) hg (by repeat (first | (with_reducible first | exact HK.out | apply Kept.alloc | apply Kept.drewN | apply Kept.drew | refine Kept.setCell ?_ (.inr GW119.out) _) | exact HK.out)) (fun k_ e_ => (HO0.out.1 k_ e_))); have n3_ := Aside0.mk (ho); clear BK119; clear HB; clear HK; clear HO0; have BK119 := n0_; have HB := n1_; have HK := n2_; have HO122 := n3_; clear n0_ n1_ n2_ n3_; clear ho hb hg hat; have hcz17_0 : w16.cell? ⟨gb119, 0, none⟩ = some (.int .i64 a1_0) := (blk_cell BK119.out 0).trans rfl; have hcz17_1 : w16.cell? ⟨gb119, 1, none⟩ = some (.int .i64 a1_1) := (blk_cell BK119.out 1).trans rfl; have hcz17_2 : w16.cell? ⟨gb119, 2, none⟩ = some (.string a1_2) := (blk_cell BK119.out 2).trans rfl; have hcz17_3 : w16.cell? ⟨gb119, 3, none⟩ = some (.slice A1_3 l1_3.length c1_3) := (blk_cell BK119.out 3).trans rfl; have hcz17_4 : w16.cell? ⟨gb119, 4, none⟩ = some (.slice A1_4 l1_4.length c1_4) := (blk_cell BK119.out 4).trans rfl; have hfz17_0 := blk_frozen BK119.out 0; have hfz17_1 := blk_frozen BK119.out 1; have hfz17_2 := blk_frozen BK119.out 2; have hfz17_3 := blk_frozen BK119.out 3; have hfz17_4 := blk_frozen BK119.out 4; obtain ⟨Ao18, co18, eo18⟩ := Kd.R_slice HO122.out; subst eo18) | ((with_reducible refine gate_callee (f := 35) rfl ?_); refine goesL_ (some 29) rfl rfl Tryd.func35 (by kernel_rfl) rfl #[.slice Ao18 y120.length co18, .string a1_2] rfl (by (try simp only [List.map_toArray, List.map_cons, List.map_nil]); first | done | rfl | (simp only [List.length_drop, List.length_take]; rfl)) ?_; (with_reducible refine (keys_text.calls k (fun k_ => some k_ = (.slice Ao18 y120.length co18 : Value).ownBlock) (.slice Ao18 y120.length co18) y120 a1_2 t126 w0 _ ?side1 ?side2 A13.out).mono ?_); (case side1 => repeat (first | (with_reducible first | exact HB.out | apply below_alloc | apply pw_below_drewN | apply below_drew1 | refine below_set ?_ GE119.out) | exact HB.out)); (case side2 => exact Kd.R_tight rfl HO122.out); rintro e w19 ⟨v127, rfl, ho0, hb, hkp⟩; refine ⟨_, rfl, ?_⟩; have n0_ := Aside0.mk (blk_kept (by (with_reducible repeat (first | refine blk_drewN ?_ _ | refine blk_drew ?_ | refine blk_alloc ?_ _)); exact BK119.out) hkp (fun hs_ => (fun e_ => (Kd.R_ne HO122.out BK119.out (by decide)) e_) hs_)); have n1_ := Aside0.mk (Kd.R_mono (ok' := fun k_ => (P0_ k_ ∨ w.heap.size ≤ k_)) ho0 (fun k_ hk_ => Or.elim hk_ (fun hs_ => (HO122.out.1 k_ (hs_).symm)) (fun hn_ => (.inr (Nat.le_trans (by first | exact HK.out.1 | exact (show Kept w _ (fun k_ => P0_ k_) from by repeat (first | (with_reducible first | exact HK.out | apply Kept.alloc | apply Kept.drewN | apply Kept.drew | refine Kept.setCell ?_ (.inr GW119.out) _) | exact HK.out)).1) hn_))))); have n2_ := Aside0.mk (Kept.then_ (S := (fun k_ => P0_ k_)) (by repeat (first | (with_reducible first | exact HK.out | apply Kept.alloc | apply Kept.drewN | apply Kept.drew | refine Kept.setCell ?_ (.inr GW119.out) _) | exact HK.out)) hkp (fun k_ hs_ => (fun e_ => (HO122.out.1 k_ e_.symm)) hs_)); have n3_ := Aside0.mk (hb); clear BK119; clear HK; clear HB; clear HO122; have BK119 := n0_; have HO128 := n1_; have HK := n2_; have HB := n3_; clear n0_ n1_ n2_ n3_; (try clear hb); (try clear hkp); (try clear ho0)))
        go_ret
        exact ⟨_, by first | rfl | (simp [errW_none, errW_some] <;> rfl) | (simp [*, errW_none, errW_some] <;> rfl), by (with_reducible repeat (first | apply Kd.R_alloc | apply Kd.R_drewN | apply Kd.R_drew)); exact HO128.out, by repeat (first | (with_reducible first | exact HB.out | apply below_alloc | apply pw_below_drewN | apply below_drew1 | refine below_set ?_ GE119.out) | exact HB.out), by repeat (first | (with_reducible first | exact HK.out | apply Kept.alloc | apply Kept.drewN | apply Kept.drew | refine Kept.setCell ?_ (.inr GW119.out) _) | exact HK.out)⟩
      · rw [if_neg c12] at H
        have c12b0 : (a1_0 == 4) = false := beq_eq_false_iff_ne.mpr c12
        have c12b1 : (a1_0 != 4) = true := bne_iff_ne.mpr c12
        have HC20 := Aside0.mk H
        clear H
        go_enter Tryd.func24, Tryd.ntmps24
        go_upto_if 30 with (first | ((with_reducible refine gate_dst (N := 3) rfl ?_); refine box_event ?hg (N := 3) ?hd (cs := #[.int .i64 a1_0, .int .i64 a1_1, .string a1_2, .slice A1_3 l1_3.length c1_3, .slice A1_4 l1_4.length c1_4]) (t := 25) ?hr ?_; (case hd => rfl); (case hg => rfl); (case hr => first | (go_simp; done) | (go_simp; rfl)); intro gb119 hg w21 hbox hb; have n0_ := Aside0.mk (Kd.R_below (by (with_reducible repeat (first | apply Kd.R_alloc | apply Kd.R_drewN | apply Kd.R_drew)); exact HO0.out) hb); have n1_ := Aside0.mk (Kept.below (S := (fun k_ => P0_ k_)) (by repeat (first | (with_reducible first | exact HK.out | apply Kept.alloc | apply Kept.drewN | apply Kept.drew) | exact HK.out)) hb); have n2_ := Aside0.mk (below_step (by repeat (first | (with_reducible first | exact HB.out | apply below_alloc | apply pw_below_drewN | apply below_drew1) | exact HB.out)) hb); have n3_ := Aside0.mk (hbox); have n4_ := Aside0.mk ((by rw [hg]; exact (by first | exact HK.out.1 | exact (show Kept w _ (fun k_ => P0_ k_) from by repeat (first | (with_reducible first | exact HK.out | apply Kept.alloc | apply Kept.drewN | apply Kept.drew) | exact HK.out)).1) : w.heap.size ≤ gb119)); have n5_ := Aside0.mk ((by rw [hg]; exact (below_size (by repeat (first | (with_reducible first | exact HB.out | apply below_alloc | apply pw_below_drewN | apply below_drew1) | exact HB.out))) : w0.heap.size ≤ gb119)); clear HO0; clear HK; clear HB; have HO0 := n0_; have HK := n1_; have HB := n2_; have BK119 := n3_; have GW119 := n4_; have GE119 := n5_; clear n0_ n1_ n2_ n3_ n4_ n5_; clear hb hbox hg; have hcz22_0 : w21.cell? ⟨gb119, 0, none⟩ = some (.int .i64 a1_0) := (blk_cell BK119.out 0).trans rfl; have hcz22_1 : w21.cell? ⟨gb119, 1, none⟩ = some (.int .i64 a1_1) := (blk_cell BK119.out 1).trans rfl; have hcz22_2 : w21.cell? ⟨gb119, 2, none⟩ = some (.string a1_2) := (blk_cell BK119.out 2).trans rfl; have hcz22_3 : w21.cell? ⟨gb119, 3, none⟩ = some (.slice A1_3 l1_3.length c1_3) := (blk_cell BK119.out 3).trans rfl; have hcz22_4 : w21.cell? ⟨gb119, 4, none⟩ = some (.slice A1_4 l1_4.length c1_4) := (blk_cell BK119.out 4).trans rfl; have hfz22_0 := blk_frozen BK119.out 0; have hfz22_1 := blk_frozen BK119.out 1; have hfz22_2 := blk_frozen BK119.out 2; have hfz22_3 := blk_frozen BK119.out 3; have hfz22_4 := blk_frozen BK119.out 4) | ((with_reducible refine gate_builtin (b := .append) (xs := #[.tmp 7, .tmp 12]) rfl ?_); at_builtin; refine Kd.R_append (Kd.int .u8) (w0 := w0) w0.heap.size rfl (.tmp 7) (.tmp 12) 28 5 (.int .u8 0) 1 rfl Tryd.underlying28 info5 rfl (by decide) (by omega) u9000_ l0 ((wrap64 (a1_0 + 1)) % 256) [.int .u8 ((wrap64 (a1_0 + 1)) % 256)] (fun k_ => (P0_ k_ ∨ w.heap.size ≤ k_)) (fun _ => False) rfl rfl ?aP (fun _ hk => hk.elim) ?aF ?aO ?aB ?aS ?aL ?_; (case aP => exact rfl); (case aB => exact (by repeat (first | (with_reducible first | exact HB.out | apply below_alloc | apply pw_below_drewN | apply below_drew1 | refine below_set ?_ GE119.out) | exact HB.out))); (case aF => exact (fun k_ hk => (.inr (Nat.le_trans (by first | exact HK.out.1 | exact (show Kept w _ (fun k_ => P0_ k_) from by repeat (first | (with_reducible first | exact HK.out | apply Kept.alloc | apply Kept.drewN | apply Kept.drew | refine Kept.setCell ?_ (.inr GW119.out) _) | exact HK.out)).1) hk)))); (case aO => exact (by (with_reducible repeat (first | apply Kd.R_alloc | apply Kd.R_drewN | apply Kd.R_drew)); exact HO0.out)); (case aS => exact (below_size (by repeat (first | (with_reducible first | exact HB.out | apply below_alloc | apply pw_below_drewN | apply below_drew1 | refine below_set ?_ GE119.out) | exact HB.out)))); (case aL => have := LMc3.out; omega); intro v121 w23 ho hb hg hat; rw [← Ny120.out] at ho; have n0_ := Aside0.mk (blk_grown (g := gb119) (o := .cells #[.int .i64 a1_0, .int .i64 a1_1, .string a1_2, .slice A1_3 l1_3.length c1_3, .slice A1_4 l1_4.length c1_4] 25 (0, 0)) (by (with_reducible repeat (first | refine blk_drewN ?_ _ | refine blk_drew ?_ | refine blk_alloc ?_ _)); exact BK119.out) hg (Kd.R_ne HO0.out BK119.out (by decide))); have n1_ := Aside0.mk (hb); have n2_ := Aside0.mk (Kept.of_grown (S := (fun k_ => P0_ k_)) hg (by repeat (first | (with_reducible first | exact HK.out | apply Kept.alloc | apply Kept.drewN | apply Kept.drew | refine Kept.setCell ?_ (.inr GW119.out) _) | exact HK.out)) (fun k_ e_ => (HO0.out.1 k_ e_))); have n3_ := Aside0.mk (ho); clear BK119; clear HB; clear HK; clear HO0; have BK119 := n0_; have HB := n1_; have HK := n2_; have HO122 := n3_; clear n0_ n1_ n2_ n3_; clear ho hb hg hat; have hcz24_0 : w23.cell? ⟨gb119, 0, none⟩ = some (.int .i64 a1_0) := (blk_cell BK119.out 0).trans rfl; have hcz24_1 : w23.cell? ⟨gb119, 1, none⟩ = some (.int .i64 a1_1) := (blk_cell BK119.out 1).trans rfl; have hcz24_2 : w23.cell? ⟨gb119, 2, none⟩ = some (.string a1_2) := (blk_cell BK119.out 2).trans rfl; have hcz24_3 : w23.cell? ⟨gb119, 3, none⟩ = some (.slice A1_3 l1_3.length c1_3) := (blk_cell BK119.out 3).trans rfl; have hcz24_4 : w23.cell? ⟨gb119, 4, none⟩ = some (.slice A1_4 l1_4.length c1_4) := (blk_cell BK119.out 4).trans rfl; have hfz24_0 := blk_frozen BK119.out 0; have hfz24_1 := blk_frozen BK119.out 1; have hfz24_2 := blk_frozen BK119.out 2; have hfz24_3 := blk_frozen BK119.out 3; have hfz24_4 := blk_frozen BK119.out 4))
        (try simp only [u64_ones_, Act.put, List.setIfInBounds_toArray, List.set_cons_zero, List.set_cons_succ])
        go_cut [30] (fun v30 wc => ∃ (kq : Nat) (x30_19 : Bool), v30 = .bool x30_19 ∧ Aside0 (keys_put.j0 kq y120 x30_19 a1_0 a1_1 a1_2 l1_3 l1_4 = some r) ∧ Aside0 (kq ≤ k) ∧ Aside0 (Kd.R (Kd.int .u8) 5 wc w0.heap.size (fun k_ => (P0_ k_ ∨ w.heap.size ≤ k_)) v121 y120) ∧ Aside0 (wc.heap[gb119]? = some (.cells #[.int .i64 a1_0, .int .i64 a1_1, .string a1_2, (.slice A1_3 l1_3.length c1_3), (.slice A1_4 l1_4.length c1_4)] 25 (0, 0))) ∧ Aside0 (Kept w wc (fun k_ => P0_ k_)) ∧ Aside0 (Below w0.heap.size w0 wc))
        case first =>
          have H := HC20.out
          clear HC20
          by_cases c25 : a1_0 = 5
          · rw [if_pos c25] at H
            have c25b0 : (a1_0 == 5) = true := beq_iff_eq.mpr c25
            have c25b1 : (a1_0 != 5) = false := bne_eq_false_iff_eq.mpr c25
            clear c25
            (first | rw [c25b0] | (simp only [i64_w, i32_w]; rw [c25b0]) | skip)
            have H' := Aside0.mk H
            clear H
            go_wp2
            go_meet
            case rel => exact ⟨_, ((a1_0 == 5)), (by first | rfl | (simp; done) | (simp [*]; done)), H', ⟨by first | omega | exact Nat.le_refl _⟩, ⟨by (with_reducible repeat (first | apply Kd.R_alloc | apply Kd.R_drewN | apply Kd.R_drew)); exact HO122.out⟩, ⟨by (with_reducible repeat (first | refine blk_drewN ?_ _ | refine blk_drew ?_ | refine blk_alloc ?_ _)); exact BK119.out⟩, ⟨by repeat (first | (with_reducible first | exact HK.out | apply Kept.alloc | apply Kept.drewN | apply Kept.drew | refine Kept.setCell ?_ (.inr GW119.out) _) | exact HK.out)⟩, ⟨by repeat (first | (with_reducible first | exact HB.out | apply below_alloc | apply pw_below_drewN | apply below_drew1 | refine below_set ?_ GE119.out) | exact HB.out)⟩⟩
          · rw [if_neg c25] at H
            have c25b0 : (a1_0 == 5) = false := beq_eq_false_iff_ne.mpr c25
            have c25b1 : (a1_0 != 5) = true := bne_iff_ne.mpr c25
            (first | rw [c25b0] | (simp only [i64_w, i32_w]; rw [c25b0]) | skip)
            have H' := Aside0.mk H
            clear H
            go_wp2
            go_meet
            case rel => exact ⟨_, ((a1_0 == 6)), (by first | rfl | (simp; done) | (simp [*]; done)), H', ⟨by first | omega | exact Nat.le_refl _⟩, ⟨by (with_reducible repeat (first | apply Kd.R_alloc | apply Kd.R_drewN | apply Kd.R_drew)); exact HO122.out⟩, ⟨by (with_reducible repeat (first | refine blk_drewN ?_ _ | refine blk_drew ?_ | refine blk_alloc ?_ _)); exact BK119.out⟩, ⟨by repeat (first | (with_reducible first | exact HK.out | apply Kept.alloc | apply Kept.drewN | apply Kept.drew | refine Kept.setCell ?_ (.inr GW119.out) _) | exact HK.out)⟩, ⟨by repeat (first | (with_reducible first | exact HB.out | apply below_alloc | apply pw_below_drewN | apply below_drew1 | refine below_set ?_ GE119.out) | exact HB.out)⟩⟩
        case rest =>
          clear HC20
          try clear c1
          try clear c2
          try clear p2
          try clear c3
          try clear c4
          try clear c4b0
          try clear c4b1
          try clear p6
          try clear c12
          try clear c12b0
          try clear c12b1
          try clear c24
          try clear c25
          try clear c25b0
          try clear c25b1
          try clear hcz15_0
          try clear hcz15_1
          try clear hcz15_2
          try clear hcz15_3
          try clear hcz15_4
          try clear hcz17_0
          try clear hcz17_1
          try clear hcz17_2
          try clear hcz17_3
          try clear hcz17_4
          try clear hcz22_0
          try clear hcz22_1
          try clear hcz22_2
          try clear hcz22_3
          try clear hcz22_4
          try clear hcz24_0
          try clear hcz24_1
          try clear hcz24_2
          try clear hcz24_3
          try clear hcz24_4
          try clear hcz7_0
          try clear hcz7_1
          try clear hcz7_2
          try clear hcz7_3
          try clear hcz7_4
          try clear hcz9_0
          try clear hcz9_1
          try clear hcz9_2
          try clear hcz9_3
          try clear hcz9_4
          try clear hfz15_0
          try clear hfz15_1
          try clear hfz15_2
          try clear hfz15_3
          try clear hfz15_4
          try clear hfz17_0
          try clear hfz17_1
          try clear hfz17_2
          try clear hfz17_3
          try clear hfz17_4
          try clear hfz22_0
          try clear hfz22_1
          try clear hfz22_2
          try clear hfz22_3
          try clear hfz22_4
          try clear hfz24_0
          try clear hfz24_1
          try clear hfz24_2
          try clear hfz24_3
          try clear hfz24_4
          try clear hfz7_0
          try clear hfz7_1
          try clear hfz7_2
          try clear hfz7_3
          try clear hfz7_4
          try clear hfz9_0
          try clear hfz9_1
          try clear hfz9_2
          try clear hfz9_3
          try clear hfz9_4
          obtain ⟨kq, x30_19, rfl, HA, HJ19, HO_0, BK119, HK, HB⟩ := hcut
          cases kq with
          | zero => exact absurd HA.out (by simp [keys_put.j0])
          | succ kj19 =>
            have H := HA.out
            clear HA
            simp only [keys_put.j0] at H
            by_cases c26 : x30_19 = true
            · subst c26
              have H1 : (keys_put.l0 kj19 y120 l1_4 (l1_4.length : Int) 0 a1_0 a1_1 a1_2 l1_3 l1_4) = some r := by rw [if_pos rfl] at H; exact H
              clear H
              have H := H1
              clear H1
              have H' := Aside0.mk H
              clear H
              have hcz27_0 : wc.cell? ⟨gb119, 0, none⟩ = some (.int .i64 a1_0) := (blk_cell BK119.out 0).trans rfl
              have hcz27_1 : wc.cell? ⟨gb119, 1, none⟩ = some (.int .i64 a1_1) := (blk_cell BK119.out 1).trans rfl
              have hcz27_2 : wc.cell? ⟨gb119, 2, none⟩ = some (.string a1_2) := (blk_cell BK119.out 2).trans rfl
              have hcz27_3 : wc.cell? ⟨gb119, 3, none⟩ = some (.slice A1_3 l1_3.length c1_3) := (blk_cell BK119.out 3).trans rfl
              have hcz27_4 : wc.cell? ⟨gb119, 4, none⟩ = some (.slice A1_4 l1_4.length c1_4) := (blk_cell BK119.out 4).trans rfl
              have hfz27_0 := blk_frozen BK119.out 0
              have hfz27_1 := blk_frozen BK119.out 1
              have hfz27_2 := blk_frozen BK119.out 2
              have hfz27_3 := blk_frozen BK119.out 3
              have hfz27_4 := blk_frozen BK119.out 4
              go_wp2
              go_loopg [0, 36] kj19 (fun kq v0 v36 w' => ∃ (x0_2 : List Int) (x36_2 : Int), v36 = .int .i64 x36_2 ∧ Aside0 (keys_put.l0 kq x0_2 l1_4 (l1_4.length : Int) x36_2 a1_0 a1_1 a1_2 l1_3 l1_4 = some r) ∧ Aside0 (kq ≤ kj19) ∧ Aside0 (Kd.R (Kd.int .u8) 5 w' w0.heap.size (fun k_ => (P0_ k_ ∨ w.heap.size ≤ k_)) v0 x0_2) ∧ Aside0 (w'.heap[gb119]? = some (.cells #[.int .i64 a1_0, .int .i64 a1_1, .string a1_2, (.slice A1_3 l1_3.length c1_3), (.slice A1_4 l1_4.length c1_4)] 25 (0, 0))) ∧ Aside0 (Kept w w' (fun k_ => P0_ k_)) ∧ Aside0 (Below w0.heap.size w0 w'))
              case atStart => exact ⟨(y120), (0), (by first | rfl | (simp; done) | (simp [*]; done)), H', ⟨Nat.le_refl _⟩, ⟨by (with_reducible repeat (first | apply Kd.R_alloc | apply Kd.R_drewN | apply Kd.R_drew)); exact HO_0.out⟩, ⟨by (with_reducible repeat (first | refine blk_drewN ?_ _ | refine blk_drew ?_ | refine blk_alloc ?_ _)); exact BK119.out⟩, ⟨by repeat (first | (with_reducible first | exact HK.out | apply Kept.alloc | apply Kept.drewN | apply Kept.drew | refine Kept.setCell ?_ (.inr GW119.out) _) | exact HK.out)⟩, ⟨by repeat (first | (with_reducible first | exact HB.out | apply below_alloc | apply pw_below_drewN | apply below_drew1 | refine below_set ?_ GE119.out) | exact HB.out)⟩⟩
              case round =>
                clear H'
                try clear c1
                try clear c2
                try clear p2
                try clear c3
                try clear c4
                try clear c4b0
                try clear c4b1
                try clear p6
                try clear c12
                try clear c12b0
                try clear c12b1
                try clear c24
                try clear c25
                try clear c25b0
                try clear c25b1
                try clear c26
                try clear hcz15_0
                try clear hcz15_1
                try clear hcz15_2
                try clear hcz15_3
                try clear hcz15_4
                try clear hcz17_0
                try clear hcz17_1
                try clear hcz17_2
                try clear hcz17_3
                try clear hcz17_4
                try clear hcz22_0
                try clear hcz22_1
                try clear hcz22_2
                try clear hcz22_3
                try clear hcz22_4
                try clear hcz24_0
                try clear hcz24_1
                try clear hcz24_2
                try clear hcz24_3
                try clear hcz24_4
                try clear hcz27_0
                try clear hcz27_1
                try clear hcz27_2
                try clear hcz27_3
                try clear hcz27_4
                try clear hcz7_0
                try clear hcz7_1
                try clear hcz7_2
                try clear hcz7_3
                try clear hcz7_4
                try clear hcz9_0
                try clear hcz9_1
                try clear hcz9_2
                try clear hcz9_3
                try clear hcz9_4
                try clear hfz15_0
                try clear hfz15_1
                try clear hfz15_2
                try clear hfz15_3
                try clear hfz15_4
                try clear hfz17_0
                try clear hfz17_1
                try clear hfz17_2
                try clear hfz17_3
                try clear hfz17_4
                try clear hfz22_0
                try clear hfz22_1
                try clear hfz22_2
                try clear hfz22_3
                try clear hfz22_4
                try clear hfz24_0
                try clear hfz24_1
                try clear hfz24_2
                try clear hfz24_3
                try clear hfz24_4
                try clear hfz27_0
                try clear hfz27_1
                try clear hfz27_2
                try clear hfz27_3
                try clear hfz27_4
                try clear hfz7_0
                try clear hfz7_1
                try clear hfz7_2
                try clear hfz7_3
                try clear hfz7_4
                try clear hfz9_0
                try clear hfz9_1
                try clear hfz9_2
                try clear hfz9_3
                try clear hfz9_4
                try clear p2
                try clear p6
                try clear BK119
                obtain ⟨x0_2, x36_2, rfl, HA, HK2, HO_0, BK119, HK, HB⟩ := hrel
                cases gk with
                | zero => exact absurd HA.out (by simp [keys_put.l0])
                | succ k2 =>
                  have H := HA.out
                  clear HA
                  simp only [keys_put.l0] at H
                  by_cases c28 : x36_2 < (l1_4.length : Int)
                  · rw [if_pos c28] at H
                    have c28b0 : decide (x36_2 < (l1_4.length : Int)) = true := decide_eq_true c28
                    clear c28
                    by_cases c29 : 0 ≤ x36_2
                    · rw [if_pos c29] at H
                      have c29b0 : decide (0 ≤ x36_2) = true := decide_eq_true c29
                      clear c29
                      by_cases c30 : x36_2 < (l1_4.length : Int)
                      · rw [if_pos c30] at H
                        have c30b0 : decide (x36_2 < (l1_4.length : Int)) = true := decide_eq_true c30
                        clear c30
                        by_cases c31 : a1_0 = 6
                        · rw [if_pos c31] at H
                          have c31b0 : (a1_0 == 6) = true := beq_iff_eq.mpr c31
                          have c31b1 : (a1_0 != 6) = false := bne_eq_false_iff_eq.mpr c31
                          clear c31
                          by_cases c32 : x0_2.length < 140737488355328
                          · rw [if_pos c32] at H
                            have LMc32 := Aside0.mk c32
                            clear c32
                            obtain ⟨y134, hy134⟩ : ∃ y_ : List Int, y_ = (x0_2 ++ [1]) := ⟨_, rfl⟩
                            replace H : (if x36_2 < (l1_3.length : Int) then ((keys_text.f k2 y134 (rdOf ByteArray.empty l1_3 x36_2)).bind fun t138 => ((keys_put.f k2 t138 ((rd_T25 l1_4 x36_2).f0) ((rd_T25 l1_4 x36_2).f1) ((rd_T25 l1_4 x36_2).f2) ((rd_T25 l1_4 x36_2).f3) ((rd_T25 l1_4 x36_2).f4)).bind fun t141 => (keys_put.l0 k2 t141 l1_4 (l1_4.length : Int) (wrap64 (x36_2 + 1)) a1_0 a1_1 a1_2 l1_3 l1_4))) else (none)) = some r := by first | (rw [hy134]; with_reducible exact H) | (have H2_ := (Option.bind_some _ _).symm.trans H; rw [hy134]; with_reducible exact H2_) | (have H2_ := (Option.bind_some _ _).symm.trans H; with_reducible exact H2_) | with_reducible exact H | (rw [hy134]; exact H) | exact H
                            have Ny134 := Aside0.mk hy134
                            clear hy134
                            by_cases c33 : x36_2 < (l1_3.length : Int)
                            · rw [if_pos c33] at H
                              have c33b0 : decide (x36_2 < (l1_3.length : Int)) = true := decide_eq_true c33
                              clear c33
                              replace H := Option.bind_eq_some_iff.mp H
                              obtain ⟨t138, A340, H⟩ := H
                              replace H : ((keys_put.f k2 t138 ((rd_T25 l1_4 x36_2).f0) ((rd_T25 l1_4 x36_2).f1) ((rd_T25 l1_4 x36_2).f2) ((rd_T25 l1_4 x36_2).f3) ((rd_T25 l1_4 x36_2).f4)).bind fun t141 => (keys_put.l0 k2 t141 l1_4 (l1_4.length : Int) (wrap64 (x36_2 + 1)) a1_0 a1_1 a1_2 l1_3 l1_4)) = some r := H
                              have A34 := Aside0.mk A340
                              clear A340
                              replace H := Option.bind_eq_some_iff.mp H
                              obtain ⟨t141, A350, H⟩ := H
                              replace H : (keys_put.l0 k2 t141 l1_4 (l1_4.length : Int) (wrap64 (x36_2 + 1)) a1_0 a1_1 a1_2 l1_3 l1_4) = some r := H
                              have A35 := Aside0.mk A350
                              clear A350
                              have H' := Aside0.mk H
                              clear H
                              have p132 : 0 ≤ (x36_2 : Int) := of_decide_eq_true (by first | (with_reducible assumption) | assumption)
                              have q132 : x36_2 < (l1_4.length : Int) := of_decide_eq_true (by first | (with_reducible assumption) | assumption)
                              obtain ⟨ad132, A132_3, c132_3, A132_4, c132_4, e132, hx132_0, hx132_1, hx132_2, hx132_3, hx132_4, hl132_3, hi132_3, hl132_4, hi132_4⟩ := at_T25 (Kd.C_kept_now HR1_4.out HK.out) x36_2 p132 q132
                              have hf132_3 := Kd.foot_leaf HR1_4.out HK.out z25 x36_2 p132 q132 (by decide) e132 3 (by decide) (v := .slice A132_3 ((rd_T25 l1_4 x36_2).f3).length c132_3) (by first | exact hx132_3 | (rw [show (k25).sz = 5 from rfl]; first | exact hx132_3 | (rw [add_field _ _ 3 (by omega)]; exact hx132_3))) (P := fun W_ => Kd.C Kd.string W_ A132_3 ((rd_T25 l1_4 x36_2).f3).length ((rd_T25 l1_4 x36_2).f3)) (fun W_ c_ _ hK_ hc_ => by obtain ⟨A3_, c3_, A4_, c4_, rfl, l3_, g3_, l4_, g4_⟩ := k25_open hK_; injection (Option.some.inj hc_) with ha_ _ _; rw [← ha_]; exact g3_)
                              have hf132_4 := Kd.foot_leaf HR1_4.out HK.out z25 x36_2 p132 q132 (by decide) e132 4 (by decide) (v := .slice A132_4 ((rd_T25 l1_4 x36_2).f4).length c132_4) (by first | exact hx132_4 | (rw [show (k25).sz = 5 from rfl]; first | exact hx132_4 | (rw [add_field _ _ 4 (by omega)]; exact hx132_4))) (P := fun W_ => Kd.C k25 W_ A132_4 ((rd_T25 l1_4 x36_2).f4).length ((rd_T25 l1_4 x36_2).f4)) (fun W_ c_ _ hK_ hc_ => by obtain ⟨A3_, c3_, A4_, c4_, rfl, l3_, g3_, l4_, g4_⟩ := k25_open hK_; injection (Option.some.inj hc_) with ha_ _ _; rw [← ha_]; exact g4_)
                              cases e132
                              have HR132_3 := Aside0.mk hf132_3
                              have HC132_3 := Aside0.mk hl132_3
                              clear hi132_3 hl132_3
                              clear hf132_3
                              have HR132_4 := Aside0.mk hf132_4
                              have HC132_4 := Aside0.mk hl132_4
                              clear hi132_4 hl132_4
                              clear hf132_4
                              replace p132 := eq_true p132
                              replace q132 := eq_true q132
                              try go_wp2_with (first | ((with_reducible refine gate_dst (N := 6) rfl ?_); refine box_event ?hg (N := 6) ?hd (cs := #[.int .i64 0, .int .i64 0, .string (⟨#[]⟩ : ByteArray), .slice none 0 0, .slice none 0 0]) (t := 25) ?hr ?_; (case hd => rfl); (case hg => rfl); (case hr => first | (go_simp; done) | (go_simp; rfl)); intro gb133 hg w36 hbox hb; have n0_ := Aside0.mk (Kd.R_below (by (with_reducible repeat (first | apply Kd.R_alloc | apply Kd.R_drewN | apply Kd.R_drew)); exact HO_0.out) hb); have n1_ := Aside0.mk (blk_below (g := gb119) (o := .cells #[.int .i64 a1_0, .int .i64 a1_1, .string a1_2, .slice A1_3 l1_3.length c1_3, .slice (some ad132) l1_4.length c1_4] 25 (0, 0)) (by (with_reducible repeat (first | refine blk_drewN ?_ _ | refine blk_drew ?_ | refine blk_alloc ?_ _)); exact BK119.out) hb); have n2_ := Aside0.mk (Kept.below (S := (fun k_ => P0_ k_)) (by repeat (first | (with_reducible first | exact HK.out | apply Kept.alloc | apply Kept.drewN | apply Kept.drew | refine Kept.setCell ?_ (.inr GW119.out) _) | exact HK.out)) hb); have n3_ := Aside0.mk (below_step (by repeat (first | (with_reducible first | exact HB.out | apply below_alloc | apply pw_below_drewN | apply below_drew1 | refine below_set ?_ GE119.out) | exact HB.out)) hb); have n4_ := Aside0.mk (hbox); have n5_ := Aside0.mk ((by rw [hg]; exact (by first | exact HK.out.1 | exact (show Kept w _ (fun k_ => P0_ k_) from by repeat (first | (with_reducible first | exact HK.out | apply Kept.alloc | apply Kept.drewN | apply Kept.drew | refine Kept.setCell ?_ (.inr GW119.out) _) | exact HK.out)).1) : w.heap.size ≤ gb133)); have n6_ := Aside0.mk ((by rw [hg]; exact (below_size (by repeat (first | (with_reducible first | exact HB.out | apply below_alloc | apply pw_below_drewN | apply below_drew1 | refine below_set ?_ GE119.out) | exact HB.out))) : w0.heap.size ≤ gb133)); have n7_ := Aside0.mk ((by rw [hg]; exact Nat.ne_of_lt (blk_lt (g := gb119) (o := .cells #[.int .i64 a1_0, .int .i64 a1_1, .string a1_2, .slice A1_3 l1_3.length c1_3, .slice (some ad132) l1_4.length c1_4] 25 (0, 0)) (by (with_reducible repeat (first | refine blk_drewN ?_ _ | refine blk_drew ?_ | refine blk_alloc ?_ _)); exact BK119.out)) : gb119 ≠ gb133)); have n8_ := Aside0.mk ((by rw [hg]; exact Nat.ne_of_gt (blk_lt (g := gb119) (o := .cells #[.int .i64 a1_0, .int .i64 a1_1, .string a1_2, .slice A1_3 l1_3.length c1_3, .slice (some ad132) l1_4.length c1_4] 25 (0, 0)) (by (with_reducible repeat (first | refine blk_drewN ?_ _ | refine blk_drew ?_ | refine blk_alloc ?_ _)); exact BK119.out)) : gb133 ≠ gb119)); clear HO_0; clear BK119; clear HK; clear HB; have HO_0 := n0_; have BK119 := n1_; have HK := n2_; have HB := n3_; have BK133 := n4_; have GW133 := n5_; have GE133 := n6_; have NB119_133 := n7_; have NB133_119 := n8_; clear n0_ n1_ n2_ n3_ n4_ n5_ n6_ n7_ n8_; clear hb hbox hg; have hnb37 := NB133_119.out; have hnc37 := NB119_133.out; have hcz38_0 : w36.cell? ⟨gb133, 0, none⟩ = some (.int .i64 0) := (blk_cell BK133.out 0).trans rfl; have hcz38_1 : w36.cell? ⟨gb133, 1, none⟩ = some (.int .i64 0) := (blk_cell BK133.out 1).trans rfl; have hcz38_2 : w36.cell? ⟨gb133, 2, none⟩ = some (.string (⟨#[]⟩ : ByteArray)) := (blk_cell BK133.out 2).trans rfl; have hcz38_3 : w36.cell? ⟨gb133, 3, none⟩ = some (.slice none 0 0) := (blk_cell BK133.out 3).trans rfl; have hcz38_4 : w36.cell? ⟨gb133, 4, none⟩ = some (.slice none 0 0) := (blk_cell BK133.out 4).trans rfl; have hfz38_0 := blk_frozen BK133.out 0; have hfz38_1 := blk_frozen BK133.out 1; have hfz38_2 := blk_frozen BK133.out 2; have hfz38_3 := blk_frozen BK133.out 3; have hfz38_4 := blk_frozen BK133.out 4; have hcz39_0 : w36.cell? ⟨gb119, 0, none⟩ = some (.int .i64 a1_0) := (blk_cell BK119.out 0).trans rfl; have hcz39_1 : w36.cell? ⟨gb119, 1, none⟩ = some (.int .i64 a1_1) := (blk_cell BK119.out 1).trans rfl; have hcz39_2 : w36.cell? ⟨gb119, 2, none⟩ = some (.string a1_2) := (blk_cell BK119.out 2).trans rfl; have hcz39_3 : w36.cell? ⟨gb119, 3, none⟩ = some (.slice A1_3 l1_3.length c1_3) := (blk_cell BK119.out 3).trans rfl; have hcz39_4 : w36.cell? ⟨gb119, 4, none⟩ = some (.slice (some ad132) l1_4.length c1_4) := (blk_cell BK119.out 4).trans rfl; have hfz39_0 := blk_frozen BK119.out 0; have hfz39_1 := blk_frozen BK119.out 1; have hfz39_2 := blk_frozen BK119.out 2; have hfz39_3 := blk_frozen BK119.out 3; have hfz39_4 := blk_frozen BK119.out 4))
                              have n0_ : Aside0 (Kd.R (Kd.int .u8) 5 (((((w36.setCell ⟨gb133, 0, none⟩ (.int .i64 ((rd_T25 l1_4 x36_2).f0))).setCell ⟨gb133, 1, none⟩ (.int .i64 ((rd_T25 l1_4 x36_2).f1))).setCell ⟨gb133, 2, none⟩ (.string ((rd_T25 l1_4 x36_2).f2))).setCell ⟨gb133, 3, none⟩ (.slice A132_3 ((rd_T25 l1_4 x36_2).f3).length c132_3)).setCell ⟨gb133, 4, none⟩ (.slice A132_4 ((rd_T25 l1_4 x36_2).f4).length c132_4)) w0.heap.size (fun k_ => (P0_ k_ ∨ w.heap.size ≤ k_)) u0 x0_2) := ⟨by (with_reducible repeat (first | apply Kd.R_alloc | apply Kd.R_drewN | apply Kd.R_drew)); exact Kd.R_mono (Kd.R_far (p := ⟨gb133, 4, none⟩) (Kd.R_far (p := ⟨gb133, 3, none⟩) (Kd.R_far (p := ⟨gb133, 2, none⟩) (Kd.R_far (p := ⟨gb133, 1, none⟩) (Kd.R_far (p := ⟨gb133, 0, none⟩) (Kd.R_types HO_0.out BK133.out (by decide)) (fun _ hk => hk.2) (.int .i64 ((rd_T25 l1_4 x36_2).f0))) (fun _ hk => hk.2) (.int .i64 ((rd_T25 l1_4 x36_2).f1))) (fun _ hk => hk.2) (.string ((rd_T25 l1_4 x36_2).f2))) (fun _ hk => hk.2) (.slice A132_3 ((rd_T25 l1_4 x36_2).f3).length c132_3)) (fun _ hk => hk.2) (.slice A132_4 ((rd_T25 l1_4 x36_2).f4).length c132_4)) (fun _ hk => hk.1)⟩
                              have n1_ : Aside0 ((((((w36.setCell ⟨gb133, 0, none⟩ (.int .i64 ((rd_T25 l1_4 x36_2).f0))).setCell ⟨gb133, 1, none⟩ (.int .i64 ((rd_T25 l1_4 x36_2).f1))).setCell ⟨gb133, 2, none⟩ (.string ((rd_T25 l1_4 x36_2).f2))).setCell ⟨gb133, 3, none⟩ (.slice A132_3 ((rd_T25 l1_4 x36_2).f3).length c132_3)).setCell ⟨gb133, 4, none⟩ (.slice A132_4 ((rd_T25 l1_4 x36_2).f4).length c132_4)).heap[gb119]? = some (.cells #[.int .i64 a1_0, .int .i64 a1_1, .string a1_2, .slice A1_3 l1_3.length c1_3, .slice (some ad132) l1_4.length c1_4] 25 (0, 0))) := ⟨by (with_reducible repeat (first | refine blk_drewN ?_ _ | refine blk_drew ?_ | refine blk_alloc ?_ _)); refine blk_far ?_ NB119_133.out _; (with_reducible repeat (first | refine blk_drewN ?_ _ | refine blk_drew ?_ | refine blk_alloc ?_ _)); refine blk_far ?_ NB119_133.out _; (with_reducible repeat (first | refine blk_drewN ?_ _ | refine blk_drew ?_ | refine blk_alloc ?_ _)); refine blk_far ?_ NB119_133.out _; (with_reducible repeat (first | refine blk_drewN ?_ _ | refine blk_drew ?_ | refine blk_alloc ?_ _)); refine blk_far ?_ NB119_133.out _; (with_reducible repeat (first | refine blk_drewN ?_ _ | refine blk_drew ?_ | refine blk_alloc ?_ _)); refine blk_far ?_ NB119_133.out _; (with_reducible repeat (first | refine blk_drewN ?_ _ | refine blk_drew ?_ | refine blk_alloc ?_ _)); exact BK119.out⟩
                              have n2_ : Aside0 ((((((w36.setCell ⟨gb133, 0, none⟩ (.int .i64 ((rd_T25 l1_4 x36_2).f0))).setCell ⟨gb133, 1, none⟩ (.int .i64 ((rd_T25 l1_4 x36_2).f1))).setCell ⟨gb133, 2, none⟩ (.string ((rd_T25 l1_4 x36_2).f2))).setCell ⟨gb133, 3, none⟩ (.slice A132_3 ((rd_T25 l1_4 x36_2).f3).length c132_3)).setCell ⟨gb133, 4, none⟩ (.slice A132_4 ((rd_T25 l1_4 x36_2).f4).length c132_4)).heap[gb133]? = some (.cells #[.int .i64 ((rd_T25 l1_4 x36_2).f0), .int .i64 ((rd_T25 l1_4 x36_2).f1), .string ((rd_T25 l1_4 x36_2).f2), .slice A132_3 ((rd_T25 l1_4 x36_2).f3).length c132_3, .slice A132_4 ((rd_T25 l1_4 x36_2).f4).length c132_4] 25 (0, 0))) := ⟨by (with_reducible repeat (first | refine blk_drewN ?_ _ | refine blk_drew ?_ | refine blk_alloc ?_ _)); refine blk_put (cs := #[.int .i64 ((rd_T25 l1_4 x36_2).f0), .int .i64 ((rd_T25 l1_4 x36_2).f1), .string ((rd_T25 l1_4 x36_2).f2), .slice A132_3 ((rd_T25 l1_4 x36_2).f3).length c132_3, .slice none 0 0]) ?_ 4 _ rfl; (with_reducible repeat (first | refine blk_drewN ?_ _ | refine blk_drew ?_ | refine blk_alloc ?_ _)); refine blk_put (cs := #[.int .i64 ((rd_T25 l1_4 x36_2).f0), .int .i64 ((rd_T25 l1_4 x36_2).f1), .string ((rd_T25 l1_4 x36_2).f2), .slice none 0 0, .slice none 0 0]) ?_ 3 _ rfl; (with_reducible repeat (first | refine blk_drewN ?_ _ | refine blk_drew ?_ | refine blk_alloc ?_ _)); refine blk_put (cs := #[.int .i64 ((rd_T25 l1_4 x36_2).f0), .int .i64 ((rd_T25 l1_4 x36_2).f1), .string (⟨#[]⟩ : ByteArray), .slice none 0 0, .slice none 0 0]) ?_ 2 _ rfl; (with_reducible repeat (first | refine blk_drewN ?_ _ | refine blk_drew ?_ | refine blk_alloc ?_ _)); refine blk_put (cs := #[.int .i64 ((rd_T25 l1_4 x36_2).f0), .int .i64 0, .string (⟨#[]⟩ : ByteArray), .slice none 0 0, .slice none 0 0]) ?_ 1 _ rfl; (with_reducible repeat (first | refine blk_drewN ?_ _ | refine blk_drew ?_ | refine blk_alloc ?_ _)); refine blk_put (cs := #[.int .i64 0, .int .i64 0, .string (⟨#[]⟩ : ByteArray), .slice none 0 0, .slice none 0 0]) ?_ 0 _ rfl; (with_reducible repeat (first | refine blk_drewN ?_ _ | refine blk_drew ?_ | refine blk_alloc ?_ _)); exact BK133.out⟩
                              have n3_ : Aside0 (Kept w (((((w36.setCell ⟨gb133, 0, none⟩ (.int .i64 ((rd_T25 l1_4 x36_2).f0))).setCell ⟨gb133, 1, none⟩ (.int .i64 ((rd_T25 l1_4 x36_2).f1))).setCell ⟨gb133, 2, none⟩ (.string ((rd_T25 l1_4 x36_2).f2))).setCell ⟨gb133, 3, none⟩ (.slice A132_3 ((rd_T25 l1_4 x36_2).f3).length c132_3)).setCell ⟨gb133, 4, none⟩ (.slice A132_4 ((rd_T25 l1_4 x36_2).f4).length c132_4)) (fun k_ => P0_ k_)) := ⟨by repeat (first | (with_reducible first | exact HK.out | apply Kept.alloc | apply Kept.drewN | apply Kept.drew | refine Kept.setCell ?_ (.inr GW119.out) _ | refine Kept.setCell ?_ (.inr GW133.out) _) | exact HK.out)⟩
                              have n4_ : Aside0 (Below w0.heap.size w0 (((((w36.setCell ⟨gb133, 0, none⟩ (.int .i64 ((rd_T25 l1_4 x36_2).f0))).setCell ⟨gb133, 1, none⟩ (.int .i64 ((rd_T25 l1_4 x36_2).f1))).setCell ⟨gb133, 2, none⟩ (.string ((rd_T25 l1_4 x36_2).f2))).setCell ⟨gb133, 3, none⟩ (.slice A132_3 ((rd_T25 l1_4 x36_2).f3).length c132_3)).setCell ⟨gb133, 4, none⟩ (.slice A132_4 ((rd_T25 l1_4 x36_2).f4).length c132_4))) := ⟨by repeat (first | (with_reducible first | exact HB.out | apply below_alloc | apply pw_below_drewN | apply below_drew1 | refine below_set ?_ GE119.out | refine below_set ?_ GE133.out) | exact HB.out)⟩
                              (try clear HO_0)
                              (try clear BK119)
                              (try clear BK133)
                              (try clear HK)
                              (try clear HB)
                              generalize (((((w36.setCell ⟨gb133, 0, none⟩ (.int .i64 ((rd_T25 l1_4 x36_2).f0))).setCell ⟨gb133, 1, none⟩ (.int .i64 ((rd_T25 l1_4 x36_2).f1))).setCell ⟨gb133, 2, none⟩ (.string ((rd_T25 l1_4 x36_2).f2))).setCell ⟨gb133, 3, none⟩ (.slice A132_3 ((rd_T25 l1_4 x36_2).f3).length c132_3)).setCell ⟨gb133, 4, none⟩ (.slice A132_4 ((rd_T25 l1_4 x36_2).f4).length c132_4)) = w40 at n0_ n1_ n2_ n3_ n4_ ⊢
                              have HO_0 := n0_
                              have BK119 := n1_
                              have BK133 := n2_
                              have HK := n3_
                              have HB := n4_
                              clear n0_ n1_ n2_ n3_ n4_
                              have n0_ := Aside0.mk (Kd.R_drew HO_0.out)
                              have n1_ := Aside0.mk (blk_drew BK119.out)
                              have n2_ := Aside0.mk (blk_drew BK133.out)
                              have n3_ := Aside0.mk (Kept.drew HK.out)
                              have n4_ := Aside0.mk (below_drew1 HB.out)
                              clear HO_0
                              clear BK119
                              clear BK133
                              clear HK
                              clear HB
                              have HO_0 := n0_
                              have BK119 := n1_
                              have BK133 := n2_
                              have HK := n3_
                              have HB := n4_
                              clear n0_ n1_ n2_ n3_ n4_
                              have p137 : 0 ≤ (x36_2 : Int) := of_decide_eq_true (by first | (with_reducible assumption) | assumption)
                              have q137 : x36_2 < (l1_3.length : Int) := of_decide_eq_true (by first | (with_reducible assumption) | assumption)
                              obtain ⟨ad137, e137, hx137_0⟩ := Kd.at_string (Kd.C_kept_now HR1_3.out HK.out) x36_2 p137 q137
                              have hw137_0 := hx137_0
                              cases e137
                              replace p137 := eq_true p137
                              replace q137 := eq_true q137
                              refine start_ (n := 10) (S := fun w' => w'.cell? ⟨gb119, 0, none⟩ = some (.int .i64 a1_0) ∧ w'.cell? ⟨gb119, 1, none⟩ = some (.int .i64 a1_1) ∧ w'.cell? ⟨gb119, 2, none⟩ = some (.string a1_2) ∧ w'.cell? ⟨gb119, 3, none⟩ = some (.slice (some ad137) l1_3.length c1_3) ∧ w'.cell? ⟨gb119, 4, none⟩ = some (.slice (some ad132) l1_4.length c1_4) ∧ w'.cell? (ad137.add (x36_2).toNat) = some (.string (rdOf ByteArray.empty l1_3 x36_2))) (ds := []) #[false, false, false, false, false, false, false, false, false, false] (by kernel_rfl) rfl rfl ⟨(blk_cell BK119.out 0).trans rfl, (blk_cell BK119.out 1).trans rfl, (blk_cell BK119.out 2).trans rfl, (blk_cell BK119.out 3).trans rfl, (blk_cell BK119.out 4).trans rfl, (Kd.foot_string (HR1_3.out _ (by repeat (first | exact HK.out | apply Kept.alloc | apply Kept.drewN | apply Kept.drew))) x36_2 (of_eq_true p137) (of_eq_true q137))⟩ (fun hHeld => ?_); refine with_tabW keys_put.tab13 keys_put.bits13 (fun HT_ HW_ => ?_)
                              generalize w40.drew = w41 at HO_0 BK119 BK133 HK HB hx137_0 hHeld ⊢
                              refine pure_ (i := 0) (N := some 44) (v := ?_) (a' := ?_) #[true, false, false, false, false, false, false, false, false, false] rfl rfl (any_of HT_.out (by kernel_rfl)) (fun _ _ _ h => h) (Or.inl ⟨by rfl, ?_⟩) ?_ ?_
                              rotate_left
                              · intro w'
                                go_simp
                                with_reducible rfl
                              rotate_left
                              · simp only [u64_ones_, Act.put, List.setIfInBounds_toArray, List.set_cons_zero, List.set_cons_succ, i64_w, i32_w]
                                rfl
                              refine pure_ (i := 3) (N := some 47) (v := ?_) (a' := ?_) #[true, false, false, true, false, false, false, false, false, false] rfl rfl (any_of HT_.out (by kernel_rfl)) (fun _ _ _ h => h) (Or.inl ⟨by rfl, ?_⟩) ?_ ?_
                              rotate_left
                              · intro w'
                                go_simp
                                with_reducible rfl
                              rotate_left
                              · simp only [u64_ones_, Act.put, List.setIfInBounds_toArray, List.set_cons_zero, List.set_cons_succ, i64_w, i32_w]
                                rfl
                              refine pure_ (i := 5) (N := some 49) (v := ?_) (a' := ?_) #[true, false, false, true, false, true, false, false, false, false] rfl rfl (any_of HT_.out (by kernel_rfl)) (fun _ _ _ h => h) (Or.inl ⟨by rfl, ?_⟩) ?_ ?_
                              rotate_left
                              · intro w'
                                go_simp
                                with_reducible rfl
                              rotate_left
                              · simp only [u64_ones_, Act.put, List.setIfInBounds_toArray, List.set_cons_zero, List.set_cons_succ, i64_w, i32_w]
                                rfl
                              refine take_ (i := 4) (N := some 48) (v := ?_) (a' := ?_) #[true, false, false, true, true, true, false, false, false, false] rfl rfl (take_ofW HT_.out HW_.out (by kernel_rfl)) (fun _ _ _ h => h) (Or.inl ⟨by rfl, ?_⟩) hHeld ?_ ?_
                              rotate_left
                              · rintro w' ⟨s0, s1, s2, s3, s4, s5⟩
                                go_simp
                                with_reducible rfl
                              rotate_left
                              · simp only [u64_ones_, Act.put, List.setIfInBounds_toArray, List.set_cons_zero, List.set_cons_succ, i64_w, i32_w]
                                rfl
                              refine pure_ (i := 6) (N := some 50) (v := ?_) (a' := ?_) #[true, false, false, true, true, true, true, false, false, false] rfl rfl (any_of HT_.out (by kernel_rfl)) (fun _ _ _ h => h) (Or.inl ⟨by rfl, ?_⟩) ?_ ?_
                              rotate_left
                              · intro w'
                                go_simp
                                with_reducible rfl
                              rotate_left
                              · simp only [u64_ones_, Act.put, List.setIfInBounds_toArray, List.set_cons_zero, List.set_cons_succ, i64_w, i32_w]
                                rfl
                              refine take_ (i := 7) (N := some 51) (v := ?_) (a' := ?_) #[true, false, false, true, true, true, true, true, false, false] rfl rfl (take_ofW HT_.out HW_.out (by kernel_rfl)) (fun _ _ _ h => h) (Or.inl ⟨by rfl, ?_⟩) hHeld ?_ ?_
                              rotate_left
                              · rintro w' ⟨s0, s1, s2, s3, s4, s5⟩
                                go_simp
                                with_reducible rfl
                              rotate_left
                              · simp only [u64_ones_, Act.put, List.setIfInBounds_toArray, List.set_cons_zero, List.set_cons_succ, i64_w, i32_w]
                                rfl
                              refine one_ (i := 1) (N := some 45) #[true, true, false, true, true, true, true, true, false, false] rfl rfl (one_of HT_.out (by kernel_rfl)) (by decide) (fun K hK => ?_)
                              refine value_ (w1 := ?_) (v := ?_) (by rfl) rfl ?_ ?_
                              rotate_left 2
                              · go_simp
                                constructor
                                · rfl
                                · rfl
                              refine hK.out _ _ ⟨(blk_cell (blk_alloc BK119.out _) 0).trans rfl, (blk_cell (blk_alloc BK119.out _) 1).trans rfl, (blk_cell (blk_alloc BK119.out _) 2).trans rfl, (blk_cell (blk_alloc BK119.out _) 3).trans rfl, (blk_cell (blk_alloc BK119.out _) 4).trans rfl, (World.cell?_alloc_lt _ _ _ (World.block_lt_of_cell? _ _ ((Kd.foot_string (HR1_3.out _ (by repeat (first | exact HK.out | apply Kept.alloc | apply Kept.drewN | apply Kept.drew))) x36_2 (of_eq_true p137) (of_eq_true q137))))).trans ((Kd.foot_string (HR1_3.out _ (by repeat (first | exact HK.out | apply Kept.alloc | apply Kept.drewN | apply Kept.drew))) x36_2 (of_eq_true p137) (of_eq_true q137)))⟩ (fun hHeld => ?_)
                              clear hK K
                              refine norm_ (a' := ?_) ?_ ?_
                              rotate_left
                              · show Act.put _ (some 45) _ = _
                                simp only [u64_ones_, Act.put, List.setIfInBounds_toArray, List.set_cons_zero, List.set_cons_succ, i64_w, i32_w]
                                rfl
                              refine one_ (i := 2) (N := some 46) #[true, true, true, true, true, true, true, true, false, false] rfl rfl (one_of HT_.out (by kernel_rfl)) (by decide) (fun K hK => ?_)
                              refine Kd.R_append_step (Kd.int .u8) (w0 := w0) w0.heap.size (by rfl) (.tmp 44) (.tmp 45) 28 5 (.int .u8 0) 1 rfl Tryd.underlying28 info5 rfl (by decide) (by omega) u0 x0_2 1 [.int .u8 1] (fun k_ => (P0_ k_ ∨ w.heap.size ≤ k_)) (fun _ => False) rfl rfl ?aP (fun _ hk => hk.elim) ?aF ?aO ?aB ?aS ?aL ?_
                              (case aP => exact rfl)
                              (case aB => exact (by repeat (first | (with_reducible first | exact HB.out | apply below_alloc | apply pw_below_drewN | apply below_drew1 | refine below_set ?_ GE119.out | refine below_set ?_ GE133.out) | exact HB.out)))
                              (case aF => exact (fun k_ hk => (.inr (Nat.le_trans (by first | exact HK.out.1 | exact (show Kept w _ (fun k_ => P0_ k_) from by repeat (first | (with_reducible first | exact HK.out | apply Kept.alloc | apply Kept.drewN | apply Kept.drew | refine Kept.setCell ?_ (.inr GW119.out) _ | refine Kept.setCell ?_ (.inr GW133.out) _) | exact HK.out)).1) hk))))
                              (case aO => exact (by (with_reducible repeat (first | apply Kd.R_alloc | apply Kd.R_drewN | apply Kd.R_drew)); exact HO_0.out))
                              (case aS => exact (below_size (by repeat (first | (with_reducible first | exact HB.out | apply below_alloc | apply pw_below_drewN | apply below_drew1 | refine below_set ?_ GE119.out | refine below_set ?_ GE133.out) | exact HB.out))))
                              (case aL => have := LMc32.out; omega)
                              intro v135 w42 ho hb hg hat
                              rw [← Ny134.out] at ho
                              have n0_ := Aside0.mk (blk_grown (g := gb119) (o := .cells #[.int .i64 a1_0, .int .i64 a1_1, .string a1_2, .slice (some ad137) l1_3.length c1_3, .slice (some ad132) l1_4.length c1_4] 25 (0, 0)) (by (with_reducible repeat (first | refine blk_drewN ?_ _ | refine blk_drew ?_ | refine blk_alloc ?_ _)); exact BK119.out) hg (Kd.R_ne HO_0.out BK119.out (by decide)))
                              have n1_ := Aside0.mk (blk_grown (g := gb133) (o := .cells #[.int .i64 ((rd_T25 l1_4 x36_2).f0), .int .i64 ((rd_T25 l1_4 x36_2).f1), .string ((rd_T25 l1_4 x36_2).f2), .slice A132_3 ((rd_T25 l1_4 x36_2).f3).length c132_3, .slice A132_4 ((rd_T25 l1_4 x36_2).f4).length c132_4] 25 (0, 0)) (by (with_reducible repeat (first | refine blk_drewN ?_ _ | refine blk_drew ?_ | refine blk_alloc ?_ _)); exact BK133.out) hg (Kd.R_ne HO_0.out BK133.out (by decide)))
                              have n2_ := Aside0.mk (hb)
                              have n3_ := Aside0.mk (Kept.of_grown (S := (fun k_ => P0_ k_)) hg (by repeat (first | (with_reducible first | exact HK.out | apply Kept.alloc | apply Kept.drewN | apply Kept.drew | refine Kept.setCell ?_ (.inr GW119.out) _ | refine Kept.setCell ?_ (.inr GW133.out) _) | exact HK.out)) (fun k_ e_ => (HO_0.out.1 k_ e_)))
                              have n4_ := Aside0.mk (ho)
                              clear BK119
                              clear BK133
                              clear HB
                              clear HK
                              clear HO_0
                              have BK119 := n0_
                              have BK133 := n1_
                              have HB := n2_
                              have HK := n3_
                              have HO136 := n4_
                              clear n0_ n1_ n2_ n3_ n4_
                              clear ho hb hg hat
                              obtain ⟨Ao43, co43, eo43⟩ := Kd.R_slice HO136.out
                              (first | subst eo43 | (injection eo43 with f1_ f2_ f3_; have f4_ := f1_.symm; have f5_ := f3_.symm; clear f1_ f2_ f3_; subst f4_; subst f5_))
                              refine hK.out _ _ ⟨(blk_cell BK119.out 0).trans rfl, (blk_cell BK119.out 1).trans rfl, (blk_cell BK119.out 2).trans rfl, (blk_cell BK119.out 3).trans rfl, (blk_cell BK119.out 4).trans rfl, (Kd.foot_string (HR1_3.out _ (by repeat (first | exact HK.out | apply Kept.alloc | apply Kept.drewN | apply Kept.drew))) x36_2 (of_eq_true p137) (of_eq_true q137))⟩ (fun hHeld => ?_)
                              clear hK K
                              refine norm_ (a' := ?_) ?_ ?_
                              rotate_left
                              · show Act.put _ (some 46) _ = _
                                simp only [u64_ones_, Act.put, List.setIfInBounds_toArray, List.set_cons_zero, List.set_cons_succ, i64_w, i32_w]
                                rfl
                              refine one_ (i := 8) (N := some 52) #[true, true, true, true, true, true, true, true, true, false] rfl rfl (one_of HT_.out (by kernel_rfl)) (by decide) (fun K hK => ?_)
                              refine goes_ Tryd.func35 (by kernel_rfl) rfl #[.slice Ao43 y134.length co43, .string (rdOf ByteArray.empty l1_3 x36_2)] (by rfl) rfl rfl (by (try simp only [List.map_toArray, List.map_cons, List.map_nil]); first | done | rfl | (simp only [List.length_drop, List.length_take]; rfl)) ?_
                              with_reducible refine (keys_text.calls k2 (fun k_ => some k_ = (.slice Ao43 y134.length co43 : Value).ownBlock) (.slice Ao43 y134.length co43) y134 (rdOf ByteArray.empty l1_3 x36_2) t138 w0 _ ?side1 ?side2 A34.out).mono ?_
                              (case side1 => repeat (first | (with_reducible first | exact HB.out | apply below_alloc | apply pw_below_drewN | apply below_drew1 | refine below_set ?_ GE119.out | refine below_set ?_ GE133.out) | exact HB.out))
                              (case side2 => exact Kd.R_tight rfl HO136.out)
                              rintro e w44 ⟨v139, rfl, ho0, hb, hkp⟩
                              refine ⟨_, rfl, ?_⟩
                              have n0_ := Aside0.mk (blk_kept (by (with_reducible repeat (first | refine blk_drewN ?_ _ | refine blk_drew ?_ | refine blk_alloc ?_ _)); exact BK119.out) hkp (fun hs_ => (fun e_ => (Kd.R_ne HO136.out BK119.out (by decide)) e_) hs_))
                              have n1_ := Aside0.mk (blk_kept (by (with_reducible repeat (first | refine blk_drewN ?_ _ | refine blk_drew ?_ | refine blk_alloc ?_ _)); exact BK133.out) hkp (fun hs_ => (fun e_ => (Kd.R_ne HO136.out BK133.out (by decide)) e_) hs_))
                              have n2_ := Aside0.mk (Kd.R_mono (ok' := fun k_ => (P0_ k_ ∨ w.heap.size ≤ k_)) ho0 (fun k_ hk_ => Or.elim hk_ (fun hs_ => (HO136.out.1 k_ (hs_).symm)) (fun hn_ => (.inr (Nat.le_trans (by first | exact HK.out.1 | exact (show Kept w _ (fun k_ => P0_ k_) from by repeat (first | (with_reducible first | exact HK.out | apply Kept.alloc | apply Kept.drewN | apply Kept.drew | refine Kept.setCell ?_ (.inr GW119.out) _ | refine Kept.setCell ?_ (.inr GW133.out) _) | exact HK.out)).1) hn_)))))
                              have n3_ := Aside0.mk (Kept.then_ (S := (fun k_ => P0_ k_)) (by repeat (first | (with_reducible first | exact HK.out | apply Kept.alloc | apply Kept.drewN | apply Kept.drew | refine Kept.setCell ?_ (.inr GW119.out) _ | refine Kept.setCell ?_ (.inr GW133.out) _) | exact HK.out)) hkp (fun k_ hs_ => (fun e_ => (HO136.out.1 k_ e_.symm)) hs_))
                              have n4_ := Aside0.mk (hb)
                              clear BK119
                              clear BK133
                              clear HK
                              clear HB
                              clear HO136
                              have BK119 := n0_
                              have BK133 := n1_
                              have HO140 := n2_
                              have HK := n3_
                              have HB := n4_
                              clear n0_ n1_ n2_ n3_ n4_
                              (try clear hb)
                              (try clear hkp)
                              (try clear ho0)
                              refine hK.out _ _ ⟨(blk_cell BK119.out 0).trans rfl, (blk_cell BK119.out 1).trans rfl, (blk_cell BK119.out 2).trans rfl, (blk_cell BK119.out 3).trans rfl, (blk_cell BK119.out 4).trans rfl, (Kd.foot_string (HR1_3.out _ (by repeat (first | exact HK.out | apply Kept.alloc | apply Kept.drewN | apply Kept.drew))) x36_2 (of_eq_true p137) (of_eq_true q137))⟩ (fun hHeld => ?_)
                              clear hK K
                              refine norm_ (a' := ?_) ?_ ?_
                              rotate_left
                              · show Act.put _ (some 52) _ = _
                                simp only [u64_ones_, Act.put, List.setIfInBounds_toArray, List.set_cons_zero, List.set_cons_succ, i64_w, i32_w]
                                rfl
                              refine pure_ (i := 9) (N := some 0) (v := ?_) (a' := ?_) #[true, true, true, true, true, true, true, true, true, true] rfl rfl (any_of HT_.out (by kernel_rfl)) (fun _ _ _ h => h) (Or.inl ⟨by rfl, ?_⟩) ?_ ?_
                              rotate_left
                              · intro w'
                                go_simp
                                with_reducible rfl
                              rotate_left
                              · simp only [u64_ones_, Act.put, List.setIfInBounds_toArray, List.set_cons_zero, List.set_cons_succ, i64_w, i32_w]
                                rfl
                              refine done_ (done_of HT_.out (by kernel_rfl)) ?_
                              have hcz45_0 : w44.cell? ⟨gb133, 0, none⟩ = some (.int .i64 ((rd_T25 l1_4 x36_2).f0)) := (blk_cell BK133.out 0).trans rfl
                              have hcz45_1 : w44.cell? ⟨gb133, 1, none⟩ = some (.int .i64 ((rd_T25 l1_4 x36_2).f1)) := (blk_cell BK133.out 1).trans rfl
                              have hcz45_2 : w44.cell? ⟨gb133, 2, none⟩ = some (.string ((rd_T25 l1_4 x36_2).f2)) := (blk_cell BK133.out 2).trans rfl
                              have hcz45_3 : w44.cell? ⟨gb133, 3, none⟩ = some (.slice A132_3 ((rd_T25 l1_4 x36_2).f3).length c132_3) := (blk_cell BK133.out 3).trans rfl
                              have hcz45_4 : w44.cell? ⟨gb133, 4, none⟩ = some (.slice A132_4 ((rd_T25 l1_4 x36_2).f4).length c132_4) := (blk_cell BK133.out 4).trans rfl
                              have hfz45_0 := blk_frozen BK133.out 0
                              have hfz45_1 := blk_frozen BK133.out 1
                              have hfz45_2 := blk_frozen BK133.out 2
                              have hfz45_3 := blk_frozen BK133.out 3
                              have hfz45_4 := blk_frozen BK133.out 4
                              obtain ⟨Ao46, co46, eo46⟩ := Kd.R_slice HO140.out
                              subst eo46
                              try go_wp2_with (first | ((with_reducible refine gate_callee (f := 24) rfl ?_); refine goesL_ (some 55) rfl rfl Tryd.func24 (by kernel_rfl) rfl #[.slice Ao46 t138.length co46, .agg #[.int .i64 ((rd_T25 l1_4 x36_2).f0), .int .i64 ((rd_T25 l1_4 x36_2).f1), .string ((rd_T25 l1_4 x36_2).f2), .slice A132_3 ((rd_T25 l1_4 x36_2).f3).length c132_3, .slice A132_4 ((rd_T25 l1_4 x36_2).f4).length c132_4]] rfl (by (try simp only [List.map_toArray, List.map_cons, List.map_nil]); first | done | rfl | (simp only [List.length_drop, List.length_take]; rfl)) ?_; (with_reducible refine (ih k2 (by have := HJ19.out; have := HK2.out; omega) (fun k_ => some k_ = (.slice Ao46 t138.length co46 : Value).ownBlock) (.slice Ao46 t138.length co46) t138 ((rd_T25 l1_4 x36_2).f0) ((rd_T25 l1_4 x36_2).f1) ((rd_T25 l1_4 x36_2).f2) _ _ ((rd_T25 l1_4 x36_2).f3) _ _ ((rd_T25 l1_4 x36_2).f4) t141 w0 _ ?side1 ?side2 ?side3 ?side4 ?side5 ?side6 A35.out).mono ?_); (case side1 => repeat (first | (with_reducible first | exact HB.out | apply below_alloc | apply pw_below_drewN | apply below_drew1 | refine below_set ?_ GE119.out | refine below_set ?_ GE133.out) | exact HB.out)); (case side2 => exact Kd.R_tight rfl HO140.out); (case side3 => exact Kd.C_kept_call HR132_3.out (by repeat (first | (with_reducible first | exact HK.out | apply Kept.alloc | apply Kept.drewN | apply Kept.drew | refine Kept.setCell ?_ (.inr GW119.out) _ | refine Kept.setCell ?_ (.inr GW133.out) _) | exact HK.out)) (fun k_ hs_ => (fun e_ => (HO140.out.1 k_ e_.symm)) hs_)); (case side4 => exact HC132_3.out); (case side5 => exact Kd.C_kept_call HR132_4.out (by repeat (first | (with_reducible first | exact HK.out | apply Kept.alloc | apply Kept.drewN | apply Kept.drew | refine Kept.setCell ?_ (.inr GW119.out) _ | refine Kept.setCell ?_ (.inr GW133.out) _) | exact HK.out)) (fun k_ hs_ => (fun e_ => (HO140.out.1 k_ e_.symm)) hs_)); (case side6 => exact HC132_4.out); rintro e w47 ⟨v142, rfl, ho0, hb, hkp⟩; refine ⟨_, rfl, ?_⟩; have n0_ := Aside0.mk (blk_kept (by (with_reducible repeat (first | refine blk_drewN ?_ _ | refine blk_drew ?_ | refine blk_alloc ?_ _)); exact BK119.out) hkp (fun hs_ => (fun e_ => (Kd.R_ne HO140.out BK119.out (by decide)) e_) hs_)); have n1_ := Aside0.mk (blk_kept (by (with_reducible repeat (first | refine blk_drewN ?_ _ | refine blk_drew ?_ | refine blk_alloc ?_ _)); exact BK133.out) hkp (fun hs_ => (fun e_ => (Kd.R_ne HO140.out BK133.out (by decide)) e_) hs_)); have n2_ := Aside0.mk (Kd.R_mono (ok' := fun k_ => (P0_ k_ ∨ w.heap.size ≤ k_)) ho0 (fun k_ hk_ => Or.elim hk_ (fun hs_ => (HO140.out.1 k_ (hs_).symm)) (fun hn_ => (.inr (Nat.le_trans (by first | exact HK.out.1 | exact (show Kept w _ (fun k_ => P0_ k_) from by repeat (first | (with_reducible first | exact HK.out | apply Kept.alloc | apply Kept.drewN | apply Kept.drew | refine Kept.setCell ?_ (.inr GW119.out) _ | refine Kept.setCell ?_ (.inr GW133.out) _) | exact HK.out)).1) hn_))))); have n3_ := Aside0.mk (Kept.then_ (S := (fun k_ => P0_ k_)) (by repeat (first | (with_reducible first | exact HK.out | apply Kept.alloc | apply Kept.drewN | apply Kept.drew | refine Kept.setCell ?_ (.inr GW119.out) _ | refine Kept.setCell ?_ (.inr GW133.out) _) | exact HK.out)) hkp (fun k_ hs_ => (fun e_ => (HO140.out.1 k_ e_.symm)) hs_)); have n4_ := Aside0.mk (hb); clear BK119; clear BK133; clear HK; clear HB; clear HO140; have BK119 := n0_; have BK133 := n1_; have HO143 := n2_; have HK := n3_; have HB := n4_; clear n0_ n1_ n2_ n3_ n4_; (try clear hb); (try clear hkp); (try clear ho0)))
                              go_roundg k2
                              case measure => have := HJ19.out; have := HK2.out; omega
                              case rel => exact ⟨(t141), (wrap64 (x36_2 + 1)), (by first | rfl | (simp; done) | (simp [*]; done)), H', ⟨by have := HJ19.out; have := HK2.out; omega⟩, ⟨by (with_reducible repeat (first | apply Kd.R_alloc | apply Kd.R_drewN | apply Kd.R_drew)); exact HO143.out⟩, ⟨by (with_reducible repeat (first | refine blk_drewN ?_ _ | refine blk_drew ?_ | refine blk_alloc ?_ _)); exact BK119.out⟩, ⟨by repeat (first | (with_reducible first | exact HK.out | apply Kept.alloc | apply Kept.drewN | apply Kept.drew | refine Kept.setCell ?_ (.inr GW119.out) _ | refine Kept.setCell ?_ (.inr GW133.out) _) | exact HK.out)⟩, ⟨by repeat (first | (with_reducible first | exact HB.out | apply below_alloc | apply pw_below_drewN | apply below_drew1 | refine below_set ?_ GE119.out | refine below_set ?_ GE133.out) | exact HB.out)⟩⟩
                            · rw [if_neg c33] at H
                              exact absurd H (by simp)
                          · rw [if_neg c32] at H
                            exact absurd H (by simp)
                        · rw [if_neg c31] at H
                          have c31b0 : (a1_0 == 6) = false := beq_eq_false_iff_ne.mpr c31
                          have c31b1 : (a1_0 != 6) = true := bne_iff_ne.mpr c31
                          replace H := Option.bind_eq_some_iff.mp H
                          obtain ⟨t144, A480, H⟩ := H
                          replace H : (keys_put.l0 k2 t144 l1_4 (l1_4.length : Int) (wrap64 (x36_2 + 1)) a1_0 a1_1 a1_2 l1_3 l1_4) = some r := H
                          have A48 := Aside0.mk A480
                          clear A480
                          have H' := Aside0.mk H
                          clear H
                          have p132 : 0 ≤ (x36_2 : Int) := of_decide_eq_true (by first | (with_reducible assumption) | assumption)
                          have q132 : x36_2 < (l1_4.length : Int) := of_decide_eq_true (by first | (with_reducible assumption) | assumption)
                          obtain ⟨ad132, A132_3, c132_3, A132_4, c132_4, e132, hx132_0, hx132_1, hx132_2, hx132_3, hx132_4, hl132_3, hi132_3, hl132_4, hi132_4⟩ := at_T25 (Kd.C_kept_now HR1_4.out HK.out) x36_2 p132 q132
                          have hf132_3 := Kd.foot_leaf HR1_4.out HK.out z25 x36_2 p132 q132 (by decide) e132 3 (by decide) (v := .slice A132_3 ((rd_T25 l1_4 x36_2).f3).length c132_3) (by first | exact hx132_3 | (rw [show (k25).sz = 5 from rfl]; first | exact hx132_3 | (rw [add_field _ _ 3 (by omega)]; exact hx132_3))) (P := fun W_ => Kd.C Kd.string W_ A132_3 ((rd_T25 l1_4 x36_2).f3).length ((rd_T25 l1_4 x36_2).f3)) (fun W_ c_ _ hK_ hc_ => by obtain ⟨A3_, c3_, A4_, c4_, rfl, l3_, g3_, l4_, g4_⟩ := k25_open hK_; injection (Option.some.inj hc_) with ha_ _ _; rw [← ha_]; exact g3_)
                          have hf132_4 := Kd.foot_leaf HR1_4.out HK.out z25 x36_2 p132 q132 (by decide) e132 4 (by decide) (v := .slice A132_4 ((rd_T25 l1_4 x36_2).f4).length c132_4) (by first | exact hx132_4 | (rw [show (k25).sz = 5 from rfl]; first | exact hx132_4 | (rw [add_field _ _ 4 (by omega)]; exact hx132_4))) (P := fun W_ => Kd.C k25 W_ A132_4 ((rd_T25 l1_4 x36_2).f4).length ((rd_T25 l1_4 x36_2).f4)) (fun W_ c_ _ hK_ hc_ => by obtain ⟨A3_, c3_, A4_, c4_, rfl, l3_, g3_, l4_, g4_⟩ := k25_open hK_; injection (Option.some.inj hc_) with ha_ _ _; rw [← ha_]; exact g4_)
                          cases e132
                          have HR132_3 := Aside0.mk hf132_3
                          have HC132_3 := Aside0.mk hl132_3
                          clear hi132_3 hl132_3
                          clear hf132_3
                          have HR132_4 := Aside0.mk hf132_4
                          have HC132_4 := Aside0.mk hl132_4
                          clear hi132_4 hl132_4
                          clear hf132_4
                          replace p132 := eq_true p132
                          replace q132 := eq_true q132
                          go_wp2_with (first | ((with_reducible refine gate_dst (N := 6) rfl ?_); refine box_event ?hg (N := 6) ?hd (cs := #[.int .i64 0, .int .i64 0, .string (⟨#[]⟩ : ByteArray), .slice none 0 0, .slice none 0 0]) (t := 25) ?hr ?_; (case hd => rfl); (case hg => rfl); (case hr => first | (go_simp; done) | (go_simp; rfl)); intro gb133 hg w49 hbox hb; have n0_ := Aside0.mk (Kd.R_below (by (with_reducible repeat (first | apply Kd.R_alloc | apply Kd.R_drewN | apply Kd.R_drew)); exact HO_0.out) hb); have n1_ := Aside0.mk (blk_below (g := gb119) (o := .cells #[.int .i64 a1_0, .int .i64 a1_1, .string a1_2, .slice A1_3 l1_3.length c1_3, .slice (some ad132) l1_4.length c1_4] 25 (0, 0)) (by (with_reducible repeat (first | refine blk_drewN ?_ _ | refine blk_drew ?_ | refine blk_alloc ?_ _)); exact BK119.out) hb); have n2_ := Aside0.mk (Kept.below (S := (fun k_ => P0_ k_)) (by repeat (first | (with_reducible first | exact HK.out | apply Kept.alloc | apply Kept.drewN | apply Kept.drew | refine Kept.setCell ?_ (.inr GW119.out) _) | exact HK.out)) hb); have n3_ := Aside0.mk (below_step (by repeat (first | (with_reducible first | exact HB.out | apply below_alloc | apply pw_below_drewN | apply below_drew1 | refine below_set ?_ GE119.out) | exact HB.out)) hb); have n4_ := Aside0.mk (hbox); have n5_ := Aside0.mk ((by rw [hg]; exact (by first | exact HK.out.1 | exact (show Kept w _ (fun k_ => P0_ k_) from by repeat (first | (with_reducible first | exact HK.out | apply Kept.alloc | apply Kept.drewN | apply Kept.drew | refine Kept.setCell ?_ (.inr GW119.out) _) | exact HK.out)).1) : w.heap.size ≤ gb133)); have n6_ := Aside0.mk ((by rw [hg]; exact (below_size (by repeat (first | (with_reducible first | exact HB.out | apply below_alloc | apply pw_below_drewN | apply below_drew1 | refine below_set ?_ GE119.out) | exact HB.out))) : w0.heap.size ≤ gb133)); have n7_ := Aside0.mk ((by rw [hg]; exact Nat.ne_of_lt (blk_lt (g := gb119) (o := .cells #[.int .i64 a1_0, .int .i64 a1_1, .string a1_2, .slice A1_3 l1_3.length c1_3, .slice (some ad132) l1_4.length c1_4] 25 (0, 0)) (by (with_reducible repeat (first | refine blk_drewN ?_ _ | refine blk_drew ?_ | refine blk_alloc ?_ _)); exact BK119.out)) : gb119 ≠ gb133)); have n8_ := Aside0.mk ((by rw [hg]; exact Nat.ne_of_gt (blk_lt (g := gb119) (o := .cells #[.int .i64 a1_0, .int .i64 a1_1, .string a1_2, .slice A1_3 l1_3.length c1_3, .slice (some ad132) l1_4.length c1_4] 25 (0, 0)) (by (with_reducible repeat (first | refine blk_drewN ?_ _ | refine blk_drew ?_ | refine blk_alloc ?_ _)); exact BK119.out)) : gb133 ≠ gb119)); clear HO_0; clear BK119; clear HK; clear HB; have HO_0 := n0_; have BK119 := n1_; have HK := n2_; have HB := n3_; have BK133 := n4_; have GW133 := n5_; have GE133 := n6_; have NB119_133 := n7_; have NB133_119 := n8_; clear n0_ n1_ n2_ n3_ n4_ n5_ n6_ n7_ n8_; clear hb hbox hg; have hnb50 := NB133_119.out; have hnc50 := NB119_133.out; have hcz51_0 : w49.cell? ⟨gb133, 0, none⟩ = some (.int .i64 0) := (blk_cell BK133.out 0).trans rfl; have hcz51_1 : w49.cell? ⟨gb133, 1, none⟩ = some (.int .i64 0) := (blk_cell BK133.out 1).trans rfl; have hcz51_2 : w49.cell? ⟨gb133, 2, none⟩ = some (.string (⟨#[]⟩ : ByteArray)) := (blk_cell BK133.out 2).trans rfl; have hcz51_3 : w49.cell? ⟨gb133, 3, none⟩ = some (.slice none 0 0) := (blk_cell BK133.out 3).trans rfl; have hcz51_4 : w49.cell? ⟨gb133, 4, none⟩ = some (.slice none 0 0) := (blk_cell BK133.out 4).trans rfl; have hfz51_0 := blk_frozen BK133.out 0; have hfz51_1 := blk_frozen BK133.out 1; have hfz51_2 := blk_frozen BK133.out 2; have hfz51_3 := blk_frozen BK133.out 3; have hfz51_4 := blk_frozen BK133.out 4) | ((with_reducible refine gate_store (t := 25) (p := 6) rfl ?_); refine store_event (t := 25) (p := 6) (v := ?vo_w52) (w1 := (((((w49.setCell ⟨gb133, 0, none⟩ (.int .i64 ((rd_T25 l1_4 x36_2).f0))).setCell ⟨gb133, 1, none⟩ (.int .i64 ((rd_T25 l1_4 x36_2).f1))).setCell ⟨gb133, 2, none⟩ (.string ((rd_T25 l1_4 x36_2).f2))).setCell ⟨gb133, 3, none⟩ (.slice A132_3 ((rd_T25 l1_4 x36_2).f3).length c132_3)).setCell ⟨gb133, 4, none⟩ (.slice A132_4 ((rd_T25 l1_4 x36_2).f4).length c132_4))) ?hg ?ho ?hn ?hr ?_; (case ho => rfl); (case hg => rfl); (case hn => rfl); (case hr => first | (go_simp; done) | (go_simp; rfl)); intro w52 hw; have n0_ : Aside0 (Kd.R (Kd.int .u8) 5 w52 w0.heap.size (fun k_ => (P0_ k_ ∨ w.heap.size ≤ k_)) u0 x0_2) := ⟨(by rw [hw]; exact (by (with_reducible repeat (first | apply Kd.R_alloc | apply Kd.R_drewN | apply Kd.R_drew)); exact Kd.R_mono (Kd.R_far (p := ⟨gb133, 4, none⟩) (Kd.R_far (p := ⟨gb133, 3, none⟩) (Kd.R_far (p := ⟨gb133, 2, none⟩) (Kd.R_far (p := ⟨gb133, 1, none⟩) (Kd.R_far (p := ⟨gb133, 0, none⟩) (Kd.R_types HO_0.out BK133.out (by decide)) (fun _ hk => hk.2) (.int .i64 ((rd_T25 l1_4 x36_2).f0))) (fun _ hk => hk.2) (.int .i64 ((rd_T25 l1_4 x36_2).f1))) (fun _ hk => hk.2) (.string ((rd_T25 l1_4 x36_2).f2))) (fun _ hk => hk.2) (.slice A132_3 ((rd_T25 l1_4 x36_2).f3).length c132_3)) (fun _ hk => hk.2) (.slice A132_4 ((rd_T25 l1_4 x36_2).f4).length c132_4)) (fun _ hk => hk.1)))⟩; have n1_ : Aside0 (w52.heap[gb119]? = some (.cells #[.int .i64 a1_0, .int .i64 a1_1, .string a1_2, .slice A1_3 l1_3.length c1_3, .slice (some ad132) l1_4.length c1_4] 25 (0, 0))) := ⟨(by rw [hw]; exact (by (with_reducible repeat (first | refine blk_drewN ?_ _ | refine blk_drew ?_ | refine blk_alloc ?_ _)); refine blk_far ?_ NB119_133.out _; (with_reducible repeat (first | refine blk_drewN ?_ _ | refine blk_drew ?_ | refine blk_alloc ?_ _)); refine blk_far ?_ NB119_133.out _; (with_reducible repeat (first | refine blk_drewN ?_ _ | refine blk_drew ?_ | refine blk_alloc ?_ _)); refine blk_far ?_ NB119_133.out _; (with_reducible repeat (first | refine blk_drewN ?_ _ | refine blk_drew ?_ | refine blk_alloc ?_ _)); refine blk_far ?_ NB119_133.out _; (with_reducible repeat (first | refine blk_drewN ?_ _ | refine blk_drew ?_ | refine blk_alloc ?_ _)); refine blk_far ?_ NB119_133.out _; (with_reducible repeat (first | refine blk_drewN ?_ _ | refine blk_drew ?_ | refine blk_alloc ?_ _)); exact BK119.out))⟩; have n2_ : Aside0 (w52.heap[gb133]? = some (.cells #[.int .i64 ((rd_T25 l1_4 x36_2).f0), .int .i64 ((rd_T25 l1_4 x36_2).f1), .string ((rd_T25 l1_4 x36_2).f2), .slice A132_3 ((rd_T25 l1_4 x36_2).f3).length c132_3, .slice A132_4 ((rd_T25 l1_4 x36_2).f4).length c132_4] 25 (0, 0))) := ⟨(by rw [hw]; exact (by (with_reducible repeat (first | refine blk_drewN ?_ _ | refine blk_drew ?_ | refine blk_alloc ?_ _)); refine blk_put (cs := #[.int .i64 ((rd_T25 l1_4 x36_2).f0), .int .i64 ((rd_T25 l1_4 x36_2).f1), .string ((rd_T25 l1_4 x36_2).f2), .slice A132_3 ((rd_T25 l1_4 x36_2).f3).length c132_3, .slice none 0 0]) ?_ 4 _ rfl; (with_reducible repeat (first | refine blk_drewN ?_ _ | refine blk_drew ?_ | refine blk_alloc ?_ _)); refine blk_put (cs := #[.int .i64 ((rd_T25 l1_4 x36_2).f0), .int .i64 ((rd_T25 l1_4 x36_2).f1), .string ((rd_T25 l1_4 x36_2).f2), .slice none 0 0, .slice none 0 0]) ?_ 3 _ rfl; (with_reducible repeat (first | refine blk_drewN ?_ _ | refine blk_drew ?_ | refine blk_alloc ?_ _)); refine blk_put (cs := #[.int .i64 ((rd_T25 l1_4 x36_2).f0), .int .i64 ((rd_T25 l1_4 x36_2).f1), .string (⟨#[]⟩ : ByteArray), .slice none 0 0, .slice none 0 0]) ?_ 2 _ rfl; (with_reducible repeat (first | refine blk_drewN ?_ _ | refine blk_drew ?_ | refine blk_alloc ?_ _)); refine blk_put (cs := #[.int .i64 ((rd_T25 l1_4 x36_2).f0), .int .i64 0, .string (⟨#[]⟩ : ByteArray), .slice none 0 0, .slice none 0 0]) ?_ 1 _ rfl; (with_reducible repeat (first | refine blk_drewN ?_ _ | refine blk_drew ?_ | refine blk_alloc ?_ _)); refine blk_put (cs := #[.int .i64 0, .int .i64 0, .string (⟨#[]⟩ : ByteArray), .slice none 0 0, .slice none 0 0]) ?_ 0 _ rfl; (with_reducible repeat (first | refine blk_drewN ?_ _ | refine blk_drew ?_ | refine blk_alloc ?_ _)); exact BK133.out))⟩; have n3_ : Aside0 (Kept w w52 (fun k_ => P0_ k_)) := ⟨(by rw [hw]; exact (by repeat (first | (with_reducible first | exact HK.out | apply Kept.alloc | apply Kept.drewN | apply Kept.drew | refine Kept.setCell ?_ (.inr GW119.out) _ | refine Kept.setCell ?_ (.inr GW133.out) _) | exact HK.out)))⟩; have n4_ : Aside0 (Below w0.heap.size w0 w52) := ⟨(by rw [hw]; exact (by repeat (first | (with_reducible first | exact HB.out | apply below_alloc | apply pw_below_drewN | apply below_drew1 | refine below_set ?_ GE119.out | refine below_set ?_ GE133.out) | exact HB.out)))⟩; clear hw; clear HO_0; clear BK119; clear BK133; clear HK; clear HB; have HO_0 := n0_; have BK119 := n1_; have BK133 := n2_; have HK := n3_; have HB := n4_; clear n0_ n1_ n2_ n3_ n4_; have hcz53_0 : w52.cell? ⟨gb119, 0, none⟩ = some (.int .i64 a1_0) := (blk_cell BK119.out 0).trans rfl; have hcz53_1 : w52.cell? ⟨gb119, 1, none⟩ = some (.int .i64 a1_1) := (blk_cell BK119.out 1).trans rfl; have hcz53_2 : w52.cell? ⟨gb119, 2, none⟩ = some (.string a1_2) := (blk_cell BK119.out 2).trans rfl; have hcz53_3 : w52.cell? ⟨gb119, 3, none⟩ = some (.slice A1_3 l1_3.length c1_3) := (blk_cell BK119.out 3).trans rfl; have hcz53_4 : w52.cell? ⟨gb119, 4, none⟩ = some (.slice (some ad132) l1_4.length c1_4) := (blk_cell BK119.out 4).trans rfl; have hfz53_0 := blk_frozen BK119.out 0; have hfz53_1 := blk_frozen BK119.out 1; have hfz53_2 := blk_frozen BK119.out 2; have hfz53_3 := blk_frozen BK119.out 3; have hfz53_4 := blk_frozen BK119.out 4; have hcz54_0 : w52.cell? ⟨gb133, 0, none⟩ = some (.int .i64 ((rd_T25 l1_4 x36_2).f0)) := (blk_cell BK133.out 0).trans rfl; have hcz54_1 : w52.cell? ⟨gb133, 1, none⟩ = some (.int .i64 ((rd_T25 l1_4 x36_2).f1)) := (blk_cell BK133.out 1).trans rfl; have hcz54_2 : w52.cell? ⟨gb133, 2, none⟩ = some (.string ((rd_T25 l1_4 x36_2).f2)) := (blk_cell BK133.out 2).trans rfl; have hcz54_3 : w52.cell? ⟨gb133, 3, none⟩ = some (.slice A132_3 ((rd_T25 l1_4 x36_2).f3).length c132_3) := (blk_cell BK133.out 3).trans rfl; have hcz54_4 : w52.cell? ⟨gb133, 4, none⟩ = some (.slice A132_4 ((rd_T25 l1_4 x36_2).f4).length c132_4) := (blk_cell BK133.out 4).trans rfl; have hfz54_0 := blk_frozen BK133.out 0; have hfz54_1 := blk_frozen BK133.out 1; have hfz54_2 := blk_frozen BK133.out 2; have hfz54_3 := blk_frozen BK133.out 3; have hfz54_4 := blk_frozen BK133.out 4; obtain ⟨Ao55, co55, eo55⟩ := Kd.R_slice HO_0.out; subst eo55) | ((with_reducible refine gate_callee (f := 24) rfl ?_); refine goesL_ (some 55) rfl rfl Tryd.func24 (by kernel_rfl) rfl #[.slice Ao55 x0_2.length co55, .agg #[.int .i64 ((rd_T25 l1_4 x36_2).f0), .int .i64 ((rd_T25 l1_4 x36_2).f1), .string ((rd_T25 l1_4 x36_2).f2), .slice A132_3 ((rd_T25 l1_4 x36_2).f3).length c132_3, .slice A132_4 ((rd_T25 l1_4 x36_2).f4).length c132_4]] rfl (by (try simp only [List.map_toArray, List.map_cons, List.map_nil]); first | done | rfl | (simp only [List.length_drop, List.length_take]; rfl)) ?_; (with_reducible refine (ih k2 (by have := HJ19.out; have := HK2.out; omega) (fun k_ => some k_ = (.slice Ao55 x0_2.length co55 : Value).ownBlock) (.slice Ao55 x0_2.length co55) x0_2 ((rd_T25 l1_4 x36_2).f0) ((rd_T25 l1_4 x36_2).f1) ((rd_T25 l1_4 x36_2).f2) _ _ ((rd_T25 l1_4 x36_2).f3) _ _ ((rd_T25 l1_4 x36_2).f4) t144 w0 _ ?side1 ?side2 ?side3 ?side4 ?side5 ?side6 A48.out).mono ?_); (case side1 => repeat (first | (with_reducible first | exact HB.out | apply below_alloc | apply pw_below_drewN | apply below_drew1 | refine below_set ?_ GE119.out | refine below_set ?_ GE133.out) | exact HB.out)); (case side2 => exact Kd.R_tight rfl HO_0.out); (case side3 => exact Kd.C_kept_call HR132_3.out (by repeat (first | (with_reducible first | exact HK.out | apply Kept.alloc | apply Kept.drewN | apply Kept.drew | refine Kept.setCell ?_ (.inr GW119.out) _ | refine Kept.setCell ?_ (.inr GW133.out) _) | exact HK.out)) (fun k_ hs_ => (fun e_ => (HO_0.out.1 k_ e_.symm)) hs_)); (case side4 => exact HC132_3.out); (case side5 => exact Kd.C_kept_call HR132_4.out (by repeat (first | (with_reducible first | exact HK.out | apply Kept.alloc | apply Kept.drewN | apply Kept.drew | refine Kept.setCell ?_ (.inr GW119.out) _ | refine Kept.setCell ?_ (.inr GW133.out) _) | exact HK.out)) (fun k_ hs_ => (fun e_ => (HO_0.out.1 k_ e_.symm)) hs_)); (case side6 => exact HC132_4.out); rintro e w56 ⟨v145, rfl, ho0, hb, hkp⟩; refine ⟨_, rfl, ?_⟩; have n0_ := Aside0.mk (blk_kept (by (with_reducible repeat (first | refine blk_drewN ?_ _ | refine blk_drew ?_ | refine blk_alloc ?_ _)); exact BK119.out) hkp (fun hs_ => (fun e_ => (Kd.R_ne HO_0.out BK119.out (by decide)) e_) hs_)); have n1_ := Aside0.mk (blk_kept (by (with_reducible repeat (first | refine blk_drewN ?_ _ | refine blk_drew ?_ | refine blk_alloc ?_ _)); exact BK133.out) hkp (fun hs_ => (fun e_ => (Kd.R_ne HO_0.out BK133.out (by decide)) e_) hs_)); have n2_ := Aside0.mk (Kd.R_mono (ok' := fun k_ => (P0_ k_ ∨ w.heap.size ≤ k_)) ho0 (fun k_ hk_ => Or.elim hk_ (fun hs_ => (HO_0.out.1 k_ (hs_).symm)) (fun hn_ => (.inr (Nat.le_trans (by first | exact HK.out.1 | exact (show Kept w _ (fun k_ => P0_ k_) from by repeat (first | (with_reducible first | exact HK.out | apply Kept.alloc | apply Kept.drewN | apply Kept.drew | refine Kept.setCell ?_ (.inr GW119.out) _ | refine Kept.setCell ?_ (.inr GW133.out) _) | exact HK.out)).1) hn_))))); have n3_ := Aside0.mk (Kept.then_ (S := (fun k_ => P0_ k_)) (by repeat (first | (with_reducible first | exact HK.out | apply Kept.alloc | apply Kept.drewN | apply Kept.drew | refine Kept.setCell ?_ (.inr GW119.out) _ | refine Kept.setCell ?_ (.inr GW133.out) _) | exact HK.out)) hkp (fun k_ hs_ => (fun e_ => (HO_0.out.1 k_ e_.symm)) hs_)); have n4_ := Aside0.mk (hb); clear BK119; clear BK133; clear HK; clear HB; clear HO_0; have BK119 := n0_; have BK133 := n1_; have HO146 := n2_; have HK := n3_; have HB := n4_; clear n0_ n1_ n2_ n3_ n4_; (try clear hb); (try clear hkp); (try clear ho0)))
                          go_roundg k2
                          case measure => have := HJ19.out; have := HK2.out; omega
                          case rel => exact ⟨(t144), (wrap64 (x36_2 + 1)), (by first | rfl | (simp; done) | (simp [*]; done)), H', ⟨by have := HJ19.out; have := HK2.out; omega⟩, ⟨by (with_reducible repeat (first | apply Kd.R_alloc | apply Kd.R_drewN | apply Kd.R_drew)); exact HO146.out⟩, ⟨by (with_reducible repeat (first | refine blk_drewN ?_ _ | refine blk_drew ?_ | refine blk_alloc ?_ _)); exact BK119.out⟩, ⟨by repeat (first | (with_reducible first | exact HK.out | apply Kept.alloc | apply Kept.drewN | apply Kept.drew | refine Kept.setCell ?_ (.inr GW119.out) _ | refine Kept.setCell ?_ (.inr GW133.out) _) | exact HK.out)⟩, ⟨by repeat (first | (with_reducible first | exact HB.out | apply below_alloc | apply pw_below_drewN | apply below_drew1 | refine below_set ?_ GE119.out | refine below_set ?_ GE133.out) | exact HB.out)⟩⟩
                      · rw [if_neg c30] at H
                        exact absurd H (by simp)
                    · rw [if_neg c29] at H
                      exact absurd H (by simp)
                  · rw [if_neg c28] at H
                    have c28b0 : decide (x36_2 < (l1_4.length : Int)) = false := decide_eq_false c28
                    clear c28
                    by_cases c57 : x0_2.length < 140737488355328
                    · rw [if_pos c57] at H
                      have LMc57 := Aside0.mk c57
                      clear c57
                      obtain ⟨y129, hy129⟩ : ∃ y_ : List Int, y_ = (x0_2 ++ [0]) := ⟨_, rfl⟩
                      replace H : (some y129) = some r := by first | (rw [hy129]; with_reducible exact H) | (have H2_ := (Option.bind_some _ _).symm.trans H; rw [hy129]; with_reducible exact H2_) | (have H2_ := (Option.bind_some _ _).symm.trans H; with_reducible exact H2_) | with_reducible exact H | (rw [hy129]; exact H) | exact H
                      have Ny129 := Aside0.mk hy129
                      clear hy129
                      obtain rfl := Option.some.inj H
                      go_wp2_with (first | ((with_reducible refine gate_builtin (b := .append) (xs := #[.tmp 57, .tmp 58]) rfl ?_); at_builtin; refine Kd.R_append (Kd.int .u8) (w0 := w0) w0.heap.size rfl (.tmp 57) (.tmp 58) 28 5 (.int .u8 0) 1 rfl Tryd.underlying28 info5 rfl (by decide) (by omega) u0 x0_2 0 [.int .u8 0] (fun k_ => (P0_ k_ ∨ w.heap.size ≤ k_)) (fun _ => False) rfl rfl ?aP (fun _ hk => hk.elim) ?aF ?aO ?aB ?aS ?aL ?_; (case aP => exact rfl); (case aB => exact (by repeat (first | (with_reducible first | exact HB.out | apply below_alloc | apply pw_below_drewN | apply below_drew1 | refine below_set ?_ GE119.out) | exact HB.out))); (case aF => exact (fun k_ hk => (.inr (Nat.le_trans (by first | exact HK.out.1 | exact (show Kept w _ (fun k_ => P0_ k_) from by repeat (first | (with_reducible first | exact HK.out | apply Kept.alloc | apply Kept.drewN | apply Kept.drew | refine Kept.setCell ?_ (.inr GW119.out) _) | exact HK.out)).1) hk)))); (case aO => exact (by (with_reducible repeat (first | apply Kd.R_alloc | apply Kd.R_drewN | apply Kd.R_drew)); exact HO_0.out)); (case aS => exact (below_size (by repeat (first | (with_reducible first | exact HB.out | apply below_alloc | apply pw_below_drewN | apply below_drew1 | refine below_set ?_ GE119.out) | exact HB.out)))); (case aL => have := LMc57.out; omega); intro v130 w58 ho hb hg hat; rw [← Ny129.out] at ho; have n0_ := Aside0.mk (blk_grown (g := gb119) (o := .cells #[.int .i64 a1_0, .int .i64 a1_1, .string a1_2, .slice A1_3 l1_3.length c1_3, .slice A1_4 l1_4.length c1_4] 25 (0, 0)) (by (with_reducible repeat (first | refine blk_drewN ?_ _ | refine blk_drew ?_ | refine blk_alloc ?_ _)); exact BK119.out) hg (Kd.R_ne HO_0.out BK119.out (by decide))); have n1_ := Aside0.mk (hb); have n2_ := Aside0.mk (Kept.of_grown (S := (fun k_ => P0_ k_)) hg (by repeat (first | (with_reducible first | exact HK.out | apply Kept.alloc | apply Kept.drewN | apply Kept.drew | refine Kept.setCell ?_ (.inr GW119.out) _) | exact HK.out)) (fun k_ e_ => (HO_0.out.1 k_ e_))); have n3_ := Aside0.mk (ho); clear BK119; clear HB; clear HK; clear HO_0; have BK119 := n0_; have HB := n1_; have HK := n2_; have HO131 := n3_; clear n0_ n1_ n2_ n3_; clear ho hb hg hat))
                      go_ret
                      exact ⟨_, by first | rfl | (simp [errW_none, errW_some] <;> rfl) | (simp [*, errW_none, errW_some] <;> rfl), by (with_reducible repeat (first | apply Kd.R_alloc | apply Kd.R_drewN | apply Kd.R_drew)); exact HO131.out, by repeat (first | (with_reducible first | exact HB.out | apply below_alloc | apply pw_below_drewN | apply below_drew1 | refine below_set ?_ GE119.out) | exact HB.out), by repeat (first | (with_reducible first | exact HK.out | apply Kept.alloc | apply Kept.drewN | apply Kept.drew | refine Kept.setCell ?_ (.inr GW119.out) _) | exact HK.out)⟩
                    · rw [if_neg c57] at H
                      exact absurd H (by simp)
            · replace c26 := Bool.eq_false_iff.mpr c26
              subst c26
              have H1 : (some y120) = some r := by rw [if_neg (show ¬ (false = true) by decide)] at H; exact H
              clear H
              have H := H1
              clear H1
              obtain rfl := Option.some.inj H
              go_wp2
              go_ret
              exact ⟨_, by first | rfl | (simp [errW_none, errW_some] <;> rfl) | (simp [*, errW_none, errW_some] <;> rfl), by (with_reducible repeat (first | apply Kd.R_alloc | apply Kd.R_drewN | apply Kd.R_drew)); exact HO_0.out, by repeat (first | (with_reducible first | exact HB.out | apply below_alloc | apply pw_below_drewN | apply below_drew1 | refine below_set ?_ GE119.out) | exact HB.out), by repeat (first | (with_reducible first | exact HK.out | apply Kept.alloc | apply Kept.drewN | apply Kept.drew | refine Kept.setCell ?_ (.inr GW119.out) _) | exact HK.out)⟩
  · rw [if_neg c3] at H
    exact absurd H (by simp)
end Go.Proofs.YtmphdmhpfghfkaaDoor.PK
