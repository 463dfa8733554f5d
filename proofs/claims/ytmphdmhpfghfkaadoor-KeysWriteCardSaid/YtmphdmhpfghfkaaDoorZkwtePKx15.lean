import Derived.Test.YtmphdmhpfghfkaaDoorZkwtePKx0
import Derived.Test.YtmphdmhpfghfkaaDoorZkwtePKx13
import Derived.Test.YtmphdmhpfghfkaaDoorZkwtePKx14
namespace Go.Proofs.YtmphdmhpfghfkaaDoor.PK
open Go.RowKit Go.Proofs.YtmphdmhpfghfkaaDoorW.PrintWords Go.Proofs.YtmphdmhpfghfkaaDoorW.PrintLast Go.Proofs.YtmphdmhpfghfkaaDoorW.PrintMore
attribute [local go_sem] max2_mx_ min2_mn_ max_two min_two max_three min_three max_four min_four   -- for this text's walks alone
set_option linter.unusedVariables false
set_option linter.unusedSimpArgs false
mutual
def munimentref04_Plain.l0 : Nat → List Int → Int → Int → Int → ByteArray → List ByteArray → List (S25) → Option (List Int)
  | 0, _, _, _, _, _, _, _ => none
  | k + 1, x3, x4, x208000, x208001, x208002, x208003, x208004 => if x4 < (x208004.length : Int) then (if 0 ≤ x4 then ((munimentref04_Plain.f k ((rd_T25 x208004 x4).f0) ((rd_T25 x208004 x4).f1) ((rd_T25 x208004 x4).f2) ((rd_T25 x208004 x4).f3) ((rd_T25 x208004 x4).f4)).bind fun t224 => (if x3.length + t224.length < 140737488355328 then (munimentref04_Plain.l0 k (x3 ++ t224) (wrap64 (x4 + 1)) x208000 x208001 x208002 x208003 x208004) else (none))) else (none)) else (if x3.length < 140737488355328 then (some (x3 ++ [0])) else (none))
def munimentref04_Plain.l1 : Nat → List Int → Int → Int → Int → ByteArray → List ByteArray → List (S25) → Option (List Int)
  | 0, _, _, _, _, _, _, _ => none
  | k + 1, x3, x5, x208000, x208001, x208002, x208003, x208004 => if x5 < (x208004.length : Int) then (if x3.length < 140737488355328 then ((some (x3 ++ [1] : List Int)).bind fun y233 => (if 0 ≤ x5 then (if x5 < (x208003.length : Int) then ((munimentref04_Text.f k (rdOf ByteArray.empty x208003 x5)).bind fun t237 => (if y233.length + t237.length < 140737488355328 then ((some (y233 ++ t237 : List Int)).bind fun y240 => ((munimentref04_Plain.f k ((rd_T25 x208004 x5).f0) ((rd_T25 x208004 x5).f1) ((rd_T25 x208004 x5).f2) ((rd_T25 x208004 x5).f3) ((rd_T25 x208004 x5).f4)).bind fun t244 => (if y240.length + t244.length < 140737488355328 then (munimentref04_Plain.l1 k (y240 ++ t244) (wrap64 (x5 + 1)) x208000 x208001 x208002 x208003 x208004) else (none)))) else (none))) else (none)) else (none))) else (none)) else (if x3.length < 140737488355328 then (some (x3 ++ [0])) else (none))
def munimentref04_Plain.f : Nat → Int → Int → ByteArray → List ByteArray → List (S25) → Option (List Int)
  | 0, _, _, _, _, _ => none
  | k + 1, a0_0, a0_1, a0_2, l0_3, l0_4 => (some (([(wrap64 (a0_0 + 1)) % 256] : List Int) : List Int)).bind fun y208 => (if a0_0 = 3 then ((munimentref04_Big.f k (IntKind.u64.wrap ((IntKind.u64.wrap (a0_1)) + 9223372036854775808))).bind fun t211 => (if y208.length + t211.length < 140737488355328 then (some (y208 ++ t211)) else (none))) else (if a0_0 = 4 then ((munimentref04_Text.f k a0_2).bind fun t217 => (if y208.length + t217.length < 140737488355328 then (some (y208 ++ t217)) else (none))) else (if a0_0 = 5 then (munimentref04_Plain.l0 k y208 0 a0_0 a0_1 a0_2 l0_3 l0_4) else (if a0_0 = 6 then (munimentref04_Plain.l1 k y208 0 a0_0 a0_1 a0_2 l0_3 l0_4) else (some y208)))))
end
set_option maxHeartbeats 8000000 in
set_option maxRecDepth 100000 in
theorem munimentref04_Plain.calls (k : Nat) : ∀ (a0_0 : Int) (a0_1 : Int) (a0_2 : ByteArray) (A0_3 : Option Addr) (c0_3 : Nat) (l0_3 : List ByteArray) (A0_4 : Option Addr) (c0_4 : Nat) (l0_4 : List (S25)) (r : List Int) (w : World) (hr0_3 : Kd.C Kd.string w A0_3 l0_3.length l0_3) (hc0_3 : l0_3.length ≤ c0_3) (hr0_4 : Kd.C k25 w A0_4 l0_4.length l0_4) (hc0_4 : l0_4.length ≤ c0_4) (h : munimentref04_Plain.f k a0_0 a0_1 a0_2 l0_3 l0_4 = some r),
    Calls Tryd.prog 26 #[.agg #[.int .i64 a0_0, .int .i64 a0_1, .string a0_2, .slice A0_3 l0_3.length c0_3, .slice A0_4 l0_4.length c0_4]] w fun e w' => ∃ v0_ : Value, e = .returned (v0_) ∧ Kd.R (Kd.int .u8) 5 w' w.heap.size (fun _ => True) v0_ r ∧ Below w.heap.size w w' := by
  induction k using Nat.strongRecOn with
  | _ k ih =>
  intro a0_0 a0_1 a0_2 A0_3 c0_3 l0_3 A0_4 c0_4 l0_4 r w hr0_3 hc0_3 hr0_4 hc0_4 h
  cases k with
  | zero => exact absurd h (by simp [munimentref04_Plain.f])
  | succ k =>
  simp only [munimentref04_Plain.f] at h
  have hu25 := Tryd.underlying25
  have HR0_3 := Aside0.mk hr0_3
  have HC0_3 := Aside0.mk hc0_3
  clear hr0_3 hc0_3
  have HR0_4 := Aside0.mk hr0_4
  have HC0_4 := Aside0.mk hc0_4
  clear hr0_4 hc0_4
  have HB := Aside0.mk (Below.refl w.heap.size w)
  have H : ((some (([(wrap64 (a0_0 + 1)) % 256] : List Int) : List Int)).bind fun y208 => (if a0_0 = 3 then ((munimentref04_Big.f k (IntKind.u64.wrap ((IntKind.u64.wrap (a0_1)) + 9223372036854775808))).bind fun t211 => (if y208.length + t211.length < 140737488355328 then (some (y208 ++ t211)) else (none))) else (if a0_0 = 4 then ((munimentref04_Text.f k a0_2).bind fun t217 => (if y208.length + t217.length < 140737488355328 then (some (y208 ++ t217)) else (none))) else (if a0_0 = 5 then (munimentref04_Plain.l0 k y208 0 a0_0 a0_1 a0_2 l0_3 l0_4) else (if a0_0 = 6 then (munimentref04_Plain.l1 k y208 0 a0_0 a0_1 a0_2 l0_3 l0_4) else (some y208)))))) = some r := h
  clear h
  obtain ⟨y208, hy208⟩ : ∃ y_ : List Int, y_ = (([(wrap64 (a0_0 + 1)) % 256] : List Int)) := ⟨_, rfl⟩
  replace H : (if a0_0 = 3 then ((munimentref04_Big.f k (IntKind.u64.wrap ((IntKind.u64.wrap (a0_1)) + 9223372036854775808))).bind fun t211 => (if y208.length + t211.length < 140737488355328 then (some (y208 ++ t211)) else (none))) else (if a0_0 = 4 then ((munimentref04_Text.f k a0_2).bind fun t217 => (if y208.length + t217.length < 140737488355328 then (some (y208 ++ t217)) else (none))) else (if a0_0 = 5 then (munimentref04_Plain.l0 k y208 0 a0_0 a0_1 a0_2 l0_3 l0_4) else (if a0_0 = 6 then (munimentref04_Plain.l1 k y208 0 a0_0 a0_1 a0_2 l0_3 l0_4) else (some y208))))) = some r := by first | (rw [hy208]; with_reducible exact H) | (have H2_ := (Option.bind_some _ _).symm.trans H; rw [hy208]; with_reducible exact H2_) | (have H2_ := (Option.bind_some _ _).symm.trans H; with_reducible exact H2_) | with_reducible exact H | (rw [hy208]; exact H) | exact H
  have Ny208 := Aside0.mk hy208
  clear hy208
  by_cases c2 : a0_0 = 3
  · rw [if_pos c2] at H
    have c2b0 : (a0_0 == 3) = true := beq_iff_eq.mpr c2
    have c2b1 : (a0_0 != 3) = false := bne_eq_false_iff_eq.mpr c2
    clear c2
    replace H := Option.bind_eq_some_iff.mp H
    obtain ⟨t211, A30, H⟩ := H
    replace H : (if y208.length + t211.length < 140737488355328 then (some (y208 ++ t211)) else (none)) = some r := H
    have A3 := Aside0.mk A30
    clear A30
    by_cases c4 : y208.length + t211.length < 140737488355328
    · rw [if_pos c4] at H
      have LMc4 := Aside0.mk c4
      clear c4
      obtain ⟨y214, hy214⟩ : ∃ y_ : List Int, y_ = (y208 ++ t211) := ⟨_, rfl⟩
      replace H : (some y214) = some r := by first | (rw [hy214]; with_reducible exact H) | (have H2_ := (Option.bind_some _ _).symm.trans H; rw [hy214]; with_reducible exact H2_) | (have H2_ := (Option.bind_some _ _).symm.trans H; with_reducible exact H2_) | with_reducible exact H | (rw [hy214]; exact H) | exact H
      have Ny214 := Aside0.mk hy214
      clear hy214
      obtain rfl := Option.some.inj H
      go_enter Tryd.func26, Tryd.ntmps26
      go_wp2_with (first | ((with_reducible refine gate_dst (N := 1) rfl ?_); refine box_event ?hg (N := 1) ?hd (cs := #[.int .i64 a0_0, .int .i64 a0_1, .string a0_2, .slice A0_3 l0_3.length c0_3, .slice A0_4 l0_4.length c0_4]) (t := 25) ?hr ?_; (case hd => rfl); (case hg => rfl); (case hr => first | (go_simp; done) | (go_simp; rfl)); intro gb207 hg w5 hbox hb; have n0_ := Aside0.mk (below_step (by repeat (first | (with_reducible first | exact HB.out | apply below_alloc | apply pw_below_drewN | apply below_drew1) | exact HB.out)) hb); have n1_ := Aside0.mk (hbox); have n2_ := Aside0.mk ((by rw [hg]; exact (below_size (by repeat (first | (with_reducible first | exact HB.out | apply below_alloc | apply pw_below_drewN | apply below_drew1) | exact HB.out))) : w.heap.size ≤ gb207)); have n3_ := Aside0.mk ((by rw [hg]; exact (below_size (by repeat (first | (with_reducible first | exact HB.out | apply below_alloc | apply pw_below_drewN | apply below_drew1) | exact HB.out))) : w.heap.size ≤ gb207)); clear HB; have HB := n0_; have BK207 := n1_; have GW207 := n2_; have GE207 := n3_; clear n0_ n1_ n2_ n3_; clear hb hbox hg; have hcz6_0 : w5.cell? ⟨gb207, 0, none⟩ = some (.int .i64 a0_0) := (blk_cell BK207.out 0).trans rfl; have hcz6_1 : w5.cell? ⟨gb207, 1, none⟩ = some (.int .i64 a0_1) := (blk_cell BK207.out 1).trans rfl; have hcz6_2 : w5.cell? ⟨gb207, 2, none⟩ = some (.string a0_2) := (blk_cell BK207.out 2).trans rfl; have hcz6_3 : w5.cell? ⟨gb207, 3, none⟩ = some (.slice A0_3 l0_3.length c0_3) := (blk_cell BK207.out 3).trans rfl; have hcz6_4 : w5.cell? ⟨gb207, 4, none⟩ = some (.slice A0_4 l0_4.length c0_4) := (blk_cell BK207.out 4).trans rfl; have hfz6_0 := blk_frozen BK207.out 0; have hfz6_1 := blk_frozen BK207.out 1; have hfz6_2 := blk_frozen BK207.out 2; have hfz6_3 := blk_frozen BK207.out 3; have hfz6_4 := blk_frozen BK207.out 4) | ((with_reducible refine gate_dst (N := 10) rfl ?_); refine Kd.R_lit (Kd.int .u8) _ 5 ?hg (N := 10) ?hd (xs := ([(wrap64 (a0_0 + 1)) % 256] : List Int)) (inner := [.int .u8 ((wrap64 (a0_0 + 1)) % 256)]) (ok := fun _ => True) (okp := fun _ => True) ?hr ?hp (fun _ hk => hk) trivial (Below.refl _ _) (Nat.le_refl _) (by simp) ?_; (case hd => rfl); (case hg => rfl); (case hr => first | (go_simp; done) | (go_simp; rfl)); (case hp => exact (Reps.one (show Kd.M (Kd.int .u8) _ _ _ ((wrap64 (a0_0 + 1)) % 256) [.int .u8 ((wrap64 (a0_0 + 1)) % 256)] from rfl) (Reps.none _ _))); intro v209 w7 ho8 hb hg_ hnew_; clear hg_ hnew_; (first | rw [← Ny208.out] at ho8 | (simp only [Int.reduceToNat] at ho8; rw [← Ny208.out] at ho8)); have n0_ := Aside0.mk (Kd.R_lower ho8 (below_size (by repeat (first | (with_reducible first | exact HB.out | apply below_alloc | apply pw_below_drewN | apply below_drew1 | refine below_set ?_ GE207.out) | exact HB.out)))); have n1_ := Aside0.mk (blk_below (g := gb207) (o := .cells #[.int .i64 a0_0, .int .i64 a0_1, .string a0_2, .slice A0_3 l0_3.length c0_3, .slice A0_4 l0_4.length c0_4] 25 (0, 0)) (by (with_reducible repeat (first | refine blk_drewN ?_ _ | refine blk_drew ?_ | refine blk_alloc ?_ _)); exact BK207.out) hb); have n2_ := Aside0.mk (below_step (by repeat (first | (with_reducible first | exact HB.out | apply below_alloc | apply pw_below_drewN | apply below_drew1 | refine below_set ?_ GE207.out) | exact HB.out)) hb); clear BK207; clear HB; have HO210 := n0_; have BK207 := n1_; have HB := n2_; clear n0_ n1_ n2_; clear hb ho8; have hcz9_0 : w7.cell? ⟨gb207, 0, none⟩ = some (.int .i64 a0_0) := (blk_cell BK207.out 0).trans rfl; have hcz9_1 : w7.cell? ⟨gb207, 1, none⟩ = some (.int .i64 a0_1) := (blk_cell BK207.out 1).trans rfl; have hcz9_2 : w7.cell? ⟨gb207, 2, none⟩ = some (.string a0_2) := (blk_cell BK207.out 2).trans rfl; have hcz9_3 : w7.cell? ⟨gb207, 3, none⟩ = some (.slice A0_3 l0_3.length c0_3) := (blk_cell BK207.out 3).trans rfl; have hcz9_4 : w7.cell? ⟨gb207, 4, none⟩ = some (.slice A0_4 l0_4.length c0_4) := (blk_cell BK207.out 4).trans rfl; have hfz9_0 := blk_frozen BK207.out 0; have hfz9_1 := blk_frozen BK207.out 1; have hfz9_2 := blk_frozen BK207.out 2; have hfz9_3 := blk_frozen BK207.out 3; have hfz9_4 := blk_frozen BK207.out 4) | ((with_reducible refine gate_callee (f := 38) rfl ?_); refine goesL_ (some 20) rfl rfl Tryd.func38 (by kernel_rfl) rfl #[.int .u64 (IntKind.u64.wrap ((IntKind.u64.wrap (a0_1)) + 9223372036854775808))] rfl (by (try simp only [List.map_toArray, List.map_cons, List.map_nil]); first | done | rfl | (simp only [List.length_drop, List.length_take]; rfl)) ?_; (with_reducible refine (munimentref04_Big.calls k (IntKind.u64.wrap ((IntKind.u64.wrap (a0_1)) + 9223372036854775808)) t211 _ A3.out).mono ?_); rintro e w10 ⟨v212, rfl, ho0, hb⟩; refine ⟨_, rfl, ?_⟩; have n0_ := Aside0.mk (Kd.R_elder' (by (with_reducible repeat (first | apply Kd.R_alloc | apply Kd.R_drewN | apply Kd.R_drew)); exact HO210.out) (Kd.R_base ho0) hb); have n1_ := Aside0.mk (Kd.R_lower (Kd.R_new' ho0 (Kd.R_lt (by (with_reducible repeat (first | apply Kd.R_alloc | apply Kd.R_drewN | apply Kd.R_drew)); exact HO210.out))) (below_size (by repeat (first | (with_reducible first | exact HB.out | apply below_alloc | apply pw_below_drewN | apply below_drew1 | refine below_set ?_ GE207.out) | exact HB.out)))); have n2_ := Aside0.mk (blk_below (g := gb207) (o := .cells #[.int .i64 a0_0, .int .i64 a0_1, .string a0_2, .slice A0_3 l0_3.length c0_3, .slice A0_4 l0_4.length c0_4] 25 (0, 0)) (by (with_reducible repeat (first | refine blk_drewN ?_ _ | refine blk_drew ?_ | refine blk_alloc ?_ _)); exact BK207.out) hb); have n3_ := Aside0.mk (below_step (by repeat (first | (with_reducible first | exact HB.out | apply below_alloc | apply pw_below_drewN | apply below_drew1 | refine below_set ?_ GE207.out) | exact HB.out)) hb); clear HO210; clear BK207; clear HB; have HO210 := n0_; have HO213 := n1_; have BK207 := n2_; have HB := n3_; clear n0_ n1_ n2_ n3_; (try clear hb); (try clear hb2); (try clear hk); (try clear hi); (try clear ho0); obtain ⟨Ao12, co12, eo12⟩ := Kd.R_slice HO213.out; subst eo12) | ((with_reducible refine gate_builtin (b := .append) (xs := #[.tmp 15, .tmp 20]) rfl ?_); at_builtin; refine Kd.R_append_rows (Kd.int .u8) (w0 := w) w.heap.size rfl (.tmp 15) (.tmp 20) 28 5 (.int .u8 0) 1 rfl Tryd.underlying28 info5 rfl (by decide) (by omega) v209 y208 t211 _ _ _ (fun k_ => some k_ ≠ (.slice Ao12 t211.length co12 : Value).ownBlock) (fun _ => False) rfl rfl ?aO ?aR (fun _ _ h => h) (fun _ h => h.elim) ?aF ?aB ?aS ?aL ?_; (case aR => repeat (first | exact (Kd.R_reads' HO213.out).2.2 | (with_reducible refine Kd.C_alloc ?_ _) | (with_reducible refine Kd.C_drewN ?_ _) | (with_reducible refine Kd.C_drew ?_))); (case aB => exact (by repeat (first | (with_reducible first | exact HB.out | apply below_alloc | apply pw_below_drewN | apply below_drew1 | refine below_set ?_ GE207.out) | exact HB.out))); (case aF => exact (fun k_ hk => Kd.fresh' (Kd.R_lt (by (with_reducible repeat (first | apply Kd.R_alloc | apply Kd.R_drewN | apply Kd.R_drew)); exact HO213.out)) k_ hk)); (case aO => exact (by (with_reducible repeat (first | apply Kd.R_alloc | apply Kd.R_drewN | apply Kd.R_drew)); exact Kd.R_mono HO210.out (fun _ hk => hk.2))); (case aS => exact (below_size (by repeat (first | (with_reducible first | exact HB.out | apply below_alloc | apply pw_below_drewN | apply below_drew1 | refine below_set ?_ GE207.out) | exact HB.out)))); (case aL => have := LMc4.out; omega); intro v215 w11 ho hb hg hat; rw [← Ny214.out] at ho; have n0_ := Aside0.mk (blk_grown (g := gb207) (o := .cells #[.int .i64 a0_0, .int .i64 a0_1, .string a0_2, .slice A0_3 l0_3.length c0_3, .slice A0_4 l0_4.length c0_4] 25 (0, 0)) (by (with_reducible repeat (first | refine blk_drewN ?_ _ | refine blk_drew ?_ | refine blk_alloc ?_ _)); exact BK207.out) hg (Kd.R_ne HO210.out BK207.out (by decide))); have n1_ := Aside0.mk (Kd.R_after (ok := (fun _ => True)) (by (with_reducible repeat (first | apply Kd.R_alloc | apply Kd.R_drewN | apply Kd.R_drew)); exact HO213.out) hg hat); have n2_ := Aside0.mk (hb); have n3_ := Aside0.mk (ho); clear BK207; clear HO213; clear HB; clear HO210; have BK207 := n0_; have HO213 := n1_; have HB := n2_; have HO216 := n3_; clear n0_ n1_ n2_ n3_; clear ho hb hg hat))
      go_ret
      exact ⟨_, by first | rfl | (simp [errW_none, errW_some] <;> rfl) | (simp [*, errW_none, errW_some] <;> rfl), by (with_reducible repeat (first | apply Kd.R_alloc | apply Kd.R_drewN | apply Kd.R_drew)); exact Kd.R_mono HO216.out (fun _ hk => trivial), by repeat (first | (with_reducible first | exact HB.out | apply below_alloc | apply pw_below_drewN | apply below_drew1 | refine below_set ?_ GE207.out) | exact HB.out)⟩
    · rw [if_neg c4] at H
      exact absurd H (by simp)
  · rw [if_neg c2] at H
    have c2b0 : (a0_0 == 3) = false := beq_eq_false_iff_ne.mpr c2
    have c2b1 : (a0_0 != 3) = true := bne_iff_ne.mpr c2
    by_cases c13 : a0_0 = 4
    · rw [if_pos c13] at H
      have c13b0 : (a0_0 == 4) = true := beq_iff_eq.mpr c13
      have c13b1 : (a0_0 != 4) = false := bne_eq_false_iff_eq.mpr c13
      clear c13
      replace H := Option.bind_eq_some_iff.mp H
      obtain ⟨t217, A140, H⟩ := H
      replace H : (if y208.length + t217.length < 140737488355328 then (some (y208 ++ t217)) else (none)) = some r := H
      have A14 := Aside0.mk A140
      clear A140
      by_cases c15 : y208.length + t217.length < 140737488355328
      · rw [if_pos c15] at H
        have LMc15 := Aside0.mk c15
        clear c15
        obtain ⟨y220, hy220⟩ : ∃ y_ : List Int, y_ = (y208 ++ t217) := ⟨_, rfl⟩
        replace H : (some y220) = some r := by first | (rw [hy220]; with_reducible exact H) | (have H2_ := (Option.bind_some _ _).symm.trans H; rw [hy220]; with_reducible exact H2_) | (have H2_ := (Option.bind_some _ _).symm.trans H; with_reducible exact H2_) | with_reducible exact H | (rw [hy220]; exact H) | exact H
        have Ny220 := Aside0.mk hy220
        clear hy220
        obtain rfl := Option.some.inj H
        go_enter Tryd.func26, Tryd.ntmps26
        go_wp2_with (first | ((with_reducible refine gate_dst (N := 1) rfl ?_); refine box_event ?hg (N := 1) ?hd (cs := #[.int .i64 a0_0, .int .i64 a0_1, .string a0_2, .slice A0_3 l0_3.length c0_3, .slice A0_4 l0_4.length c0_4]) (t := 25) ?hr ?_; (case hd => rfl); (case hg => rfl); (case hr => first | (go_simp; done) | (go_simp; rfl)); intro gb207 hg w16 hbox hb; have n0_ := Aside0.mk (below_step (by repeat (first | (with_reducible first | exact HB.out | apply below_alloc | apply pw_below_drewN | apply below_drew1) | exact HB.out)) hb); have n1_ := Aside0.mk (hbox); have n2_ := Aside0.mk ((by rw [hg]; exact (below_size (by repeat (first | (with_reducible first | exact HB.out | apply below_alloc | apply pw_below_drewN | apply below_drew1) | exact HB.out))) : w.heap.size ≤ gb207)); have n3_ := Aside0.mk ((by rw [hg]; exact (below_size (by repeat (first | (with_reducible first | exact HB.out | apply below_alloc | apply pw_below_drewN | apply below_drew1) | exact HB.out))) : w.heap.size ≤ gb207)); clear HB; have HB := n0_; have BK207 := n1_; have GW207 := n2_; have GE207 := n3_; clear n0_ n1_ n2_ n3_; clear hb hbox hg; have hcz17_0 : w16.cell? ⟨gb207, 0, none⟩ = some (.int .i64 a0_0) := (blk_cell BK207.out 0).trans rfl; have hcz17_1 : w16.cell? ⟨gb207, 1, none⟩ = some (.int .i64 a0_1) := (blk_cell BK207.out 1).trans rfl; have hcz17_2 : w16.cell? ⟨gb207, 2, none⟩ = some (.string a0_2) := (blk_cell BK207.out 2).trans rfl; have hcz17_3 : w16.cell? ⟨gb207, 3, none⟩ = some (.slice A0_3 l0_3.length c0_3) := (blk_cell BK207.out 3).trans rfl; have hcz17_4 : w16.cell? ⟨gb207, 4, none⟩ = some (.slice A0_4 l0_4.length c0_4) := (blk_cell BK207.out 4).trans rfl; have hfz17_0 := blk_frozen BK207.out 0; have hfz17_1 := blk_frozen BK207.out 1; have hfz17_2 := blk_frozen BK207.out 2; have hfz17_3 := blk_frozen BK207.out 3; have hfz17_4 := blk_frozen BK207.out 4) | ((with_reducible refine gate_dst (N := 10) rfl ?_); refine Kd.R_lit (Kd.int .u8) _ 5 ?hg (N := 10) ?hd (xs := ([(wrap64 (a0_0 + 1)) % 256] : List Int)) (inner := [.int .u8 ((wrap64 (a0_0 + 1)) % 256)]) (ok := fun _ => True) (okp := fun _ => True) ?hr ?hp (fun _ hk => hk) trivial (Below.refl _ _) (Nat.le_refl _) (by simp) ?_; (case hd => rfl); (case hg => rfl); (case hr => first | (go_simp; done) | (go_simp; rfl)); (case hp => exact (Reps.one (show Kd.M (Kd.int .u8) _ _ _ ((wrap64 (a0_0 + 1)) % 256) [.int .u8 ((wrap64 (a0_0 + 1)) % 256)] from rfl) (Reps.none _ _))); intro v209 w18 ho19 hb hg_ hnew_; clear hg_ hnew_; (first | rw [← Ny208.out] at ho19 | (simp only [Int.reduceToNat] at ho19; rw [← Ny208.out] at ho19)); have n0_ := Aside0.mk (Kd.R_lower ho19 (below_size (by repeat (first | (with_reducible first | exact HB.out | apply below_alloc | apply pw_below_drewN | apply below_drew1 | refine below_set ?_ GE207.out) | exact HB.out)))); have n1_ := Aside0.mk (blk_below (g := gb207) (o := .cells #[.int .i64 a0_0, .int .i64 a0_1, .string a0_2, .slice A0_3 l0_3.length c0_3, .slice A0_4 l0_4.length c0_4] 25 (0, 0)) (by (with_reducible repeat (first | refine blk_drewN ?_ _ | refine blk_drew ?_ | refine blk_alloc ?_ _)); exact BK207.out) hb); have n2_ := Aside0.mk (below_step (by repeat (first | (with_reducible first | exact HB.out | apply below_alloc | apply pw_below_drewN | apply below_drew1 | refine below_set ?_ GE207.out) | exact HB.out)) hb); clear BK207; clear HB; have HO210 := n0_; have BK207 := n1_; have HB := n2_; clear n0_ n1_ n2_; clear hb ho19; have hcz20_0 : w18.cell? ⟨gb207, 0, none⟩ = some (.int .i64 a0_0) := (blk_cell BK207.out 0).trans rfl; have hcz20_1 : w18.cell? ⟨gb207, 1, none⟩ = some (.int .i64 a0_1) := (blk_cell BK207.out 1).trans rfl; have hcz20_2 : w18.cell? ⟨gb207, 2, none⟩ = some (.string a0_2) := (blk_cell BK207.out 2).trans rfl; have hcz20_3 : w18.cell? ⟨gb207, 3, none⟩ = some (.slice A0_3 l0_3.length c0_3) := (blk_cell BK207.out 3).trans rfl; have hcz20_4 : w18.cell? ⟨gb207, 4, none⟩ = some (.slice A0_4 l0_4.length c0_4) := (blk_cell BK207.out 4).trans rfl; have hfz20_0 := blk_frozen BK207.out 0; have hfz20_1 := blk_frozen BK207.out 1; have hfz20_2 := blk_frozen BK207.out 2; have hfz20_3 := blk_frozen BK207.out 3; have hfz20_4 := blk_frozen BK207.out 4) | ((with_reducible refine gate_callee (f := 39) rfl ?_); refine goesL_ (some 27) rfl rfl Tryd.func39 (by kernel_rfl) rfl #[.string a0_2] rfl (by (try simp only [List.map_toArray, List.map_cons, List.map_nil]); first | done | rfl | (simp only [List.length_drop, List.length_take]; rfl)) ?_; (with_reducible refine (munimentref04_Text.calls k a0_2 t217 _ A14.out).mono ?_); rintro e w21 ⟨v218, rfl, ho0, hb⟩; refine ⟨_, rfl, ?_⟩; have n0_ := Aside0.mk (Kd.R_elder' (by (with_reducible repeat (first | apply Kd.R_alloc | apply Kd.R_drewN | apply Kd.R_drew)); exact HO210.out) (Kd.R_base ho0) hb); have n1_ := Aside0.mk (Kd.R_lower (Kd.R_new' ho0 (Kd.R_lt (by (with_reducible repeat (first | apply Kd.R_alloc | apply Kd.R_drewN | apply Kd.R_drew)); exact HO210.out))) (below_size (by repeat (first | (with_reducible first | exact HB.out | apply below_alloc | apply pw_below_drewN | apply below_drew1 | refine below_set ?_ GE207.out) | exact HB.out)))); have n2_ := Aside0.mk (blk_below (g := gb207) (o := .cells #[.int .i64 a0_0, .int .i64 a0_1, .string a0_2, .slice A0_3 l0_3.length c0_3, .slice A0_4 l0_4.length c0_4] 25 (0, 0)) (by (with_reducible repeat (first | refine blk_drewN ?_ _ | refine blk_drew ?_ | refine blk_alloc ?_ _)); exact BK207.out) hb); have n3_ := Aside0.mk (below_step (by repeat (first | (with_reducible first | exact HB.out | apply below_alloc | apply pw_below_drewN | apply below_drew1 | refine below_set ?_ GE207.out) | exact HB.out)) hb); clear HO210; clear BK207; clear HB; have HO210 := n0_; have HO219 := n1_; have BK207 := n2_; have HB := n3_; clear n0_ n1_ n2_ n3_; (try clear hb); (try clear hb2); (try clear hk); (try clear hi); (try clear ho0); obtain ⟨Ao23, co23, eo23⟩ := Kd.R_slice HO219.out; subst eo23) | ((with_reducible refine gate_builtin (b := .append) (xs := #[.tmp 24, .tmp 27]) rfl ?_); at_builtin; refine Kd.R_append_rows (Kd.int .u8) (w0 := w) w.heap.size rfl (.tmp 24) (.tmp 27) 28 5 (.int .u8 0) 1 rfl Tryd.underlying28 info5 rfl (by decide) (by omega) v209 y208 t217 _ _ _ (fun k_ => some k_ ≠ (.slice Ao23 t217.length co23 : Value).ownBlock) (fun _ => False) rfl rfl ?aO ?aR (fun _ _ h => h) (fun _ h => h.elim) ?aF ?aB ?aS ?aL ?_; (case aR => repeat (first | exact (Kd.R_reads' HO219.out).2.2 | (with_reducible refine Kd.C_alloc ?_ _) | (with_reducible refine Kd.C_drewN ?_ _) | (with_reducible refine Kd.C_drew ?_))); (case aB => exact (by repeat (first | (with_reducible first | exact HB.out | apply below_alloc | apply pw_below_drewN | apply below_drew1 | refine below_set ?_ GE207.out) | exact HB.out))); (case aF => exact (fun k_ hk => Kd.fresh' (Kd.R_lt (by (with_reducible repeat (first | apply Kd.R_alloc | apply Kd.R_drewN | apply Kd.R_drew)); exact HO219.out)) k_ hk)); (case aO => exact (by (with_reducible repeat (first | apply Kd.R_alloc | apply Kd.R_drewN | apply Kd.R_drew)); exact Kd.R_mono HO210.out (fun _ hk => hk.2))); (case aS => exact (below_size (by repeat (first | (with_reducible first | exact HB.out | apply below_alloc | apply pw_below_drewN | apply below_drew1 | refine below_set ?_ GE207.out) | exact HB.out)))); (case aL => have := LMc15.out; omega); intro v221 w22 ho hb hg hat; rw [← Ny220.out] at ho; have n0_ := Aside0.mk (blk_grown (g := gb207) (o := .cells #[.int .i64 a0_0, .int .i64 a0_1, .string a0_2, .slice A0_3 l0_3.length c0_3, .slice A0_4 l0_4.length c0_4] 25 (0, 0)) (by (with_reducible repeat (first | refine blk_drewN ?_ _ | refine blk_drew ?_ | refine blk_alloc ?_ _)); exact BK207.out) hg (Kd.R_ne HO210.out BK207.out (by decide))); have n1_ := Aside0.mk (Kd.R_after (ok := (fun _ => True)) (by (with_reducible repeat (first | apply Kd.R_alloc | apply Kd.R_drewN | apply Kd.R_drew)); exact HO219.out) hg hat); have n2_ := Aside0.mk (hb); have n3_ := Aside0.mk (ho); clear BK207; clear HO219; clear HB; clear HO210; have BK207 := n0_; have HO219 := n1_; have HB := n2_; have HO222 := n3_; clear n0_ n1_ n2_ n3_; clear ho hb hg hat))
        go_ret
        exact ⟨_, by first | rfl | (simp [errW_none, errW_some] <;> rfl) | (simp [*, errW_none, errW_some] <;> rfl), by (with_reducible repeat (first | apply Kd.R_alloc | apply Kd.R_drewN | apply Kd.R_drew)); exact Kd.R_mono HO222.out (fun _ hk => trivial), by repeat (first | (with_reducible first | exact HB.out | apply below_alloc | apply pw_below_drewN | apply below_drew1 | refine below_set ?_ GE207.out) | exact HB.out)⟩
      · rw [if_neg c15] at H
        exact absurd H (by simp)
    · rw [if_neg c13] at H
      have c13b0 : (a0_0 == 4) = false := beq_eq_false_iff_ne.mpr c13
      have c13b1 : (a0_0 != 4) = true := bne_iff_ne.mpr c13
      by_cases c24 : a0_0 = 5
      · rw [if_pos c24] at H
        have c24b0 : (a0_0 == 5) = true := beq_iff_eq.mpr c24
        have c24b1 : (a0_0 != 5) = false := bne_eq_false_iff_eq.mpr c24
        clear c24
        have H' := Aside0.mk H
        clear H
        go_enter Tryd.func26, Tryd.ntmps26
        go_wp2_with (first | ((with_reducible refine gate_dst (N := 1) rfl ?_); refine box_event ?hg (N := 1) ?hd (cs := #[.int .i64 a0_0, .int .i64 a0_1, .string a0_2, .slice A0_3 l0_3.length c0_3, .slice A0_4 l0_4.length c0_4]) (t := 25) ?hr ?_; (case hd => rfl); (case hg => rfl); (case hr => first | (go_simp; done) | (go_simp; rfl)); intro gb207 hg w25 hbox hb; have n0_ := Aside0.mk (below_step (by repeat (first | (with_reducible first | exact HB.out | apply below_alloc | apply pw_below_drewN | apply below_drew1) | exact HB.out)) hb); have n1_ := Aside0.mk (hbox); have n2_ := Aside0.mk ((by rw [hg]; exact (below_size (by repeat (first | (with_reducible first | exact HB.out | apply below_alloc | apply pw_below_drewN | apply below_drew1) | exact HB.out))) : w.heap.size ≤ gb207)); have n3_ := Aside0.mk ((by rw [hg]; exact (below_size (by repeat (first | (with_reducible first | exact HB.out | apply below_alloc | apply pw_below_drewN | apply below_drew1) | exact HB.out))) : w.heap.size ≤ gb207)); clear HB; have HB := n0_; have BK207 := n1_; have GW207 := n2_; have GE207 := n3_; clear n0_ n1_ n2_ n3_; clear hb hbox hg; have hcz26_0 : w25.cell? ⟨gb207, 0, none⟩ = some (.int .i64 a0_0) := (blk_cell BK207.out 0).trans rfl; have hcz26_1 : w25.cell? ⟨gb207, 1, none⟩ = some (.int .i64 a0_1) := (blk_cell BK207.out 1).trans rfl; have hcz26_2 : w25.cell? ⟨gb207, 2, none⟩ = some (.string a0_2) := (blk_cell BK207.out 2).trans rfl; have hcz26_3 : w25.cell? ⟨gb207, 3, none⟩ = some (.slice A0_3 l0_3.length c0_3) := (blk_cell BK207.out 3).trans rfl; have hcz26_4 : w25.cell? ⟨gb207, 4, none⟩ = some (.slice A0_4 l0_4.length c0_4) := (blk_cell BK207.out 4).trans rfl; have hfz26_0 := blk_frozen BK207.out 0; have hfz26_1 := blk_frozen BK207.out 1; have hfz26_2 := blk_frozen BK207.out 2; have hfz26_3 := blk_frozen BK207.out 3; have hfz26_4 := blk_frozen BK207.out 4) | ((with_reducible refine gate_dst (N := 10) rfl ?_); refine Kd.R_lit (Kd.int .u8) _ 5 ?hg (N := 10) ?hd (xs := ([(wrap64 (a0_0 + 1)) % 256] : List Int)) (inner := [.int .u8 ((wrap64 (a0_0 + 1)) % 256)]) (ok := fun _ => True) (okp := fun _ => True) ?hr ?hp (fun _ hk => hk) trivial (Below.refl _ _) (Nat.le_refl _) (by simp) ?_; (case hd => rfl); (case hg => rfl); (case hr => first | (go_simp; done) | (go_simp; rfl)); (case hp => exact (Reps.one (show Kd.M (Kd.int .u8) _ _ _ ((wrap64 (a0_0 + 1)) % 256) [.int .u8 ((wrap64 (a0_0 + 1)) % 256)] from rfl) (Reps.none _ _))); intro v209 w27 ho28 hb hg_ hnew_; clear hg_ hnew_; (first | rw [← Ny208.out] at ho28 | (simp only [Int.reduceToNat] at ho28; rw [← Ny208.out] at ho28)); have n0_ := Aside0.mk (Kd.R_lower ho28 (below_size (by repeat (first | (with_reducible first | exact HB.out | apply below_alloc | apply pw_below_drewN | apply below_drew1 | refine below_set ?_ GE207.out) | exact HB.out)))); have n1_ := Aside0.mk (blk_below (g := gb207) (o := .cells #[.int .i64 a0_0, .int .i64 a0_1, .string a0_2, .slice A0_3 l0_3.length c0_3, .slice A0_4 l0_4.length c0_4] 25 (0, 0)) (by (with_reducible repeat (first | refine blk_drewN ?_ _ | refine blk_drew ?_ | refine blk_alloc ?_ _)); exact BK207.out) hb); have n2_ := Aside0.mk (below_step (by repeat (first | (with_reducible first | exact HB.out | apply below_alloc | apply pw_below_drewN | apply below_drew1 | refine below_set ?_ GE207.out) | exact HB.out)) hb); clear BK207; clear HB; have HO210 := n0_; have BK207 := n1_; have HB := n2_; clear n0_ n1_ n2_; clear hb ho28; have hcz29_0 : w27.cell? ⟨gb207, 0, none⟩ = some (.int .i64 a0_0) := (blk_cell BK207.out 0).trans rfl; have hcz29_1 : w27.cell? ⟨gb207, 1, none⟩ = some (.int .i64 a0_1) := (blk_cell BK207.out 1).trans rfl; have hcz29_2 : w27.cell? ⟨gb207, 2, none⟩ = some (.string a0_2) := (blk_cell BK207.out 2).trans rfl; have hcz29_3 : w27.cell? ⟨gb207, 3, none⟩ = some (.slice A0_3 l0_3.length c0_3) := (blk_cell BK207.out 3).trans rfl; have hcz29_4 : w27.cell? ⟨gb207, 4, none⟩ = some (.slice A0_4 l0_4.length c0_4) := (blk_cell BK207.out 4).trans rfl; have hfz29_0 := blk_frozen BK207.out 0; have hfz29_1 := blk_frozen BK207.out 1; have hfz29_2 := blk_frozen BK207.out 2; have hfz29_3 := blk_frozen BK207.out 3; have hfz29_4 := blk_frozen BK207.out 4))
        go_loopg [3, 4] k (fun kq v3 v4 w' => ∃ (x3_1 : List Int) (x4_1 : Int), v4 = .int .i64 x4_1 ∧ Aside0 (munimentref04_Plain.l0 kq x3_1 x4_1 a0_0 a0_1 a0_2 l0_3 l0_4 = some r) ∧ Aside0 (kq ≤ k) ∧ Aside0 (Kd.R (Kd.int .u8) 5 w' w.heap.size (fun _ => True) v3 x3_1) ∧ Aside0 (w'.heap[gb207]? = some (.cells #[.int .i64 a0_0, .int .i64 a0_1, .string a0_2, (.slice A0_3 l0_3.length c0_3), (.slice A0_4 l0_4.length c0_4)] 25 (0, 0))) ∧ Aside0 (Below w.heap.size w w'))
        case atStart => exact ⟨(y208), (0), (by first | rfl | (simp; done) | (simp [*]; done)), H', ⟨Nat.le_refl _⟩, ⟨by (with_reducible repeat (first | apply Kd.R_alloc | apply Kd.R_drewN | apply Kd.R_drew)); exact HO210.out⟩, ⟨by (with_reducible repeat (first | refine blk_drewN ?_ _ | refine blk_drew ?_ | refine blk_alloc ?_ _)); exact BK207.out⟩, ⟨by repeat (first | (with_reducible first | exact HB.out | apply below_alloc | apply pw_below_drewN | apply below_drew1 | refine below_set ?_ GE207.out) | exact HB.out)⟩⟩
        case round =>
          clear H'
          try clear c1
          try clear c2
          try clear c2b0
          try clear c2b1
          try clear p2
          try clear c3
          try clear c4
          try clear p6
          try clear c13
          try clear c13b0
          try clear c13b1
          try clear c15
          try clear c24
          try clear c24b0
          try clear c24b1
          try clear c26
          try clear hcz17_0
          try clear hcz17_1
          try clear hcz17_2
          try clear hcz17_3
          try clear hcz17_4
          try clear hcz20_0
          try clear hcz20_1
          try clear hcz20_2
          try clear hcz20_3
          try clear hcz20_4
          try clear hcz26_0
          try clear hcz26_1
          try clear hcz26_2
          try clear hcz26_3
          try clear hcz26_4
          try clear hcz29_0
          try clear hcz29_1
          try clear hcz29_2
          try clear hcz29_3
          try clear hcz29_4
          try clear hcz6_0
          try clear hcz6_1
          try clear hcz6_2
          try clear hcz6_3
          try clear hcz6_4
          try clear hcz9_0
          try clear hcz9_1
          try clear hcz9_2
          try clear hcz9_3
          try clear hcz9_4
          try clear hfz17_0
          try clear hfz17_1
          try clear hfz17_2
          try clear hfz17_3
          try clear hfz17_4
          try clear hfz20_0
          try clear hfz20_1
          try clear hfz20_2
          try clear hfz20_3
          try clear hfz20_4
          try clear hfz26_0
          try clear hfz26_1
          try clear hfz26_2
          try clear hfz26_3
          try clear hfz26_4
          try clear hfz29_0
          try clear hfz29_1
          try clear hfz29_2
          try clear hfz29_3
          try clear hfz29_4
          try clear hfz6_0
          try clear hfz6_1
          try clear hfz6_2
          try clear hfz6_3
          try clear hfz6_4
          try clear hfz9_0
          try clear hfz9_1
          try clear hfz9_2
          try clear hfz9_3
          try clear hfz9_4
          obtain ⟨x3_1, x4_1, rfl, HA, HK1, HO_3, BK207, HB⟩ := hrel
          cases gk with
          | zero => exact absurd HA.out (by simp [munimentref04_Plain.l0])
          | succ k1 =>
            have H := HA.out
            clear HA
            simp only [munimentref04_Plain.l0] at H
            by_cases c30 : x4_1 < (l0_4.length : Int)
            · rw [if_pos c30] at H
              have c30b0 : decide (x4_1 < (l0_4.length : Int)) = true := decide_eq_true c30
              clear c30
              by_cases c31 : 0 ≤ x4_1
              · rw [if_pos c31] at H
                have c31b0 : decide (0 ≤ x4_1) = true := decide_eq_true c31
                clear c31
                replace H := Option.bind_eq_some_iff.mp H
                obtain ⟨t224, A320, H⟩ := H
                replace H : (if x3_1.length + t224.length < 140737488355328 then (munimentref04_Plain.l0 k1 (x3_1 ++ t224) (wrap64 (x4_1 + 1)) a0_0 a0_1 a0_2 l0_3 l0_4) else (none)) = some r := H
                have A32 := Aside0.mk A320
                clear A320
                by_cases c33 : x3_1.length + t224.length < 140737488355328
                · rw [if_pos c33] at H
                  have LMc33 := Aside0.mk c33
                  clear c33
                  obtain ⟨y227, hy227⟩ : ∃ y_ : List Int, y_ = (x3_1 ++ t224) := ⟨_, rfl⟩
                  replace H : (munimentref04_Plain.l0 k1 y227 (wrap64 (x4_1 + 1)) a0_0 a0_1 a0_2 l0_3 l0_4) = some r := by first | (rw [hy227]; with_reducible exact H) | (have H2_ := (Option.bind_some _ _).symm.trans H; rw [hy227]; with_reducible exact H2_) | (have H2_ := (Option.bind_some _ _).symm.trans H; with_reducible exact H2_) | with_reducible exact H | (rw [hy227]; exact H) | exact H
                  have Ny227 := Aside0.mk hy227
                  clear hy227
                  have H' := Aside0.mk H
                  clear H
                  have hcz34_0 : wr.cell? ⟨gb207, 0, none⟩ = some (.int .i64 a0_0) := (blk_cell BK207.out 0).trans rfl
                  have hcz34_1 : wr.cell? ⟨gb207, 1, none⟩ = some (.int .i64 a0_1) := (blk_cell BK207.out 1).trans rfl
                  have hcz34_2 : wr.cell? ⟨gb207, 2, none⟩ = some (.string a0_2) := (blk_cell BK207.out 2).trans rfl
                  have hcz34_3 : wr.cell? ⟨gb207, 3, none⟩ = some (.slice A0_3 l0_3.length c0_3) := (blk_cell BK207.out 3).trans rfl
                  have hcz34_4 : wr.cell? ⟨gb207, 4, none⟩ = some (.slice A0_4 l0_4.length c0_4) := (blk_cell BK207.out 4).trans rfl
                  have hfz34_0 := blk_frozen BK207.out 0
                  have hfz34_1 := blk_frozen BK207.out 1
                  have hfz34_2 := blk_frozen BK207.out 2
                  have hfz34_3 := blk_frozen BK207.out 3
                  have hfz34_4 := blk_frozen BK207.out 4
                  have p223 : 0 ≤ (x4_1 : Int) := of_decide_eq_true (by first | (with_reducible assumption) | assumption)
                  have q223 : x4_1 < (l0_4.length : Int) := of_decide_eq_true (by first | (with_reducible assumption) | assumption)
                  obtain ⟨ad223, A223_3, c223_3, A223_4, c223_4, e223, hx223_0, hx223_1, hx223_2, hx223_3, hx223_4, hl223_3, hi223_3, hl223_4, hi223_4⟩ := at_T25 HR0_4.out x4_1 p223 q223
                  cases e223
                  replace hx223_0 := (HB.out.cell (World.block_lt_of_cell? w _ hx223_0)).trans hx223_0
                  replace hx223_1 := (HB.out.cell (World.block_lt_of_cell? w _ hx223_1)).trans hx223_1
                  replace hx223_2 := (HB.out.cell (World.block_lt_of_cell? w _ hx223_2)).trans hx223_2
                  replace hx223_3 := (HB.out.cell (World.block_lt_of_cell? w _ hx223_3)).trans hx223_3
                  replace hx223_4 := (HB.out.cell (World.block_lt_of_cell? w _ hx223_4)).trans hx223_4
                  have HR223_3 := Aside0.mk hi223_3
                  have HC223_3 := Aside0.mk hl223_3
                  clear hi223_3 hl223_3
                  have HR223_4 := Aside0.mk hi223_4
                  have HC223_4 := Aside0.mk hl223_4
                  clear hi223_4 hl223_4
                  replace p223 := eq_true p223
                  replace q223 := eq_true q223
                  go_wp2_with (first | ((with_reducible refine gate_callee (f := 26) rfl ?_); refine goesL_ (some 44) rfl rfl Tryd.func26 (by kernel_rfl) rfl #[.agg #[.int .i64 ((rd_T25 l0_4 x4_1).f0), .int .i64 ((rd_T25 l0_4 x4_1).f1), .string ((rd_T25 l0_4 x4_1).f2), .slice A223_3 ((rd_T25 l0_4 x4_1).f3).length c223_3, .slice A223_4 ((rd_T25 l0_4 x4_1).f4).length c223_4]] rfl (by (try simp only [List.map_toArray, List.map_cons, List.map_nil]); first | done | rfl | (simp only [List.length_drop, List.length_take]; rfl)) ?_; (with_reducible refine (ih k1 (by have := HK1.out; omega) ((rd_T25 l0_4 x4_1).f0) ((rd_T25 l0_4 x4_1).f1) ((rd_T25 l0_4 x4_1).f2) _ _ ((rd_T25 l0_4 x4_1).f3) _ _ ((rd_T25 l0_4 x4_1).f4) t224 _ ?side1 ?side2 ?side3 ?side4 A32.out).mono ?_); (case side1 => repeat (first | exact (Kd.C_below HR223_3.out HB.out) | (with_reducible refine Kd.C_alloc ?_ _) | (with_reducible refine Kd.C_drewN ?_ _) | (with_reducible refine Kd.C_drew ?_))); (case side2 => exact HC223_3.out); (case side3 => repeat (first | exact (Kd.C_below HR223_4.out HB.out) | (with_reducible refine Kd.C_alloc ?_ _) | (with_reducible refine Kd.C_drewN ?_ _) | (with_reducible refine Kd.C_drew ?_))); (case side4 => exact HC223_4.out); rintro e w35 ⟨v225, rfl, ho0, hb⟩; refine ⟨_, rfl, ?_⟩; have n0_ := Aside0.mk (Kd.R_elder' (by (with_reducible repeat (first | apply Kd.R_alloc | apply Kd.R_drewN | apply Kd.R_drew)); exact HO_3.out) (Kd.R_base ho0) hb); have n1_ := Aside0.mk (Kd.R_lower (Kd.R_new' ho0 (Kd.R_lt (by (with_reducible repeat (first | apply Kd.R_alloc | apply Kd.R_drewN | apply Kd.R_drew)); exact HO_3.out))) (below_size (by repeat (first | (with_reducible first | exact HB.out | apply below_alloc | apply pw_below_drewN | apply below_drew1 | refine below_set ?_ GE207.out) | exact HB.out)))); have n2_ := Aside0.mk (blk_below (g := gb207) (o := .cells #[.int .i64 a0_0, .int .i64 a0_1, .string a0_2, .slice A0_3 l0_3.length c0_3, .slice (some ad223) l0_4.length c0_4] 25 (0, 0)) (by (with_reducible repeat (first | refine blk_drewN ?_ _ | refine blk_drew ?_ | refine blk_alloc ?_ _)); exact BK207.out) hb); have n3_ := Aside0.mk (below_step (by repeat (first | (with_reducible first | exact HB.out | apply below_alloc | apply pw_below_drewN | apply below_drew1 | refine below_set ?_ GE207.out) | exact HB.out)) hb); clear HO_3; clear BK207; clear HB; have HO_3 := n0_; have HO226 := n1_; have BK207 := n2_; have HB := n3_; clear n0_ n1_ n2_ n3_; (try clear hb); (try clear hb2); (try clear hk); (try clear hi); (try clear ho0); obtain ⟨Ao37, co37, eo37⟩ := Kd.R_slice HO226.out; subst eo37) | ((with_reducible refine gate_builtin (b := .append) (xs := #[.tmp 38, .tmp 44]) rfl ?_); at_builtin; refine Kd.R_append_rows (Kd.int .u8) (w0 := w) w.heap.size rfl (.tmp 38) (.tmp 44) 28 5 (.int .u8 0) 1 rfl Tryd.underlying28 info5 rfl (by decide) (by omega) u3 x3_1 t224 _ _ _ (fun k_ => some k_ ≠ (.slice Ao37 t224.length co37 : Value).ownBlock) (fun _ => False) rfl rfl ?aO ?aR (fun _ _ h => h) (fun _ h => h.elim) ?aF ?aB ?aS ?aL ?_; (case aR => repeat (first | exact (Kd.R_reads' HO226.out).2.2 | (with_reducible refine Kd.C_alloc ?_ _) | (with_reducible refine Kd.C_drewN ?_ _) | (with_reducible refine Kd.C_drew ?_))); (case aB => exact (by repeat (first | (with_reducible first | exact HB.out | apply below_alloc | apply pw_below_drewN | apply below_drew1 | refine below_set ?_ GE207.out) | exact HB.out))); (case aF => exact (fun k_ hk => Kd.fresh' (Kd.R_lt (by (with_reducible repeat (first | apply Kd.R_alloc | apply Kd.R_drewN | apply Kd.R_drew)); exact HO226.out)) k_ hk)); (case aO => exact (by (with_reducible repeat (first | apply Kd.R_alloc | apply Kd.R_drewN | apply Kd.R_drew)); exact Kd.R_mono HO_3.out (fun _ hk => hk.2))); (case aS => exact (below_size (by repeat (first | (with_reducible first | exact HB.out | apply below_alloc | apply pw_below_drewN | apply below_drew1 | refine below_set ?_ GE207.out) | exact HB.out)))); (case aL => have := LMc33.out; omega); intro v228 w36 ho hb hg hat; rw [← Ny227.out] at ho; have n0_ := Aside0.mk (blk_grown (g := gb207) (o := .cells #[.int .i64 a0_0, .int .i64 a0_1, .string a0_2, .slice A0_3 l0_3.length c0_3, .slice (some ad223) l0_4.length c0_4] 25 (0, 0)) (by (with_reducible repeat (first | refine blk_drewN ?_ _ | refine blk_drew ?_ | refine blk_alloc ?_ _)); exact BK207.out) hg (Kd.R_ne HO_3.out BK207.out (by decide))); have n1_ := Aside0.mk (Kd.R_after (ok := (fun _ => True)) (by (with_reducible repeat (first | apply Kd.R_alloc | apply Kd.R_drewN | apply Kd.R_drew)); exact HO226.out) hg hat); have n2_ := Aside0.mk (hb); have n3_ := Aside0.mk (ho); clear BK207; clear HO226; clear HB; clear HO_3; have BK207 := n0_; have HO226 := n1_; have HB := n2_; have HO229 := n3_; clear n0_ n1_ n2_ n3_; clear ho hb hg hat))
                  go_roundg k1
                  case measure => have := HK1.out; omega
                  case rel => exact ⟨(y227), (wrap64 (x4_1 + 1)), (by first | rfl | (simp; done) | (simp [*]; done)), H', ⟨by have := HK1.out; omega⟩, ⟨by (with_reducible repeat (first | apply Kd.R_alloc | apply Kd.R_drewN | apply Kd.R_drew)); exact Kd.R_mono HO229.out (fun _ hk => trivial)⟩, ⟨by (with_reducible repeat (first | refine blk_drewN ?_ _ | refine blk_drew ?_ | refine blk_alloc ?_ _)); exact BK207.out⟩, ⟨by repeat (first | (with_reducible first | exact HB.out | apply below_alloc | apply pw_below_drewN | apply below_drew1 | refine below_set ?_ GE207.out) | exact HB.out)⟩⟩
                · rw [if_neg c33] at H
                  exact absurd H (by simp)
              · rw [if_neg c31] at H
                exact absurd H (by simp)
            · rw [if_neg c30] at H
              have c30b0 : decide (x4_1 < (l0_4.length : Int)) = false := decide_eq_false c30
              clear c30
              by_cases c38 : x3_1.length < 140737488355328
              · rw [if_pos c38] at H
                have LMc38 := Aside0.mk c38
                clear c38
                obtain ⟨y230, hy230⟩ : ∃ y_ : List Int, y_ = (x3_1 ++ [0]) := ⟨_, rfl⟩
                replace H : (some y230) = some r := by first | (rw [hy230]; with_reducible exact H) | (have H2_ := (Option.bind_some _ _).symm.trans H; rw [hy230]; with_reducible exact H2_) | (have H2_ := (Option.bind_some _ _).symm.trans H; with_reducible exact H2_) | with_reducible exact H | (rw [hy230]; exact H) | exact H
                have Ny230 := Aside0.mk hy230
                clear hy230
                obtain rfl := Option.some.inj H
                have hcz39_0 : wr.cell? ⟨gb207, 0, none⟩ = some (.int .i64 a0_0) := (blk_cell BK207.out 0).trans rfl
                have hcz39_1 : wr.cell? ⟨gb207, 1, none⟩ = some (.int .i64 a0_1) := (blk_cell BK207.out 1).trans rfl
                have hcz39_2 : wr.cell? ⟨gb207, 2, none⟩ = some (.string a0_2) := (blk_cell BK207.out 2).trans rfl
                have hcz39_3 : wr.cell? ⟨gb207, 3, none⟩ = some (.slice A0_3 l0_3.length c0_3) := (blk_cell BK207.out 3).trans rfl
                have hcz39_4 : wr.cell? ⟨gb207, 4, none⟩ = some (.slice A0_4 l0_4.length c0_4) := (blk_cell BK207.out 4).trans rfl
                have hfz39_0 := blk_frozen BK207.out 0
                have hfz39_1 := blk_frozen BK207.out 1
                have hfz39_2 := blk_frozen BK207.out 2
                have hfz39_3 := blk_frozen BK207.out 3
                have hfz39_4 := blk_frozen BK207.out 4
                go_wp2_with (first | ((with_reducible refine gate_builtin (b := .append) (xs := #[.tmp 46, .tmp 47]) rfl ?_); at_builtin; refine Kd.R_append (Kd.int .u8) (w0 := w) w.heap.size rfl (.tmp 46) (.tmp 47) 28 5 (.int .u8 0) 1 rfl Tryd.underlying28 info5 rfl (by decide) (by omega) u3 x3_1 0 [.int .u8 0] (fun _ => True) (fun _ => False) rfl rfl ?aP (fun _ hk => hk.elim) ?aF ?aO ?aB ?aS ?aL ?_; (case aP => exact rfl); (case aB => exact (by repeat (first | (with_reducible first | exact HB.out | apply below_alloc | apply pw_below_drewN | apply below_drew1 | refine below_set ?_ GE207.out) | exact HB.out))); (case aF => exact (fun _ _ => trivial)); (case aO => exact (by (with_reducible repeat (first | apply Kd.R_alloc | apply Kd.R_drewN | apply Kd.R_drew)); exact HO_3.out)); (case aS => exact (below_size (by repeat (first | (with_reducible first | exact HB.out | apply below_alloc | apply pw_below_drewN | apply below_drew1 | refine below_set ?_ GE207.out) | exact HB.out)))); (case aL => have := LMc38.out; omega); intro v231 w40 ho hb hg hat; rw [← Ny230.out] at ho; have n0_ := Aside0.mk (blk_grown (g := gb207) (o := .cells #[.int .i64 a0_0, .int .i64 a0_1, .string a0_2, .slice A0_3 l0_3.length c0_3, .slice A0_4 l0_4.length c0_4] 25 (0, 0)) (by (with_reducible repeat (first | refine blk_drewN ?_ _ | refine blk_drew ?_ | refine blk_alloc ?_ _)); exact BK207.out) hg (Kd.R_ne HO_3.out BK207.out (by decide))); have n1_ := Aside0.mk (hb); have n2_ := Aside0.mk (ho); clear BK207; clear HB; clear HO_3; have BK207 := n0_; have HB := n1_; have HO232 := n2_; clear n0_ n1_ n2_; clear ho hb hg hat))
                go_ret
                exact ⟨_, by first | rfl | (simp [errW_none, errW_some] <;> rfl) | (simp [*, errW_none, errW_some] <;> rfl), by (with_reducible repeat (first | apply Kd.R_alloc | apply Kd.R_drewN | apply Kd.R_drew)); exact HO232.out, by repeat (first | (with_reducible first | exact HB.out | apply below_alloc | apply pw_below_drewN | apply below_drew1 | refine below_set ?_ GE207.out) | exact HB.out)⟩
              · rw [if_neg c38] at H
                exact absurd H (by simp)
      · rw [if_neg c24] at H
        have c24b0 : (a0_0 == 5) = false := beq_eq_false_iff_ne.mpr c24
        have c24b1 : (a0_0 != 5) = true := bne_iff_ne.mpr c24
        by_cases c41 : a0_0 = 6
        · rw [if_pos c41] at H
          have c41b0 : (a0_0 == 6) = true := beq_iff_eq.mpr c41
          have c41b1 : (a0_0 != 6) = false := bne_eq_false_iff_eq.mpr c41
          clear c41
          have H' := Aside0.mk H
          clear H
          go_enter Tryd.func26, Tryd.ntmps26
          go_wp2_with (first | ((with_reducible refine gate_dst (N := 1) rfl ?_); refine box_event ?hg (N := 1) ?hd (cs := #[.int .i64 a0_0, .int .i64 a0_1, .string a0_2, .slice A0_3 l0_3.length c0_3, .slice A0_4 l0_4.length c0_4]) (t := 25) ?hr ?_; (case hd => rfl); (case hg => rfl); (case hr => first | (go_simp; done) | (go_simp; rfl)); intro gb207 hg w42 hbox hb; have n0_ := Aside0.mk (below_step (by repeat (first | (with_reducible first | exact HB.out | apply below_alloc | apply pw_below_drewN | apply below_drew1) | exact HB.out)) hb); have n1_ := Aside0.mk (hbox); have n2_ := Aside0.mk ((by rw [hg]; exact (below_size (by repeat (first | (with_reducible first | exact HB.out | apply below_alloc | apply pw_below_drewN | apply below_drew1) | exact HB.out))) : w.heap.size ≤ gb207)); have n3_ := Aside0.mk ((by rw [hg]; exact (below_size (by repeat (first | (with_reducible first | exact HB.out | apply below_alloc | apply pw_below_drewN | apply below_drew1) | exact HB.out))) : w.heap.size ≤ gb207)); clear HB; have HB := n0_; have BK207 := n1_; have GW207 := n2_; have GE207 := n3_; clear n0_ n1_ n2_ n3_; clear hb hbox hg; have hcz43_0 : w42.cell? ⟨gb207, 0, none⟩ = some (.int .i64 a0_0) := (blk_cell BK207.out 0).trans rfl; have hcz43_1 : w42.cell? ⟨gb207, 1, none⟩ = some (.int .i64 a0_1) := (blk_cell BK207.out 1).trans rfl; have hcz43_2 : w42.cell? ⟨gb207, 2, none⟩ = some (.string a0_2) := (blk_cell BK207.out 2).trans rfl; have hcz43_3 : w42.cell? ⟨gb207, 3, none⟩ = some (.slice A0_3 l0_3.length c0_3) := (blk_cell BK207.out 3).trans rfl; have hcz43_4 : w42.cell? ⟨gb207, 4, none⟩ = some (.slice A0_4 l0_4.length c0_4) := (blk_cell BK207.out 4).trans rfl; have hfz43_0 := blk_frozen BK207.out 0; have hfz43_1 := blk_frozen BK207.out 1; have hfz43_2 := blk_frozen BK207.out 2; have hfz43_3 := blk_frozen BK207.out 3; have hfz43_4 := blk_frozen BK207.out 4) | ((with_reducible refine gate_dst (N := 10) rfl ?_); refine Kd.R_lit (Kd.int .u8) _ 5 ?hg (N := 10) ?hd (xs := ([(wrap64 (a0_0 + 1)) % 256] : List Int)) (inner := [.int .u8 ((wrap64 (a0_0 + 1)) % 256)]) (ok := fun _ => True) (okp := fun _ => True) ?hr ?hp (fun _ hk => hk) trivial (Below.refl _ _) (Nat.le_refl _) (by simp) ?_; (case hd => rfl); (case hg => rfl); (case hr => first | (go_simp; done) | (go_simp; rfl)); (case hp => exact (Reps.one (show Kd.M (Kd.int .u8) _ _ _ ((wrap64 (a0_0 + 1)) % 256) [.int .u8 ((wrap64 (a0_0 + 1)) % 256)] from rfl) (Reps.none _ _))); intro v209 w44 ho45 hb hg_ hnew_; clear hg_ hnew_; (first | rw [← Ny208.out] at ho45 | (simp only [Int.reduceToNat] at ho45; rw [← Ny208.out] at ho45)); have n0_ := Aside0.mk (Kd.R_lower ho45 (below_size (by repeat (first | (with_reducible first | exact HB.out | apply below_alloc | apply pw_below_drewN | apply below_drew1 | refine below_set ?_ GE207.out) | exact HB.out)))); have n1_ := Aside0.mk (blk_below (g := gb207) (o := .cells #[.int .i64 a0_0, .int .i64 a0_1, .string a0_2, .slice A0_3 l0_3.length c0_3, .slice A0_4 l0_4.length c0_4] 25 (0, 0)) (by (with_reducible repeat (first | refine blk_drewN ?_ _ | refine blk_drew ?_ | refine blk_alloc ?_ _)); exact BK207.out) hb); have n2_ := Aside0.mk (below_step (by repeat (first | (with_reducible first | exact HB.out | apply below_alloc | apply pw_below_drewN | apply below_drew1 | refine below_set ?_ GE207.out) | exact HB.out)) hb); clear BK207; clear HB; have HO210 := n0_; have BK207 := n1_; have HB := n2_; clear n0_ n1_ n2_; clear hb ho45; have hcz46_0 : w44.cell? ⟨gb207, 0, none⟩ = some (.int .i64 a0_0) := (blk_cell BK207.out 0).trans rfl; have hcz46_1 : w44.cell? ⟨gb207, 1, none⟩ = some (.int .i64 a0_1) := (blk_cell BK207.out 1).trans rfl; have hcz46_2 : w44.cell? ⟨gb207, 2, none⟩ = some (.string a0_2) := (blk_cell BK207.out 2).trans rfl; have hcz46_3 : w44.cell? ⟨gb207, 3, none⟩ = some (.slice A0_3 l0_3.length c0_3) := (blk_cell BK207.out 3).trans rfl; have hcz46_4 : w44.cell? ⟨gb207, 4, none⟩ = some (.slice A0_4 l0_4.length c0_4) := (blk_cell BK207.out 4).trans rfl; have hfz46_0 := blk_frozen BK207.out 0; have hfz46_1 := blk_frozen BK207.out 1; have hfz46_2 := blk_frozen BK207.out 2; have hfz46_3 := blk_frozen BK207.out 3; have hfz46_4 := blk_frozen BK207.out 4))
          go_loopg [3, 5] k (fun kq v3 v5 w' => ∃ (x3_1 : List Int) (x5_1 : Int), v5 = .int .i64 x5_1 ∧ Aside0 (munimentref04_Plain.l1 kq x3_1 x5_1 a0_0 a0_1 a0_2 l0_3 l0_4 = some r) ∧ Aside0 (kq ≤ k) ∧ Aside0 (Kd.R (Kd.int .u8) 5 w' w.heap.size (fun _ => True) v3 x3_1) ∧ Aside0 (w'.heap[gb207]? = some (.cells #[.int .i64 a0_0, .int .i64 a0_1, .string a0_2, (.slice A0_3 l0_3.length c0_3), (.slice A0_4 l0_4.length c0_4)] 25 (0, 0))) ∧ Aside0 (Below w.heap.size w w'))
          case atStart => exact ⟨(y208), (0), (by first | rfl | (simp; done) | (simp [*]; done)), H', ⟨Nat.le_refl _⟩, ⟨by (with_reducible repeat (first | apply Kd.R_alloc | apply Kd.R_drewN | apply Kd.R_drew)); exact HO210.out⟩, ⟨by (with_reducible repeat (first | refine blk_drewN ?_ _ | refine blk_drew ?_ | refine blk_alloc ?_ _)); exact BK207.out⟩, ⟨by repeat (first | (with_reducible first | exact HB.out | apply below_alloc | apply pw_below_drewN | apply below_drew1 | refine below_set ?_ GE207.out) | exact HB.out)⟩⟩
          case round =>
            clear H'
            try clear c1
            try clear c2
            try clear c2b0
            try clear c2b1
            try clear p2
            try clear q2
            try clear hx2
            try clear c3
            try clear c4
            try clear p6
            try clear c13
            try clear c13b0
            try clear c13b1
            try clear c15
            try clear c22
            try clear p22
            try clear q22
            try clear hx22
            try clear c24
            try clear c24b0
            try clear c24b1
            try clear c26
            try clear c30
            try clear c30b0
            try clear c31
            try clear c31b0
            try clear c33
            try clear c38
            try clear c39
            try clear c41
            try clear c41b0
            try clear c41b1
            try clear hcz17_0
            try clear hcz17_1
            try clear hcz17_2
            try clear hcz17_3
            try clear hcz17_4
            try clear hcz20_0
            try clear hcz20_1
            try clear hcz20_2
            try clear hcz20_3
            try clear hcz20_4
            try clear hcz26_0
            try clear hcz26_1
            try clear hcz26_2
            try clear hcz26_3
            try clear hcz26_4
            try clear hcz29_0
            try clear hcz29_1
            try clear hcz29_2
            try clear hcz29_3
            try clear hcz29_4
            try clear hcz34_0
            try clear hcz34_1
            try clear hcz34_2
            try clear hcz34_3
            try clear hcz34_4
            try clear hcz39_0
            try clear hcz39_1
            try clear hcz39_2
            try clear hcz39_3
            try clear hcz39_4
            try clear hcz43_0
            try clear hcz43_1
            try clear hcz43_2
            try clear hcz43_3
            try clear hcz43_4
            try clear hcz46_0
            try clear hcz46_1
            try clear hcz46_2
            try clear hcz46_3
            try clear hcz46_4
            try clear hcz6_0
            try clear hcz6_1
            try clear hcz6_2
            try clear hcz6_3
            try clear hcz6_4
            try clear hcz9_0
            try clear hcz9_1
            try clear hcz9_2
            try clear hcz9_3
            try clear hcz9_4
            try clear hfz17_0
            try clear hfz17_1
            try clear hfz17_2
            try clear hfz17_3
            try clear hfz17_4
            try clear hfz20_0
            try clear hfz20_1
            try clear hfz20_2
            try clear hfz20_3
            try clear hfz20_4
            try clear hfz26_0
            try clear hfz26_1
            try clear hfz26_2
            try clear hfz26_3
            try clear hfz26_4
            try clear hfz29_0
            try clear hfz29_1
            try clear hfz29_2
            try clear hfz29_3
            try clear hfz29_4
            try clear hfz34_0
            try clear hfz34_1
            try clear hfz34_2
            try clear hfz34_3
            try clear hfz34_4
            try clear hfz39_0
            try clear hfz39_1
            try clear hfz39_2
            try clear hfz39_3
            try clear hfz39_4
            try clear hfz43_0
            try clear hfz43_1
            try clear hfz43_2
            try clear hfz43_3
            try clear hfz43_4
            try clear hfz46_0
            try clear hfz46_1
            try clear hfz46_2
            try clear hfz46_3
            try clear hfz46_4
            try clear hfz6_0
            try clear hfz6_1
            try clear hfz6_2
            try clear hfz6_3
            try clear hfz6_4
            try clear hfz9_0
            try clear hfz9_1
            try clear hfz9_2
            try clear hfz9_3
            try clear hfz9_4
            try clear hx223_0
            try clear hx223_1
            try clear hx223_2
            try clear hx223_3
            try clear hx223_4
            try clear p2
            try clear p223
            try clear p6
            try clear q223
            obtain ⟨x3_1, x5_1, rfl, HA, HK1, HO_3, BK207, HB⟩ := hrel
            cases gk with
            | zero => exact absurd HA.out (by simp [munimentref04_Plain.l1])
            | succ k1 =>
              have H := HA.out
              clear HA
              simp only [munimentref04_Plain.l1] at H
              by_cases c47 : x5_1 < (l0_4.length : Int)
              · rw [if_pos c47] at H
                have c47b0 : decide (x5_1 < (l0_4.length : Int)) = true := decide_eq_true c47
                clear c47
                by_cases c48 : x3_1.length < 140737488355328
                · rw [if_pos c48] at H
                  have LMc48 := Aside0.mk c48
                  clear c48
                  obtain ⟨y233, hy233⟩ : ∃ y_ : List Int, y_ = (x3_1 ++ [1]) := ⟨_, rfl⟩
                  replace H : (if 0 ≤ x5_1 then (if x5_1 < (l0_3.length : Int) then ((munimentref04_Text.f k1 (rdOf ByteArray.empty l0_3 x5_1)).bind fun t237 => (if y233.length + t237.length < 140737488355328 then ((some (y233 ++ t237 : List Int)).bind fun y240 => ((munimentref04_Plain.f k1 ((rd_T25 l0_4 x5_1).f0) ((rd_T25 l0_4 x5_1).f1) ((rd_T25 l0_4 x5_1).f2) ((rd_T25 l0_4 x5_1).f3) ((rd_T25 l0_4 x5_1).f4)).bind fun t244 => (if y240.length + t244.length < 140737488355328 then (munimentref04_Plain.l1 k1 (y240 ++ t244) (wrap64 (x5_1 + 1)) a0_0 a0_1 a0_2 l0_3 l0_4) else (none)))) else (none))) else (none)) else (none)) = some r := by first | (rw [hy233]; with_reducible exact H) | (have H2_ := (Option.bind_some _ _).symm.trans H; rw [hy233]; with_reducible exact H2_) | (have H2_ := (Option.bind_some _ _).symm.trans H; with_reducible exact H2_) | with_reducible exact H | (rw [hy233]; exact H) | exact H
                  have Ny233 := Aside0.mk hy233
                  clear hy233
                  by_cases c49 : 0 ≤ x5_1
                  · rw [if_pos c49] at H
                    have c49b0 : decide (0 ≤ x5_1) = true := decide_eq_true c49
                    clear c49
                    by_cases c50 : x5_1 < (l0_3.length : Int)
                    · rw [if_pos c50] at H
                      have c50b0 : decide (x5_1 < (l0_3.length : Int)) = true := decide_eq_true c50
                      clear c50
                      replace H := Option.bind_eq_some_iff.mp H
                      obtain ⟨t237, A510, H⟩ := H
                      replace H : (if y233.length + t237.length < 140737488355328 then ((some (y233 ++ t237 : List Int)).bind fun y240 => ((munimentref04_Plain.f k1 ((rd_T25 l0_4 x5_1).f0) ((rd_T25 l0_4 x5_1).f1) ((rd_T25 l0_4 x5_1).f2) ((rd_T25 l0_4 x5_1).f3) ((rd_T25 l0_4 x5_1).f4)).bind fun t244 => (if y240.length + t244.length < 140737488355328 then (munimentref04_Plain.l1 k1 (y240 ++ t244) (wrap64 (x5_1 + 1)) a0_0 a0_1 a0_2 l0_3 l0_4) else (none)))) else (none)) = some r := H
                      have A51 := Aside0.mk A510
                      clear A510
                      by_cases c52 : y233.length + t237.length < 140737488355328
                      · rw [if_pos c52] at H
                        have LMc52 := Aside0.mk c52
                        clear c52
                        obtain ⟨y240, hy240⟩ : ∃ y_ : List Int, y_ = (y233 ++ t237) := ⟨_, rfl⟩
                        replace H : ((munimentref04_Plain.f k1 ((rd_T25 l0_4 x5_1).f0) ((rd_T25 l0_4 x5_1).f1) ((rd_T25 l0_4 x5_1).f2) ((rd_T25 l0_4 x5_1).f3) ((rd_T25 l0_4 x5_1).f4)).bind fun t244 => (if y240.length + t244.length < 140737488355328 then (munimentref04_Plain.l1 k1 (y240 ++ t244) (wrap64 (x5_1 + 1)) a0_0 a0_1 a0_2 l0_3 l0_4) else (none))) = some r := by first | (rw [hy240]; with_reducible exact H) | (have H2_ := (Option.bind_some _ _).symm.trans H; rw [hy240]; with_reducible exact H2_) | (have H2_ := (Option.bind_some _ _).symm.trans H; with_reducible exact H2_) | with_reducible exact H | (rw [hy240]; exact H) | exact H
                        have Ny240 := Aside0.mk hy240
                        clear hy240
                        replace H := Option.bind_eq_some_iff.mp H
                        obtain ⟨t244, A530, H⟩ := H
                        replace H : (if y240.length + t244.length < 140737488355328 then (munimentref04_Plain.l1 k1 (y240 ++ t244) (wrap64 (x5_1 + 1)) a0_0 a0_1 a0_2 l0_3 l0_4) else (none)) = some r := H
                        have A53 := Aside0.mk A530
                        clear A530
                        by_cases c54 : y240.length + t244.length < 140737488355328
                        · rw [if_pos c54] at H
                          have LMc54 := Aside0.mk c54
                          clear c54
                          obtain ⟨y247, hy247⟩ : ∃ y_ : List Int, y_ = (y240 ++ t244) := ⟨_, rfl⟩
                          replace H : (munimentref04_Plain.l1 k1 y247 (wrap64 (x5_1 + 1)) a0_0 a0_1 a0_2 l0_3 l0_4) = some r := by first | (rw [hy247]; with_reducible exact H) | (have H2_ := (Option.bind_some _ _).symm.trans H; rw [hy247]; with_reducible exact H2_) | (have H2_ := (Option.bind_some _ _).symm.trans H; with_reducible exact H2_) | with_reducible exact H | (rw [hy247]; exact H) | exact H
                          have Ny247 := Aside0.mk hy247
                          clear hy247
                          have H' := Aside0.mk H
                          clear H
                          have hcz55_0 : wr.cell? ⟨gb207, 0, none⟩ = some (.int .i64 a0_0) := (blk_cell BK207.out 0).trans rfl
                          have hcz55_1 : wr.cell? ⟨gb207, 1, none⟩ = some (.int .i64 a0_1) := (blk_cell BK207.out 1).trans rfl
                          have hcz55_2 : wr.cell? ⟨gb207, 2, none⟩ = some (.string a0_2) := (blk_cell BK207.out 2).trans rfl
                          have hcz55_3 : wr.cell? ⟨gb207, 3, none⟩ = some (.slice A0_3 l0_3.length c0_3) := (blk_cell BK207.out 3).trans rfl
                          have hcz55_4 : wr.cell? ⟨gb207, 4, none⟩ = some (.slice A0_4 l0_4.length c0_4) := (blk_cell BK207.out 4).trans rfl
                          have hfz55_0 := blk_frozen BK207.out 0
                          have hfz55_1 := blk_frozen BK207.out 1
                          have hfz55_2 := blk_frozen BK207.out 2
                          have hfz55_3 := blk_frozen BK207.out 3
                          have hfz55_4 := blk_frozen BK207.out 4
                          go_wp2_with (first | ((with_reducible refine gate_builtin (b := .append) (xs := #[.tmp 58, .tmp 59]) rfl ?_); at_builtin; refine Kd.R_append (Kd.int .u8) (w0 := w) w.heap.size rfl (.tmp 58) (.tmp 59) 28 5 (.int .u8 0) 1 rfl Tryd.underlying28 info5 rfl (by decide) (by omega) u3 x3_1 1 [.int .u8 1] (fun _ => True) (fun _ => False) rfl rfl ?aP (fun _ hk => hk.elim) ?aF ?aO ?aB ?aS ?aL ?_; (case aP => exact rfl); (case aB => exact (by repeat (first | (with_reducible first | exact HB.out | apply below_alloc | apply pw_below_drewN | apply below_drew1 | refine below_set ?_ GE207.out) | exact HB.out))); (case aF => exact (fun _ _ => trivial)); (case aO => exact (by (with_reducible repeat (first | apply Kd.R_alloc | apply Kd.R_drewN | apply Kd.R_drew)); exact HO_3.out)); (case aS => exact (below_size (by repeat (first | (with_reducible first | exact HB.out | apply below_alloc | apply pw_below_drewN | apply below_drew1 | refine below_set ?_ GE207.out) | exact HB.out)))); (case aL => have := LMc48.out; omega); intro v234 w56 ho hb hg hat; rw [← Ny233.out] at ho; have n0_ := Aside0.mk (blk_grown (g := gb207) (o := .cells #[.int .i64 a0_0, .int .i64 a0_1, .string a0_2, .slice A0_3 l0_3.length c0_3, .slice A0_4 l0_4.length c0_4] 25 (0, 0)) (by (with_reducible repeat (first | refine blk_drewN ?_ _ | refine blk_drew ?_ | refine blk_alloc ?_ _)); exact BK207.out) hg (Kd.R_ne HO_3.out BK207.out (by decide))); have n1_ := Aside0.mk (hb); have n2_ := Aside0.mk (ho); clear BK207; clear HB; clear HO_3; have BK207 := n0_; have HB := n1_; have HO235 := n2_; clear n0_ n1_ n2_; clear ho hb hg hat; have hcz57_0 : w56.cell? ⟨gb207, 0, none⟩ = some (.int .i64 a0_0) := (blk_cell BK207.out 0).trans rfl; have hcz57_1 : w56.cell? ⟨gb207, 1, none⟩ = some (.int .i64 a0_1) := (blk_cell BK207.out 1).trans rfl; have hcz57_2 : w56.cell? ⟨gb207, 2, none⟩ = some (.string a0_2) := (blk_cell BK207.out 2).trans rfl; have hcz57_3 : w56.cell? ⟨gb207, 3, none⟩ = some (.slice A0_3 l0_3.length c0_3) := (blk_cell BK207.out 3).trans rfl; have hcz57_4 : w56.cell? ⟨gb207, 4, none⟩ = some (.slice A0_4 l0_4.length c0_4) := (blk_cell BK207.out 4).trans rfl; have hfz57_0 := blk_frozen BK207.out 0; have hfz57_1 := blk_frozen BK207.out 1; have hfz57_2 := blk_frozen BK207.out 2; have hfz57_3 := blk_frozen BK207.out 3; have hfz57_4 := blk_frozen BK207.out 4; have p236 : 0 ≤ (x5_1 : Int) := of_decide_eq_true (by first | (with_reducible assumption) | assumption); have q236 : x5_1 < (l0_3.length : Int) := of_decide_eq_true (by first | (with_reducible assumption) | assumption); obtain ⟨ad236, e236, hx236_0⟩ := Kd.at_string HR0_3.out x5_1 p236 q236; cases e236; replace hx236_0 := (HB.out.cell (World.block_lt_of_cell? w _ hx236_0)).trans hx236_0; replace p236 := eq_true p236; replace q236 := eq_true q236) | ((with_reducible refine gate_callee (f := 39) rfl ?_); refine goesL_ (some 67) rfl rfl Tryd.func39 (by kernel_rfl) rfl #[.string (rdOf ByteArray.empty l0_3 x5_1)] rfl (by (try simp only [List.map_toArray, List.map_cons, List.map_nil]); first | done | rfl | (simp only [List.length_drop, List.length_take]; rfl)) ?_; (with_reducible refine (munimentref04_Text.calls k1 (rdOf ByteArray.empty l0_3 x5_1) t237 _ A51.out).mono ?_); rintro e w58 ⟨v238, rfl, ho0, hb⟩; refine ⟨_, rfl, ?_⟩; have n0_ := Aside0.mk (Kd.R_elder' (by (with_reducible repeat (first | apply Kd.R_alloc | apply Kd.R_drewN | apply Kd.R_drew)); exact HO235.out) (Kd.R_base ho0) hb); have n1_ := Aside0.mk (Kd.R_lower (Kd.R_new' ho0 (Kd.R_lt (by (with_reducible repeat (first | apply Kd.R_alloc | apply Kd.R_drewN | apply Kd.R_drew)); exact HO235.out))) (below_size (by repeat (first | (with_reducible first | exact HB.out | apply below_alloc | apply pw_below_drewN | apply below_drew1 | refine below_set ?_ GE207.out) | exact HB.out)))); have n2_ := Aside0.mk (blk_below (g := gb207) (o := .cells #[.int .i64 a0_0, .int .i64 a0_1, .string a0_2, .slice (some ad236) l0_3.length c0_3, .slice A0_4 l0_4.length c0_4] 25 (0, 0)) (by (with_reducible repeat (first | refine blk_drewN ?_ _ | refine blk_drew ?_ | refine blk_alloc ?_ _)); exact BK207.out) hb); have n3_ := Aside0.mk (below_step (by repeat (first | (with_reducible first | exact HB.out | apply below_alloc | apply pw_below_drewN | apply below_drew1 | refine below_set ?_ GE207.out) | exact HB.out)) hb); clear HO235; clear BK207; clear HB; have HO235 := n0_; have HO239 := n1_; have BK207 := n2_; have HB := n3_; clear n0_ n1_ n2_ n3_; (try clear hb); (try clear hb2); (try clear hk); (try clear hi); (try clear ho0); obtain ⟨Ao60, co60, eo60⟩ := Kd.R_slice HO239.out; subst eo60) | ((with_reducible refine gate_builtin (b := .append) (xs := #[.tmp 61, .tmp 67]) rfl ?_); at_builtin; refine Kd.R_append_rows (Kd.int .u8) (w0 := w) w.heap.size rfl (.tmp 61) (.tmp 67) 28 5 (.int .u8 0) 1 rfl Tryd.underlying28 info5 rfl (by decide) (by omega) v234 y233 t237 _ _ _ (fun k_ => some k_ ≠ (.slice Ao60 t237.length co60 : Value).ownBlock) (fun _ => False) rfl rfl ?aO ?aR (fun _ _ h => h) (fun _ h => h.elim) ?aF ?aB ?aS ?aL ?_; (case aR => repeat (first | exact (Kd.R_reads' HO239.out).2.2 | (with_reducible refine Kd.C_alloc ?_ _) | (with_reducible refine Kd.C_drewN ?_ _) | (with_reducible refine Kd.C_drew ?_))); (case aB => exact (by repeat (first | (with_reducible first | exact HB.out | apply below_alloc | apply pw_below_drewN | apply below_drew1 | refine below_set ?_ GE207.out) | exact HB.out))); (case aF => exact (fun k_ hk => Kd.fresh' (Kd.R_lt (by (with_reducible repeat (first | apply Kd.R_alloc | apply Kd.R_drewN | apply Kd.R_drew)); exact HO239.out)) k_ hk)); (case aO => exact (by (with_reducible repeat (first | apply Kd.R_alloc | apply Kd.R_drewN | apply Kd.R_drew)); exact Kd.R_mono HO235.out (fun _ hk => hk.2))); (case aS => exact (below_size (by repeat (first | (with_reducible first | exact HB.out | apply below_alloc | apply pw_below_drewN | apply below_drew1 | refine below_set ?_ GE207.out) | exact HB.out)))); (case aL => have := LMc52.out; omega); intro v241 w59 ho hb hg hat; rw [← Ny240.out] at ho; have n0_ := Aside0.mk (blk_grown (g := gb207) (o := .cells #[.int .i64 a0_0, .int .i64 a0_1, .string a0_2, .slice (some ad236) l0_3.length c0_3, .slice A0_4 l0_4.length c0_4] 25 (0, 0)) (by (with_reducible repeat (first | refine blk_drewN ?_ _ | refine blk_drew ?_ | refine blk_alloc ?_ _)); exact BK207.out) hg (Kd.R_ne HO235.out BK207.out (by decide))); have n1_ := Aside0.mk (Kd.R_after (ok := (fun _ => True)) (by (with_reducible repeat (first | apply Kd.R_alloc | apply Kd.R_drewN | apply Kd.R_drew)); exact HO239.out) hg hat); have n2_ := Aside0.mk (hb); have n3_ := Aside0.mk (ho); clear BK207; clear HO239; clear HB; clear HO235; have BK207 := n0_; have HO239 := n1_; have HB := n2_; have HO242 := n3_; clear n0_ n1_ n2_ n3_; clear ho hb hg hat; have hcz61_0 : w59.cell? ⟨gb207, 0, none⟩ = some (.int .i64 a0_0) := (blk_cell BK207.out 0).trans rfl; have hcz61_1 : w59.cell? ⟨gb207, 1, none⟩ = some (.int .i64 a0_1) := (blk_cell BK207.out 1).trans rfl; have hcz61_2 : w59.cell? ⟨gb207, 2, none⟩ = some (.string a0_2) := (blk_cell BK207.out 2).trans rfl; have hcz61_3 : w59.cell? ⟨gb207, 3, none⟩ = some (.slice (some ad236) l0_3.length c0_3) := (blk_cell BK207.out 3).trans rfl; have hcz61_4 : w59.cell? ⟨gb207, 4, none⟩ = some (.slice A0_4 l0_4.length c0_4) := (blk_cell BK207.out 4).trans rfl; have hfz61_0 := blk_frozen BK207.out 0; have hfz61_1 := blk_frozen BK207.out 1; have hfz61_2 := blk_frozen BK207.out 2; have hfz61_3 := blk_frozen BK207.out 3; have hfz61_4 := blk_frozen BK207.out 4; have p243 : 0 ≤ (x5_1 : Int) := of_decide_eq_true (by first | (with_reducible assumption) | assumption); have q243 : x5_1 < (l0_4.length : Int) := of_decide_eq_true (by first | (with_reducible assumption) | assumption); obtain ⟨ad243, A243_3, c243_3, A243_4, c243_4, e243, hx243_0, hx243_1, hx243_2, hx243_3, hx243_4, hl243_3, hi243_3, hl243_4, hi243_4⟩ := at_T25 HR0_4.out x5_1 p243 q243; cases e243; replace hx243_0 := (HB.out.cell (World.block_lt_of_cell? w _ hx243_0)).trans hx243_0; replace hx243_1 := (HB.out.cell (World.block_lt_of_cell? w _ hx243_1)).trans hx243_1; replace hx243_2 := (HB.out.cell (World.block_lt_of_cell? w _ hx243_2)).trans hx243_2; replace hx243_3 := (HB.out.cell (World.block_lt_of_cell? w _ hx243_3)).trans hx243_3; replace hx243_4 := (HB.out.cell (World.block_lt_of_cell? w _ hx243_4)).trans hx243_4; have HR243_3 := Aside0.mk hi243_3; have HC243_3 := Aside0.mk hl243_3; clear hi243_3 hl243_3; have HR243_4 := Aside0.mk hi243_4; have HC243_4 := Aside0.mk hl243_4; clear hi243_4 hl243_4; replace p243 := eq_true p243; replace q243 := eq_true q243) | ((with_reducible refine gate_callee (f := 26) rfl ?_); refine goesL_ (some 75) rfl rfl Tryd.func26 (by kernel_rfl) rfl #[.agg #[.int .i64 ((rd_T25 l0_4 x5_1).f0), .int .i64 ((rd_T25 l0_4 x5_1).f1), .string ((rd_T25 l0_4 x5_1).f2), .slice A243_3 ((rd_T25 l0_4 x5_1).f3).length c243_3, .slice A243_4 ((rd_T25 l0_4 x5_1).f4).length c243_4]] rfl (by (try simp only [List.map_toArray, List.map_cons, List.map_nil]); first | done | rfl | (simp only [List.length_drop, List.length_take]; rfl)) ?_; (with_reducible refine (ih k1 (by have := HK1.out; omega) ((rd_T25 l0_4 x5_1).f0) ((rd_T25 l0_4 x5_1).f1) ((rd_T25 l0_4 x5_1).f2) _ _ ((rd_T25 l0_4 x5_1).f3) _ _ ((rd_T25 l0_4 x5_1).f4) t244 _ ?side1 ?side2 ?side3 ?side4 A53.out).mono ?_); (case side1 => repeat (first | exact (Kd.C_below HR243_3.out HB.out) | (with_reducible refine Kd.C_alloc ?_ _) | (with_reducible refine Kd.C_drewN ?_ _) | (with_reducible refine Kd.C_drew ?_))); (case side2 => exact HC243_3.out); (case side3 => repeat (first | exact (Kd.C_below HR243_4.out HB.out) | (with_reducible refine Kd.C_alloc ?_ _) | (with_reducible refine Kd.C_drewN ?_ _) | (with_reducible refine Kd.C_drew ?_))); (case side4 => exact HC243_4.out); rintro e w62 ⟨v245, rfl, ho0, hb⟩; refine ⟨_, rfl, ?_⟩; have n0_ := Aside0.mk (Kd.R_elder' (by (with_reducible repeat (first | apply Kd.R_alloc | apply Kd.R_drewN | apply Kd.R_drew)); exact HO239.out) (Kd.R_base ho0) hb); have n1_ := Aside0.mk (Kd.R_elder' (by (with_reducible repeat (first | apply Kd.R_alloc | apply Kd.R_drewN | apply Kd.R_drew)); exact HO242.out) (Kd.R_base ho0) hb); have n2_ := Aside0.mk (Kd.R_lower (Kd.R_new' (Kd.R_new' ho0 (Kd.R_lt (by (with_reducible repeat (first | apply Kd.R_alloc | apply Kd.R_drewN | apply Kd.R_drew)); exact HO239.out))) (Kd.R_lt (by (with_reducible repeat (first | apply Kd.R_alloc | apply Kd.R_drewN | apply Kd.R_drew)); exact HO242.out))) (below_size (by repeat (first | (with_reducible first | exact HB.out | apply below_alloc | apply pw_below_drewN | apply below_drew1 | refine below_set ?_ GE207.out) | exact HB.out)))); have n3_ := Aside0.mk (blk_below (g := gb207) (o := .cells #[.int .i64 a0_0, .int .i64 a0_1, .string a0_2, .slice (some ad236) l0_3.length c0_3, .slice (some ad243) l0_4.length c0_4] 25 (0, 0)) (by (with_reducible repeat (first | refine blk_drewN ?_ _ | refine blk_drew ?_ | refine blk_alloc ?_ _)); exact BK207.out) hb); have n4_ := Aside0.mk (below_step (by repeat (first | (with_reducible first | exact HB.out | apply below_alloc | apply pw_below_drewN | apply below_drew1 | refine below_set ?_ GE207.out) | exact HB.out)) hb); clear HO239; clear HO242; clear BK207; clear HB; have HO239 := n0_; have HO242 := n1_; have HO246 := n2_; have BK207 := n3_; have HB := n4_; clear n0_ n1_ n2_ n3_ n4_; (try clear hb); (try clear hb2); (try clear hk); (try clear hi); (try clear ho0); obtain ⟨Ao64, co64, eo64⟩ := Kd.R_slice HO246.out; subst eo64) | ((with_reducible refine gate_builtin (b := .append) (xs := #[.tmp 69, .tmp 75]) rfl ?_); at_builtin; refine Kd.R_append_rows (Kd.int .u8) (w0 := w) w.heap.size rfl (.tmp 69) (.tmp 75) 28 5 (.int .u8 0) 1 rfl Tryd.underlying28 info5 rfl (by decide) (by omega) v241 y240 t244 _ _ _ (fun k_ => some k_ ≠ (.slice Ao60 t237.length co60 : Value).ownBlock ∧ some k_ ≠ (.slice Ao64 t244.length co64 : Value).ownBlock) (fun _ => False) rfl rfl ?aO ?aR (fun _ _ h => h) (fun _ h => h.elim) ?aF ?aB ?aS ?aL ?_; (case aR => repeat (first | exact (Kd.R_reads' HO246.out).2.2 | (with_reducible refine Kd.C_alloc ?_ _) | (with_reducible refine Kd.C_drewN ?_ _) | (with_reducible refine Kd.C_drew ?_))); (case aB => exact (by repeat (first | (with_reducible first | exact HB.out | apply below_alloc | apply pw_below_drewN | apply below_drew1 | refine below_set ?_ GE207.out) | exact HB.out))); (case aF => exact (fun k_ hk => ⟨Kd.fresh' (Kd.R_lt (by (with_reducible repeat (first | apply Kd.R_alloc | apply Kd.R_drewN | apply Kd.R_drew)); exact HO239.out)) k_ hk, Kd.fresh' (Kd.R_lt (by (with_reducible repeat (first | apply Kd.R_alloc | apply Kd.R_drewN | apply Kd.R_drew)); exact HO246.out)) k_ hk⟩)); (case aO => exact (by (with_reducible repeat (first | apply Kd.R_alloc | apply Kd.R_drewN | apply Kd.R_drew)); exact HO242.out)); (case aS => exact (below_size (by repeat (first | (with_reducible first | exact HB.out | apply below_alloc | apply pw_below_drewN | apply below_drew1 | refine below_set ?_ GE207.out) | exact HB.out)))); (case aL => have := LMc54.out; omega); intro v248 w63 ho hb hg hat; rw [← Ny247.out] at ho; have n0_ := Aside0.mk (blk_grown (g := gb207) (o := .cells #[.int .i64 a0_0, .int .i64 a0_1, .string a0_2, .slice (some ad236) l0_3.length c0_3, .slice (some ad243) l0_4.length c0_4] 25 (0, 0)) (by (with_reducible repeat (first | refine blk_drewN ?_ _ | refine blk_drew ?_ | refine blk_alloc ?_ _)); exact BK207.out) hg (Kd.R_ne HO242.out BK207.out (by decide))); have n1_ := Aside0.mk (Kd.R_after (ok := (fun k_ => some k_ ≠ (.slice Ao64 t244.length co64 : Value).ownBlock)) (by (with_reducible repeat (first | apply Kd.R_alloc | apply Kd.R_drewN | apply Kd.R_drew)); exact Kd.R_mono HO239.out (fun _ hk => ⟨hk.2, hk.1.2⟩)) hg hat); have n2_ := Aside0.mk (Kd.R_after (ok := (fun k_ => some k_ ≠ (.slice Ao60 t237.length co60 : Value).ownBlock)) (by (with_reducible repeat (first | apply Kd.R_alloc | apply Kd.R_drewN | apply Kd.R_drew)); exact Kd.R_mono HO246.out (fun _ hk => ⟨hk.1.2, hk.2⟩)) hg hat); have n3_ := Aside0.mk (hb); have n4_ := Aside0.mk (ho); clear BK207; clear HO239; clear HO246; clear HB; clear HO242; have BK207 := n0_; have HO239 := n1_; have HO246 := n2_; have HB := n3_; have HO249 := n4_; clear n0_ n1_ n2_ n3_ n4_; clear ho hb hg hat))
                          go_roundg k1
                          case measure => have := HK1.out; omega
                          case rel => exact ⟨(y247), (wrap64 (x5_1 + 1)), (by first | rfl | (simp; done) | (simp [*]; done)), H', ⟨by have := HK1.out; omega⟩, ⟨by (with_reducible repeat (first | apply Kd.R_alloc | apply Kd.R_drewN | apply Kd.R_drew)); exact Kd.R_mono HO249.out (fun _ hk => trivial)⟩, ⟨by (with_reducible repeat (first | refine blk_drewN ?_ _ | refine blk_drew ?_ | refine blk_alloc ?_ _)); exact BK207.out⟩, ⟨by repeat (first | (with_reducible first | exact HB.out | apply below_alloc | apply pw_below_drewN | apply below_drew1 | refine below_set ?_ GE207.out) | exact HB.out)⟩⟩
                        · rw [if_neg c54] at H
                          exact absurd H (by simp)
                      · rw [if_neg c52] at H
                        exact absurd H (by simp)
                    · rw [if_neg c50] at H
                      exact absurd H (by simp)
                  · rw [if_neg c49] at H
                    exact absurd H (by simp)
                · rw [if_neg c48] at H
                  exact absurd H (by simp)
              · rw [if_neg c47] at H
                have c47b0 : decide (x5_1 < (l0_4.length : Int)) = false := decide_eq_false c47
                clear c47
                by_cases c65 : x3_1.length < 140737488355328
                · rw [if_pos c65] at H
                  have LMc65 := Aside0.mk c65
                  clear c65
                  obtain ⟨y250, hy250⟩ : ∃ y_ : List Int, y_ = (x3_1 ++ [0]) := ⟨_, rfl⟩
                  replace H : (some y250) = some r := by first | (rw [hy250]; with_reducible exact H) | (have H2_ := (Option.bind_some _ _).symm.trans H; rw [hy250]; with_reducible exact H2_) | (have H2_ := (Option.bind_some _ _).symm.trans H; with_reducible exact H2_) | with_reducible exact H | (rw [hy250]; exact H) | exact H
                  have Ny250 := Aside0.mk hy250
                  clear hy250
                  obtain rfl := Option.some.inj H
                  have hcz66_0 : wr.cell? ⟨gb207, 0, none⟩ = some (.int .i64 a0_0) := (blk_cell BK207.out 0).trans rfl
                  have hcz66_1 : wr.cell? ⟨gb207, 1, none⟩ = some (.int .i64 a0_1) := (blk_cell BK207.out 1).trans rfl
                  have hcz66_2 : wr.cell? ⟨gb207, 2, none⟩ = some (.string a0_2) := (blk_cell BK207.out 2).trans rfl
                  have hcz66_3 : wr.cell? ⟨gb207, 3, none⟩ = some (.slice A0_3 l0_3.length c0_3) := (blk_cell BK207.out 3).trans rfl
                  have hcz66_4 : wr.cell? ⟨gb207, 4, none⟩ = some (.slice A0_4 l0_4.length c0_4) := (blk_cell BK207.out 4).trans rfl
                  have hfz66_0 := blk_frozen BK207.out 0
                  have hfz66_1 := blk_frozen BK207.out 1
                  have hfz66_2 := blk_frozen BK207.out 2
                  have hfz66_3 := blk_frozen BK207.out 3
                  have hfz66_4 := blk_frozen BK207.out 4
                  go_wp2_with (first | ((with_reducible refine gate_builtin (b := .append) (xs := #[.tmp 77, .tmp 78]) rfl ?_); at_builtin; refine Kd.R_append (Kd.int .u8) (w0 := w) w.heap.size rfl (.tmp 77) (.tmp 78) 28 5 (.int .u8 0) 1 rfl Tryd.underlying28 info5 rfl (by decide) (by omega) u3 x3_1 0 [.int .u8 0] (fun _ => True) (fun _ => False) rfl rfl ?aP (fun _ hk => hk.elim) ?aF ?aO ?aB ?aS ?aL ?_; (case aP => exact rfl); (case aB => exact (by repeat (first | (with_reducible first | exact HB.out | apply below_alloc | apply pw_below_drewN | apply below_drew1 | refine below_set ?_ GE207.out) | exact HB.out))); (case aF => exact (fun _ _ => trivial)); (case aO => exact (by (with_reducible repeat (first | apply Kd.R_alloc | apply Kd.R_drewN | apply Kd.R_drew)); exact HO_3.out)); (case aS => exact (below_size (by repeat (first | (with_reducible first | exact HB.out | apply below_alloc | apply pw_below_drewN | apply below_drew1 | refine below_set ?_ GE207.out) | exact HB.out)))); (case aL => have := LMc65.out; omega); intro v251 w67 ho hb hg hat; rw [← Ny250.out] at ho; have n0_ := Aside0.mk (blk_grown (g := gb207) (o := .cells #[.int .i64 a0_0, .int .i64 a0_1, .string a0_2, .slice A0_3 l0_3.length c0_3, .slice A0_4 l0_4.length c0_4] 25 (0, 0)) (by (with_reducible repeat (first | refine blk_drewN ?_ _ | refine blk_drew ?_ | refine blk_alloc ?_ _)); exact BK207.out) hg (Kd.R_ne HO_3.out BK207.out (by decide))); have n1_ := Aside0.mk (hb); have n2_ := Aside0.mk (ho); clear BK207; clear HB; clear HO_3; have BK207 := n0_; have HB := n1_; have HO252 := n2_; clear n0_ n1_ n2_; clear ho hb hg hat))
                  go_ret
                  exact ⟨_, by first | rfl | (simp [errW_none, errW_some] <;> rfl) | (simp [*, errW_none, errW_some] <;> rfl), by (with_reducible repeat (first | apply Kd.R_alloc | apply Kd.R_drewN | apply Kd.R_drew)); exact HO252.out, by repeat (first | (with_reducible first | exact HB.out | apply below_alloc | apply pw_below_drewN | apply below_drew1 | refine below_set ?_ GE207.out) | exact HB.out)⟩
                · rw [if_neg c65] at H
                  exact absurd H (by simp)
        · rw [if_neg c41] at H
          have c41b0 : (a0_0 == 6) = false := beq_eq_false_iff_ne.mpr c41
          have c41b1 : (a0_0 != 6) = true := bne_iff_ne.mpr c41
          obtain rfl := Option.some.inj H
          go_enter Tryd.func26, Tryd.ntmps26
          go_wp2_with (first | ((with_reducible refine gate_dst (N := 1) rfl ?_); refine box_event ?hg (N := 1) ?hd (cs := #[.int .i64 a0_0, .int .i64 a0_1, .string a0_2, .slice A0_3 l0_3.length c0_3, .slice A0_4 l0_4.length c0_4]) (t := 25) ?hr ?_; (case hd => rfl); (case hg => rfl); (case hr => first | (go_simp; done) | (go_simp; rfl)); intro gb207 hg w68 hbox hb; have n0_ := Aside0.mk (below_step (by repeat (first | (with_reducible first | exact HB.out | apply below_alloc | apply pw_below_drewN | apply below_drew1) | exact HB.out)) hb); have n1_ := Aside0.mk (hbox); have n2_ := Aside0.mk ((by rw [hg]; exact (below_size (by repeat (first | (with_reducible first | exact HB.out | apply below_alloc | apply pw_below_drewN | apply below_drew1) | exact HB.out))) : w.heap.size ≤ gb207)); have n3_ := Aside0.mk ((by rw [hg]; exact (below_size (by repeat (first | (with_reducible first | exact HB.out | apply below_alloc | apply pw_below_drewN | apply below_drew1) | exact HB.out))) : w.heap.size ≤ gb207)); clear HB; have HB := n0_; have BK207 := n1_; have GW207 := n2_; have GE207 := n3_; clear n0_ n1_ n2_ n3_; clear hb hbox hg; have hcz69_0 : w68.cell? ⟨gb207, 0, none⟩ = some (.int .i64 a0_0) := (blk_cell BK207.out 0).trans rfl; have hcz69_1 : w68.cell? ⟨gb207, 1, none⟩ = some (.int .i64 a0_1) := (blk_cell BK207.out 1).trans rfl; have hcz69_2 : w68.cell? ⟨gb207, 2, none⟩ = some (.string a0_2) := (blk_cell BK207.out 2).trans rfl; have hcz69_3 : w68.cell? ⟨gb207, 3, none⟩ = some (.slice A0_3 l0_3.length c0_3) := (blk_cell BK207.out 3).trans rfl; have hcz69_4 : w68.cell? ⟨gb207, 4, none⟩ = some (.slice A0_4 l0_4.length c0_4) := (blk_cell BK207.out 4).trans rfl; have hfz69_0 := blk_frozen BK207.out 0; have hfz69_1 := blk_frozen BK207.out 1; have hfz69_2 := blk_frozen BK207.out 2; have hfz69_3 := blk_frozen BK207.out 3; have hfz69_4 := blk_frozen BK207.out 4) | ((with_reducible refine gate_dst (N := 10) rfl ?_); refine Kd.R_lit (Kd.int .u8) _ 5 ?hg (N := 10) ?hd (xs := ([(wrap64 (a0_0 + 1)) % 256] : List Int)) (inner := [.int .u8 ((wrap64 (a0_0 + 1)) % 256)]) (ok := fun _ => True) (okp := fun _ => True) ?hr ?hp (fun _ hk => hk) trivial (Below.refl _ _) (Nat.le_refl _) (by simp) ?_; (case hd => rfl); (case hg => rfl); (case hr => first | (go_simp; done) | (go_simp; rfl)); (case hp => exact (Reps.one (show Kd.M (Kd.int .u8) _ _ _ ((wrap64 (a0_0 + 1)) % 256) [.int .u8 ((wrap64 (a0_0 + 1)) % 256)] from rfl) (Reps.none _ _))); intro v209 w70 ho71 hb hg_ hnew_; clear hg_ hnew_; (first | rw [← Ny208.out] at ho71 | (simp only [Int.reduceToNat] at ho71; rw [← Ny208.out] at ho71)); have n0_ := Aside0.mk (Kd.R_lower ho71 (below_size (by repeat (first | (with_reducible first | exact HB.out | apply below_alloc | apply pw_below_drewN | apply below_drew1 | refine below_set ?_ GE207.out) | exact HB.out)))); have n1_ := Aside0.mk (blk_below (g := gb207) (o := .cells #[.int .i64 a0_0, .int .i64 a0_1, .string a0_2, .slice A0_3 l0_3.length c0_3, .slice A0_4 l0_4.length c0_4] 25 (0, 0)) (by (with_reducible repeat (first | refine blk_drewN ?_ _ | refine blk_drew ?_ | refine blk_alloc ?_ _)); exact BK207.out) hb); have n2_ := Aside0.mk (below_step (by repeat (first | (with_reducible first | exact HB.out | apply below_alloc | apply pw_below_drewN | apply below_drew1 | refine below_set ?_ GE207.out) | exact HB.out)) hb); clear BK207; clear HB; have HO210 := n0_; have BK207 := n1_; have HB := n2_; clear n0_ n1_ n2_; clear hb ho71; have hcz72_0 : w70.cell? ⟨gb207, 0, none⟩ = some (.int .i64 a0_0) := (blk_cell BK207.out 0).trans rfl; have hcz72_1 : w70.cell? ⟨gb207, 1, none⟩ = some (.int .i64 a0_1) := (blk_cell BK207.out 1).trans rfl; have hcz72_2 : w70.cell? ⟨gb207, 2, none⟩ = some (.string a0_2) := (blk_cell BK207.out 2).trans rfl; have hcz72_3 : w70.cell? ⟨gb207, 3, none⟩ = some (.slice A0_3 l0_3.length c0_3) := (blk_cell BK207.out 3).trans rfl; have hcz72_4 : w70.cell? ⟨gb207, 4, none⟩ = some (.slice A0_4 l0_4.length c0_4) := (blk_cell BK207.out 4).trans rfl; have hfz72_0 := blk_frozen BK207.out 0; have hfz72_1 := blk_frozen BK207.out 1; have hfz72_2 := blk_frozen BK207.out 2; have hfz72_3 := blk_frozen BK207.out 3; have hfz72_4 := blk_frozen BK207.out 4))
          go_ret
          exact ⟨_, by first | rfl | (simp [errW_none, errW_some] <;> rfl) | (simp [*, errW_none, errW_some] <;> rfl), by (with_reducible repeat (first | apply Kd.R_alloc | apply Kd.R_drewN | apply Kd.R_drew)); exact HO210.out, by repeat (first | (with_reducible first | exact HB.out | apply below_alloc | apply pw_below_drewN | apply below_drew1 | refine below_set ?_ GE207.out) | exact HB.out)⟩
end Go.Proofs.YtmphdmhpfghfkaaDoor.PK
