import Derived.Test.YtmphdmhpfghfkaaDoorZkwtePKx0
import Derived.Test.YtmphdmhpfghfkaaDoorZkwtePKx10
namespace Go.Proofs.YtmphdmhpfghfkaaDoor.PK
open Go.RowKit Go.Proofs.YtmphdmhpfghfkaaDoorW.PrintWords Go.Proofs.YtmphdmhpfghfkaaDoorW.PrintLast Go.Proofs.YtmphdmhpfghfkaaDoorW.PrintMore
attribute [local go_sem] max2_mx_ min2_mn_ max_two min_two max_three min_three max_four min_four   -- for this text's walks alone
set_option linter.unusedVariables false
set_option linter.unusedSimpArgs false
def munimentref01_Depth.f (k : Nat) (a0_0 : Int) (a0_1 : Int) (a0_2 : ByteArray) (l0_3 : List ByteArray) (l0_4 : List (S25)) : Option (Int) := (munimentref01_depth.f k a0_0 a0_1 a0_2 l0_3 l0_4 7).bind fun t175 => (some t175)
set_option maxHeartbeats 8000000 in
set_option maxRecDepth 100000 in
theorem munimentref01_Depth.calls (k : Nat) (a0_0 : Int) (a0_1 : Int) (a0_2 : ByteArray) (A0_3 : Option Addr) (c0_3 : Nat) (l0_3 : List ByteArray) (A0_4 : Option Addr) (c0_4 : Nat) (l0_4 : List (S25)) (r : Int) (w : World) (hr0_3 : Kd.C Kd.string w A0_3 l0_3.length l0_3) (hc0_3 : l0_3.length ≤ c0_3) (hr0_4 : Kd.C k25 w A0_4 l0_4.length l0_4) (hc0_4 : l0_4.length ≤ c0_4) (h : munimentref01_Depth.f k a0_0 a0_1 a0_2 l0_3 l0_4 = some r) :
    Calls Tryd.prog 36 #[.agg #[.int .i64 a0_0, .int .i64 a0_1, .string a0_2, .slice A0_3 l0_3.length c0_3, .slice A0_4 l0_4.length c0_4]] w fun e w' => e = .returned (.int .i64 r) ∧ Below w.heap.size w w' := by
  have hu25 := Tryd.underlying25
  have HR0_3 := Aside0.mk hr0_3
  have HC0_3 := Aside0.mk hc0_3
  clear hr0_3 hc0_3
  have HR0_4 := Aside0.mk hr0_4
  have HC0_4 := Aside0.mk hc0_4
  clear hr0_4 hc0_4
  have HB := Aside0.mk (Below.refl w.heap.size w)
  have H : ((munimentref01_depth.f k a0_0 a0_1 a0_2 l0_3 l0_4 7).bind fun t175 => (some t175)) = some r := h
  clear h
  replace H := Option.bind_eq_some_iff.mp H
  obtain ⟨t175, A20, H⟩ := H
  replace H : (some t175) = some r := H
  have A2 := Aside0.mk A20
  clear A20
  obtain rfl := Option.some.inj H
  go_enter Tryd.func36, Tryd.ntmps36
  go_wp2_with (first | ((with_reducible refine gate_dst (N := 1) rfl ?_); refine box_event ?hg (N := 1) ?hd (cs := #[.int .i64 a0_0, .int .i64 a0_1, .string a0_2, .slice A0_3 l0_3.length c0_3, .slice A0_4 l0_4.length c0_4]) (t := 25) ?hr ?_; (case hd => rfl); (case hg => rfl); (case hr => first | (go_simp; done) | (go_simp; rfl)); intro gb174 hg w3 hbox hb; have n0_ := Aside0.mk (below_step (by repeat (first | (with_reducible first | exact HB.out | apply below_alloc | apply pw_below_drewN | apply below_drew1) | exact HB.out)) hb); have n1_ := Aside0.mk (hbox); have n2_ := Aside0.mk ((by rw [hg]; exact (below_size (by repeat (first | (with_reducible first | exact HB.out | apply below_alloc | apply pw_below_drewN | apply below_drew1) | exact HB.out))) : w.heap.size ≤ gb174)); have n3_ := Aside0.mk ((by rw [hg]; exact (below_size (by repeat (first | (with_reducible first | exact HB.out | apply below_alloc | apply pw_below_drewN | apply below_drew1) | exact HB.out))) : w.heap.size ≤ gb174)); clear HB; have HB := n0_; have BK174 := n1_; have GW174 := n2_; have GE174 := n3_; clear n0_ n1_ n2_ n3_; clear hb hbox hg; have hcz4_0 : w3.cell? ⟨gb174, 0, none⟩ = some (.int .i64 a0_0) := (blk_cell BK174.out 0).trans rfl; have hcz4_1 : w3.cell? ⟨gb174, 1, none⟩ = some (.int .i64 a0_1) := (blk_cell BK174.out 1).trans rfl; have hcz4_2 : w3.cell? ⟨gb174, 2, none⟩ = some (.string a0_2) := (blk_cell BK174.out 2).trans rfl; have hcz4_3 : w3.cell? ⟨gb174, 3, none⟩ = some (.slice A0_3 l0_3.length c0_3) := (blk_cell BK174.out 3).trans rfl; have hcz4_4 : w3.cell? ⟨gb174, 4, none⟩ = some (.slice A0_4 l0_4.length c0_4) := (blk_cell BK174.out 4).trans rfl; have hfz4_0 := blk_frozen BK174.out 0; have hfz4_1 := blk_frozen BK174.out 1; have hfz4_2 := blk_frozen BK174.out 2; have hfz4_3 := blk_frozen BK174.out 3; have hfz4_4 := blk_frozen BK174.out 4) | ((with_reducible refine gate_callee (f := 50) rfl ?_); refine goesL_ (some 4) rfl rfl Tryd.func50 (by kernel_rfl) rfl #[.agg #[.int .i64 a0_0, .int .i64 a0_1, .string a0_2, .slice A0_3 l0_3.length c0_3, .slice A0_4 l0_4.length c0_4], .int .i64 7] rfl (by (try simp only [List.map_toArray, List.map_cons, List.map_nil]); first | done | rfl | (simp only [List.length_drop, List.length_take]; rfl)) ?_; (with_reducible refine (munimentref01_depth.calls k a0_0 a0_1 a0_2 _ _ l0_3 _ _ l0_4 7 t175 _ ?side1 ?side2 ?side3 ?side4 A2.out).mono ?_); (case side1 => repeat (first | exact (Kd.C_below HR0_3.out HB.out) | (with_reducible refine Kd.C_alloc ?_ _) | (with_reducible refine Kd.C_drewN ?_ _) | (with_reducible refine Kd.C_drew ?_))); (case side2 => exact HC0_3.out); (case side3 => repeat (first | exact (Kd.C_below HR0_4.out HB.out) | (with_reducible refine Kd.C_alloc ?_ _) | (with_reducible refine Kd.C_drewN ?_ _) | (with_reducible refine Kd.C_drew ?_))); (case side4 => exact HC0_4.out); rintro e w5 ⟨rfl, hb⟩; refine ⟨_, rfl, ?_⟩; have n0_ := Aside0.mk (blk_below (g := gb174) (o := .cells #[.int .i64 a0_0, .int .i64 a0_1, .string a0_2, .slice A0_3 l0_3.length c0_3, .slice A0_4 l0_4.length c0_4] 25 (0, 0)) (by (with_reducible repeat (first | refine blk_drewN ?_ _ | refine blk_drew ?_ | refine blk_alloc ?_ _)); exact BK174.out) hb); have n1_ := Aside0.mk (below_step (by repeat (first | (with_reducible first | exact HB.out | apply below_alloc | apply pw_below_drewN | apply below_drew1 | refine below_set ?_ GE174.out) | exact HB.out)) hb); clear BK174; clear HB; have BK174 := n0_; have HB := n1_; clear n0_ n1_; (try clear hb); (try clear hb2); (try clear hk); (try clear hi)))
  go_ret
  exact ⟨by first | rfl | (simp [errW_none, errW_some] <;> rfl) | (simp [*, errW_none, errW_some] <;> rfl), by repeat (first | (with_reducible first | exact HB.out | apply below_alloc | apply pw_below_drewN | apply below_drew1 | refine below_set ?_ GE174.out) | exact HB.out)⟩
def munimentref01_broken.f (a0 : ByteArray) : Option (Bool) := if a0.size ≤ 1000000 then some (!Lib.validD a0.data.toList) else none
theorem munimentref01_broken.drop_ne (s : ByteArray) (p : Nat) (h : p < s.size) : s.data.toList.drop p ≠ [] := by
  intro c
  have h1 := congrArg List.length c
  rw [List.length_drop, Array.length_toList] at h1
  have h2 : s.data.size = s.size := rfl
  simp at h1
  omega
theorem munimentref01_broken.cut (s : ByteArray) (p : Nat) (h : p + 3 ≤ s.size) : (s.extract p (p + 3)).toList = (s.data.toList.drop p).take 3 := by
  rw [ByteArray.toList_eq, ByteArray.data_extract, Array.toList_extract, List.extract_eq_take_drop]
  simp
theorem munimentref01_broken.sl (W : World) (s : ByteArray) (p : Nat) (h : p + 3 ≤ s.size) :
    (Instr.slice 9 (.string s) (some (.int .i64 (p : Int))) (some (.int .i64 ((p : Int) + 3))) none).run Tryd.prog W = .ok (.string (s.extract p (p + 3))) W := by
  have h1 := run_slice_string (P := Tryd.prog) W 9 s .i64 .i64 (p : Int) ((p : Int) + 3) Tryd.underlying9 (by omega) (by omega) (by omega)
  rw [show ((p : Int) + 3).toNat = p + 3 by omega, Int.toNat_natCast] at h1
  exact h1
theorem munimentref01_broken.iter_below (w : World) (s : ByteArray) (p : Nat) : Below w.heap.size w (w.iter s p) := by
  exact (Below.refl _ _).alloc (Nat.le_refl _) _
set_option maxHeartbeats 8000000 in
set_option maxRecDepth 1000000 in
theorem munimentref01_broken.calls (a0 : ByteArray) (r : Bool) (w : World) (h : munimentref01_broken.f a0 = some r) :
    Calls Tryd.prog 62 #[.string a0] w fun e w' => e = .returned (.bool r) ∧ Below w.heap.size w w' := by
  unfold munimentref01_broken.f at h
  by_cases hs : a0.size ≤ 1000000
  · rw [if_pos hs] at h
    obtain rfl := Option.some.inj h
    clear h
    obtain ⟨R, hR⟩ : ∃ R, Lib.validD a0.data.toList = R := ⟨_, rfl⟩
    have HR := Aside0.mk hR
    rw [hR]
    clear hR
    go_enter Tryd.func62, Tryd.ntmps62
    go_wp2
    go_loopw [2] (fun v2 w' => ∃ (pos : Nat), w' = w.iter a0 pos ∧ Aside0 (Lib.validD (a0.data.toList.drop pos) = R)) (fun _ w' => a0.size - w'.iterPos w.heap.size)
    case atStart => exact ⟨0, rfl, HR⟩
    case round =>
      obtain ⟨pos, rfl, HV⟩ := hrel
      clear HR
      by_cases hp : pos < a0.size
      · have hne := munimentref01_broken.drop_ne a0 pos hp
        have hst := HV.out
        rw [Lib.validD_step _ hne, Lib.decodeL_drop] at hst
        have hw : 1 ≤ (Utf8.decode a0 pos).2 := by rw [← Lib.decodeL_drop]; exact Lib.decodeL_width _
        have hnx0 : ∀ ty, (Instr.next (.pointer (some ⟨w.heap.size, 0, none⟩)) true ty).run Tryd.prog (w.iter a0 pos) = _ := fun ty => run_next_any w a0 pos ty hp
        have hF := Utf.fffd (a0.data.toList.drop pos) hne
        have hM := Utf.fffd_mk (a0.data.toList.drop pos)
        rw [Lib.decodeL_drop] at hF hM
        have hlen : (a0.data.toList.drop pos).length = a0.size - pos := by rw [List.length_drop, Array.length_toList]; rfl
        rw [hlen] at hF
        rw [List.drop_drop] at hst
        obtain ⟨dr, dn, hd⟩ : ∃ dr dn, Utf8.decode a0 pos = (dr, dn) := ⟨_, _, rfl⟩
        rw [hd] at hst hw hnx0 hF hM
        simp only at hst hw hF
        have hpz : (pos : Int) < (a0.size : Int) := by omega
        by_cases c1 : dr = 65533
        · subst c1
          have b1 : (((65533 : Nat) : Int) == 65533) = true := rfl
          by_cases c2 : dn = 1
          · subst c2
            rw [if_pos ⟨rfl, rfl⟩] at hst
            subst hst
            have hx : ¬ (a0.data.toList.drop pos).take 3 = [239, 191, 189] := fun c => by
              have := hM c
              simp at this
            clear hM hF HV hlen hne
            have hnx := hnx0
            clear hnx0
            by_cases c3 : pos + 3 ≤ a0.size
            · have b3 : decide ((a0.size : Int) < (pos : Int) + 3) = false := decide_eq_false (by omega)
              rw [← munimentref01_broken.cut a0 pos c3] at hx
              have b4 : ((a0.extract pos (pos + 3)).toList == [239, 191, 189]) = false := by simpa using hx
              have hsl := fun (W : World) => munimentref01_broken.sl W a0 pos c3
              go_wp2
              go_ret
              exact ⟨rfl, munimentref01_broken.iter_below _ _ _⟩
            · have b3 : decide ((a0.size : Int) < (pos : Int) + 3) = true := decide_eq_true (by omega)
              go_wp2
              go_ret
              exact ⟨rfl, munimentref01_broken.iter_below _ _ _⟩
          · obtain ⟨e1, e2, e3⟩ := hF rfl c2
            subst e1
            have hst' : Lib.validD (a0.data.toList.drop (pos + 3)) = R := hst
            have HV' := Aside0.mk hst'
            have c3 : pos + 3 ≤ a0.size := by omega
            have b3 : decide ((a0.size : Int) < (pos : Int) + 3) = false := decide_eq_false (by omega)
            rw [← munimentref01_broken.cut a0 pos c3] at e3
            have b4 : ((a0.extract pos (pos + 3)).toList == [239, 191, 189]) = true := by simpa using e3
            have hsl := fun (W : World) => munimentref01_broken.sl W a0 pos c3
            clear hM hF HV hlen hne hst hst' e3 e2 hd
            have hnx := hnx0
            clear hnx0
            go_wp2
            go_roundw
            case rel => exact ⟨pos + 3, rfl, HV'⟩
            case measure => simp; omega
        · have b1 : (((dr : Nat) : Int) == 65533) = false := by
            rw [beq_eq_false_iff_ne]; omega
          have hst' : Lib.validD (a0.data.toList.drop (pos + dn)) = R := by
            rw [if_neg (fun c => c1 c.1)] at hst
            exact hst
          have HV' := Aside0.mk hst'
          clear hM hF HV hlen hne hst hst' hd
          have hnx := hnx0
          clear hnx0
          go_wp2
          go_roundw
          case rel => exact ⟨pos + dn, rfl, HV'⟩
          case measure => simp; omega
      · have hR : R = true := by
          rw [← HV.out, List.drop_eq_nil_of_le (by rw [Array.length_toList]; show a0.size ≤ pos; omega)]
          rfl
        subst hR
        clear HV
        have hnx : ∀ ty, (Instr.next (.pointer (some ⟨w.heap.size, 0, none⟩)) true ty).run Tryd.prog (w.iter a0 pos) = _ := fun ty => run_next_end w a0 pos ty hp
        go_wp2
        go_ret
        exact ⟨rfl, munimentref01_broken.iter_below _ _ _⟩
  · rw [if_neg hs] at h
    exact absurd h (by simp)
def munimentref01_Valid.f (a0 : ByteArray) : Option (Bool) := if a0.size ≤ 1000000 then some (Lib.validD a0.data.toList) else none
set_option maxHeartbeats 8000000 in
set_option maxRecDepth 1000000 in
theorem munimentref01_Valid.calls (a0 : ByteArray) (r : Bool) (w : World) (h : munimentref01_Valid.f a0 = some r) :
    Calls Tryd.prog 60 #[.string a0] w fun e w' => e = .returned (.bool r) ∧ Below w.heap.size w w' := by
  unfold munimentref01_Valid.f at h
  by_cases hs : a0.size ≤ 1000000
  · rw [if_pos hs] at h
    obtain rfl := Option.some.inj h
    clear h
    obtain ⟨A, n, c, W1, B, h1, hb, h2, hB⟩ := Utf.back_run (P := Tryd.prog) w 9 89 21 a0 Tryd.underlying9 Tryd.underlying89 Tryd.underlying21 hs
    by_cases c1 : B = a0
    · have b1 : (B.toList == a0.toList) = true := by rw [c1]; simp
      have hbr : munimentref01_broken.f a0 = some (!Lib.validD a0.data.toList) := by unfold munimentref01_broken.f; rw [if_pos hs]
      obtain ⟨R, hR⟩ : ∃ R, Lib.validD a0.data.toList = R := ⟨_, rfl⟩
      rw [hR] at hbr ⊢
      have HBR := Aside0.mk hbr
      have HB := Aside0.mk hb
      clear hbr hR hB c1 hs hb
      go_enter Tryd.func60, Tryd.ntmps60
      go_wp2_with (go_at_call 62; refine (munimentref01_broken.calls _ _ _ HBR.out).mono ?_; rintro e w' ⟨rfl, hb2⟩)
      go_ret
      exact ⟨by simp, below_step HB.out hb2⟩
    · have b1 : (B.toList == a0.toList) = false := by
        rw [beq_eq_false_iff_ne, ByteArray.toList_eq, ByteArray.toList_eq]
        intro hc
        exact c1 (ByteArray.ext (Array.toList_inj.1 hc))
      have hv : Lib.validD a0.data.toList = false := by
        cases hv : Lib.validD a0.data.toList with
        | false => rfl
        | true => exact absurd (hB hv) c1
      rw [hv]
      have HB := Aside0.mk hb
      clear hB c1 hs hb hv
      go_enter Tryd.func60, Tryd.ntmps60
      go_wp2
      go_ret
      exact ⟨rfl, HB.out⟩
  · rw [if_neg hs] at h
    exact absurd h (by simp)
def munimentref01_text.f (a0 : ByteArray) : Option (Bool) := if (a0.size : Int) ≤ 60 then ((munimentref01_Valid.f a0).bind fun t176 => (some t176)) else (some false)
set_option maxHeartbeats 8000000 in
set_option maxRecDepth 100000 in
theorem munimentref01_text.calls (a0 : ByteArray) (r : Bool) (w : World) (h : munimentref01_text.f a0 = some r) :
    Calls Tryd.prog 51 #[.string a0] w fun e w' => e = .returned (.bool r) ∧ Below w.heap.size w w' := by
  have HB := Aside0.mk (Below.refl w.heap.size w)
  have H : (if (a0.size : Int) ≤ 60 then ((munimentref01_Valid.f a0).bind fun t176 => (some t176)) else (some false)) = some r := h
  clear h
  by_cases c2 : (a0.size : Int) ≤ 60
  · rw [if_pos c2] at H
    have c2b0 : decide ((a0.size : Int) ≤ 60) = true := decide_eq_true c2
    have c2b1 : decide (a0.size ≤ 60) = true := decide_eq_true (by omega)
    clear c2
    replace H := Option.bind_eq_some_iff.mp H
    obtain ⟨t176, A30, H⟩ := H
    replace H : (some t176) = some r := H
    have A3 := Aside0.mk A30
    clear A30
    obtain rfl := Option.some.inj H
    go_enter Tryd.func51, Tryd.ntmps51
    go_wp2_with (first | (go_at_call 60; (with_reducible refine (munimentref01_Valid.calls a0 t176 _ A3.out).mono ?_); rintro e w4 ⟨rfl, hb⟩; have n0_ := Aside0.mk (below_step (by repeat (first | (with_reducible first | exact HB.out | apply below_alloc | apply pw_below_drewN | apply below_drew1) | exact HB.out)) hb); clear HB; have HB := n0_; clear n0_; (try clear hb); (try clear hb2); (try clear hk); (try clear hi)))
    go_ret
    exact ⟨by first | rfl | (simp [errW_none, errW_some] <;> rfl) | (simp [*, errW_none, errW_some] <;> rfl), by repeat (first | (with_reducible first | exact HB.out | apply below_alloc | apply pw_below_drewN | apply below_drew1) | exact HB.out)⟩
  · rw [if_neg c2] at H
    have c2b0 : decide ((a0.size : Int) ≤ 60) = false := decide_eq_false c2
    have c2b1 : decide (a0.size ≤ 60) = false := decide_eq_false (by omega)
    clear c2
    obtain rfl := Option.some.inj H
    go_enter Tryd.func51, Tryd.ntmps51
    go_wp2
    go_ret
    exact ⟨by first | rfl | (simp [errW_none, errW_some] <;> rfl) | (simp [*, errW_none, errW_some] <;> rfl), by repeat (first | (with_reducible first | exact HB.out | apply below_alloc | apply pw_below_drewN | apply below_drew1) | exact HB.out)⟩
end Go.Proofs.YtmphdmhpfghfkaaDoor.PK
