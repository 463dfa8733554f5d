import Derived.Test.YteblbippmllfkaaDoorZpgtsPPx0
import Derived.Test.YteblbippmllfkaaDoorZpgtsPPx2
namespace Go.Proofs.YteblbippmllfkaaDoor.PP
open Go.RowKit Go.Proofs.YteblbippmllfkaaDoorW.PrintWords Go.Proofs.YteblbippmllfkaaDoorW.PrintLast Go.Proofs.YteblbippmllfkaaDoorW.PrintMore
attribute [local go_sem] max2_mx_ min2_mn_ max_two min_two max_three min_three max_four min_four   -- for this text's walks alone
set_option linter.unusedVariables false
set_option linter.unusedSimpArgs false
def munimentlaw02_awake.f (k : Nat)  : Option (Bool) := (path_Steps.f k (⟨#[97, 46, 98]⟩ : ByteArray)).bind fun bt105 => (if bt105.2 = 0 then (if (bt105.1.length : Int) = 2 then (if 1 < (bt105.1.length : Int) then (some ((rdOf ByteArray.empty bt105.1 1).toList == ([98] : List UInt8))) else (none)) else (some false)) else (some false))
set_option maxHeartbeats 8000000 in
set_option maxRecDepth 100000 in
theorem munimentlaw02_awake.calls (k : Nat)  (r : Bool) (w : World) (hT : Tabs w) (h : munimentlaw02_awake.f k  = some r) :
    Calls Tryd.prog 8 #[] w fun e w' => e = .returned (.bool r) ∧ Below w.heap.size w w' := by
  have HT := Aside0.mk hT
  clear hT
  have HB := Aside0.mk (Below.refl w.heap.size w)
  have H : ((path_Steps.f k (⟨#[97, 46, 98]⟩ : ByteArray)).bind fun bt105 => (if bt105.2 = 0 then (if (bt105.1.length : Int) = 2 then (if 1 < (bt105.1.length : Int) then (some ((rdOf ByteArray.empty bt105.1 1).toList == ([98] : List UInt8))) else (none)) else (some false)) else (some false))) = some r := h
  clear h
  replace H := Option.bind_eq_some_iff.mp H
  obtain ⟨⟨t105, t106⟩, A10, H⟩ := H
  replace H : (if t106 = 0 then (if (t105.length : Int) = 2 then (if 1 < (t105.length : Int) then (some ((rdOf ByteArray.empty t105 1).toList == ([98] : List UInt8))) else (none)) else (some false)) else (some false)) = some r := H
  have A1 := Aside0.mk A10
  clear A10
  by_cases c2 : t106 = 0
  · rw [if_pos c2] at H
    have c2b0 : (t106 == 0) = true := beq_iff_eq.mpr c2
    have c2b1 : (t106 != 0) = false := bne_eq_false_iff_eq.mpr c2
    clear c2
    by_cases c3 : (t105.length : Int) = 2
    · rw [if_pos c3] at H
      have c3b0 : ((t105.length : Int) == 2) = true := beq_iff_eq.mpr c3
      have c3b1 : ((t105.length : Int) != 2) = false := bne_eq_false_iff_eq.mpr c3
      clear c3
      by_cases c4 : 1 < (t105.length : Int)
      · rw [if_pos c4] at H
        have c4b0 : decide (1 < (t105.length : Int)) = true := decide_eq_true c4
        have c4b1 : decide (1 < t105.length) = true := decide_eq_true (by omega)
        clear c4
        obtain rfl := Option.some.inj H
        go_enter Tryd.func8, Tryd.ntmps8
        go_wp2_with (first | ((with_reducible refine gate_callee (f := 9) rfl ?_); refine goesL_ (some 4) rfl rfl Tryd.func9 (by kernel_rfl) rfl #[.string (⟨#[97, 46, 98]⟩ : ByteArray)] rfl (by (try simp only [List.map_toArray, List.map_cons, List.map_nil]); first | done | rfl | (simp only [List.length_drop, List.length_take]; rfl)) ?_; (with_reducible refine (path_Steps.calls k (⟨#[97, 46, 98]⟩ : ByteArray) t105 t106 _ ?side1 A1.out).mono ?_); (case side1 => first | exact HT.out | (refine tabs_below HT.out ?_; repeat (first | exact HB.out | (with_reducible first | apply below_alloc | apply pw_below_drewN | apply below_drew1 | exact Below.refl _ _) | (refine below_set ?_ (Aside0.out (by assumption)))))); rintro e w5 ⟨v107, rfl, ho0, hb⟩; refine ⟨_, rfl, ?_⟩; have n0_ := Aside0.mk (Kd.R_lower ho0 (below_size (by repeat (first | (with_reducible first | exact HB.out | apply below_alloc | apply pw_below_drewN | apply below_drew1) | exact HB.out)))); have n1_ := Aside0.mk (below_step (by repeat (first | (with_reducible first | exact HB.out | apply below_alloc | apply pw_below_drewN | apply below_drew1) | exact HB.out)) hb); clear HB; have HO108 := n0_; have HB := n1_; clear n0_ n1_; (try clear hb); (try clear hb2); (try clear hk); (try clear hi); (try clear ho0); obtain ⟨Ao6, co6, eo6⟩ := Kd.R_slice HO108.out; subst eo6; have p109 : 0 ≤ (1 : Int) := (by omega); have q109 : 1 < (t105.length : Int) := of_decide_eq_true (by first | (with_reducible assumption) | assumption); obtain ⟨ad109, e109, hx109_0⟩ := Kd.at_string (Kd.R_reads' HO108.out).2.2 1 p109 q109; cases e109; (try simp only [show (1 : Int).toNat = 1 from rfl, Nat.reduceMul, Nat.reduceEqDiff, Go.Addr.add, ↓reduceIte] at hx109_0); have qi109 : (1 < t105.length) = True := eq_true (by omega); (try rw [show ((1 : Int)).toNat = 1 from rfl] at hx109_0); replace p109 := eq_true p109; replace q109 := eq_true q109))
        go_ret
        exact ⟨by first | rfl | (simp [errW_none, errW_some] <;> rfl) | (simp [*, errW_none, errW_some] <;> rfl), by repeat (first | (with_reducible first | exact HB.out | apply below_alloc | apply pw_below_drewN | apply below_drew1) | exact HB.out)⟩
      · rw [if_neg c4] at H
        exact absurd H (by simp)
    · rw [if_neg c3] at H
      have c3b0 : ((t105.length : Int) == 2) = false := beq_eq_false_iff_ne.mpr c3
      have c3b1 : ((t105.length : Int) != 2) = true := bne_iff_ne.mpr c3
      obtain rfl := Option.some.inj H
      go_enter Tryd.func8, Tryd.ntmps8
      go_wp2_with (first | ((with_reducible refine gate_callee (f := 9) rfl ?_); refine goesL_ (some 4) rfl rfl Tryd.func9 (by kernel_rfl) rfl #[.string (⟨#[97, 46, 98]⟩ : ByteArray)] rfl (by (try simp only [List.map_toArray, List.map_cons, List.map_nil]); first | done | rfl | (simp only [List.length_drop, List.length_take]; rfl)) ?_; (with_reducible refine (path_Steps.calls k (⟨#[97, 46, 98]⟩ : ByteArray) t105 t106 _ ?side1 A1.out).mono ?_); (case side1 => first | exact HT.out | (refine tabs_below HT.out ?_; repeat (first | exact HB.out | (with_reducible first | apply below_alloc | apply pw_below_drewN | apply below_drew1 | exact Below.refl _ _) | (refine below_set ?_ (Aside0.out (by assumption)))))); rintro e w7 ⟨v107, rfl, ho0, hb⟩; refine ⟨_, rfl, ?_⟩; have n0_ := Aside0.mk (Kd.R_lower ho0 (below_size (by repeat (first | (with_reducible first | exact HB.out | apply below_alloc | apply pw_below_drewN | apply below_drew1) | exact HB.out)))); have n1_ := Aside0.mk (below_step (by repeat (first | (with_reducible first | exact HB.out | apply below_alloc | apply pw_below_drewN | apply below_drew1) | exact HB.out)) hb); clear HB; have HO108 := n0_; have HB := n1_; clear n0_ n1_; (try clear hb); (try clear hb2); (try clear hk); (try clear hi); (try clear ho0); obtain ⟨Ao8, co8, eo8⟩ := Kd.R_slice HO108.out; subst eo8))
      go_ret
      exact ⟨by first | rfl | (simp [errW_none, errW_some] <;> rfl) | (simp [*, errW_none, errW_some] <;> rfl), by repeat (first | (with_reducible first | exact HB.out | apply below_alloc | apply pw_below_drewN | apply below_drew1) | exact HB.out)⟩
  · rw [if_neg c2] at H
    have c2b0 : (t106 == 0) = false := beq_eq_false_iff_ne.mpr c2
    have c2b1 : (t106 != 0) = true := bne_iff_ne.mpr c2
    obtain rfl := Option.some.inj H
    go_enter Tryd.func8, Tryd.ntmps8
    go_wp2_with (first | ((with_reducible refine gate_callee (f := 9) rfl ?_); refine goesL_ (some 4) rfl rfl Tryd.func9 (by kernel_rfl) rfl #[.string (⟨#[97, 46, 98]⟩ : ByteArray)] rfl (by (try simp only [List.map_toArray, List.map_cons, List.map_nil]); first | done | rfl | (simp only [List.length_drop, List.length_take]; rfl)) ?_; (with_reducible refine (path_Steps.calls k (⟨#[97, 46, 98]⟩ : ByteArray) t105 t106 _ ?side1 A1.out).mono ?_); (case side1 => first | exact HT.out | (refine tabs_below HT.out ?_; repeat (first | exact HB.out | (with_reducible first | apply below_alloc | apply pw_below_drewN | apply below_drew1 | exact Below.refl _ _) | (refine below_set ?_ (Aside0.out (by assumption)))))); rintro e w9 ⟨v107, rfl, ho0, hb⟩; refine ⟨_, rfl, ?_⟩; have n0_ := Aside0.mk (Kd.R_lower ho0 (below_size (by repeat (first | (with_reducible first | exact HB.out | apply below_alloc | apply pw_below_drewN | apply below_drew1) | exact HB.out)))); have n1_ := Aside0.mk (below_step (by repeat (first | (with_reducible first | exact HB.out | apply below_alloc | apply pw_below_drewN | apply below_drew1) | exact HB.out)) hb); clear HB; have HO108 := n0_; have HB := n1_; clear n0_ n1_; (try clear hb); (try clear hb2); (try clear hk); (try clear hi); (try clear ho0)))
    go_ret
    exact ⟨by first | rfl | (simp [errW_none, errW_some] <;> rfl) | (simp [*, errW_none, errW_some] <;> rfl), by repeat (first | (with_reducible first | exact HB.out | apply below_alloc | apply pw_below_drewN | apply below_drew1) | exact HB.out)⟩
def munimentref01_broken.f (a0 : ByteArray) : Option (Bool) := if a0.size ≤ 1000000 then some (!Lib.validD a0.data.toList) else none
theorem munimentref01_broken.drop_ne (s : ByteArray) (p : Nat) (h : p < s.size) : s.data.toList.drop p ≠ [] := by
  intro c
  have h1 := congrArg List.length c
  rw [List.length_drop, Array.length_toList] at h1
  have h2 : s.data.size = s.size := rfl
  simp at h1
  omega
theorem munimentref01_broken.cut (s : ByteArray) (p : Nat) (h : p + 3 ≤ s.size) : (s.extract p (p + 3)).toList = (s.data.toList.drop p).take 3 := by
  rw [ByteArray.toList_eq, ByteArray.data_extract, Array.toList_extract, List.extract_eq_take_drop]
  simp
theorem munimentref01_broken.sl (W : World) (s : ByteArray) (p : Nat) (h : p + 3 ≤ s.size) :
    (Instr.slice 9 (.string s) (some (.int .i64 (p : Int))) (some (.int .i64 ((p : Int) + 3))) none).run Tryd.prog W = .ok (.string (s.extract p (p + 3))) W := by
  have h1 := run_slice_string (P := Tryd.prog) W 9 s .i64 .i64 (p : Int) ((p : Int) + 3) Tryd.underlying9 (by omega) (by omega) (by omega)
  rw [show ((p : Int) + 3).toNat = p + 3 by omega, Int.toNat_natCast] at h1
  exact h1
theorem munimentref01_broken.iter_below (w : World) (s : ByteArray) (p : Nat) : Below w.heap.size w (w.iter s p) := by
  exact (Below.refl _ _).alloc (Nat.le_refl _) _
set_option maxHeartbeats 8000000 in
set_option maxRecDepth 1000000 in
theorem munimentref01_broken.calls (a0 : ByteArray) (r : Bool) (w : World) (h : munimentref01_broken.f a0 = some r) :
    Calls Tryd.prog 29 #[.string a0] w fun e w' => e = .returned (.bool r) ∧ Below w.heap.size w w' := by
  unfold munimentref01_broken.f at h
  by_cases hs : a0.size ≤ 1000000
  · rw [if_pos hs] at h
    obtain rfl := Option.some.inj h
    clear h
    obtain ⟨R, hR⟩ : ∃ R, Lib.validD a0.data.toList = R := ⟨_, rfl⟩
    have HR := Aside0.mk hR
    rw [hR]
    clear hR
    go_enter Tryd.func29, Tryd.ntmps29
    go_wp2
    go_loopw [2] (fun v2 w' => ∃ (pos : Nat), w' = w.iter a0 pos ∧ Aside0 (Lib.validD (a0.data.toList.drop pos) = R)) (fun _ w' => a0.size - w'.iterPos w.heap.size)
    case atStart => exact ⟨0, rfl, HR⟩
    case round =>
      obtain ⟨pos, rfl, HV⟩ := hrel
      clear HR
      by_cases hp : pos < a0.size
      · have hne := munimentref01_broken.drop_ne a0 pos hp
        have hst := HV.out
        rw [Lib.validD_step _ hne, Lib.decodeL_drop] at hst
        have hw : 1 ≤ (Utf8.decode a0 pos).2 := by rw [← Lib.decodeL_drop]; exact Lib.decodeL_width _
        have hnx0 : ∀ ty, (Instr.next (.pointer (some ⟨w.heap.size, 0, none⟩)) true ty).run Tryd.prog (w.iter a0 pos) = _ := fun ty => run_next_any w a0 pos ty hp
        have hF := Utf.fffd (a0.data.toList.drop pos) hne
        have hM := Utf.fffd_mk (a0.data.toList.drop pos)
        rw [Lib.decodeL_drop] at hF hM
        have hlen : (a0.data.toList.drop pos).length = a0.size - pos := by rw [List.length_drop, Array.length_toList]; rfl
        rw [hlen] at hF
        rw [List.drop_drop] at hst
        obtain ⟨dr, dn, hd⟩ : ∃ dr dn, Utf8.decode a0 pos = (dr, dn) := ⟨_, _, rfl⟩
        rw [hd] at hst hw hnx0 hF hM
        simp only at hst hw hF
        have hpz : (pos : Int) < (a0.size : Int) := by omega
        by_cases c1 : dr = 65533
        · subst c1
          have b1 : (((65533 : Nat) : Int) == 65533) = true := rfl
          by_cases c2 : dn = 1
          · subst c2
            rw [if_pos ⟨rfl, rfl⟩] at hst
            subst hst
            have hx : ¬ (a0.data.toList.drop pos).take 3 = [239, 191, 189] := fun c => by
              have := hM c
              simp at this
            clear hM hF HV hlen hne
            have hnx := hnx0
            clear hnx0
            by_cases c3 : pos + 3 ≤ a0.size
            · have b3 : decide ((a0.size : Int) < (pos : Int) + 3) = false := decide_eq_false (by omega)
              rw [← munimentref01_broken.cut a0 pos c3] at hx
              have b4 : ((a0.extract pos (pos + 3)).toList == [239, 191, 189]) = false := by simpa using hx
              have hsl := fun (W : World) => munimentref01_broken.sl W a0 pos c3
              go_wp2
              go_ret
              exact ⟨rfl, munimentref01_broken.iter_below _ _ _⟩
            · have b3 : decide ((a0.size : Int) < (pos : Int) + 3) = true := decide_eq_true (by omega)
              go_wp2
              go_ret
              exact ⟨rfl, munimentref01_broken.iter_below _ _ _⟩
          · obtain ⟨e1, e2, e3⟩ := hF rfl c2
            subst e1
            have hst' : Lib.validD (a0.data.toList.drop (pos + 3)) = R := hst
            have HV' := Aside0.mk hst'
            have c3 : pos + 3 ≤ a0.size := by omega
            have b3 : decide ((a0.size : Int) < (pos : Int) + 3) = false := decide_eq_false (by omega)
            rw [← munimentref01_broken.cut a0 pos c3] at e3
            have b4 : ((a0.extract pos (pos + 3)).toList == [239, 191, 189]) = true := by simpa using e3
            have hsl := fun (W : World) => munimentref01_broken.sl W a0 pos c3
            clear hM hF HV hlen hne hst hst' e3 e2 hd
            have hnx := hnx0
            clear hnx0
            go_wp2
            go_roundw
            case rel => exact ⟨pos + 3, rfl, HV'⟩
            case measure => simp; omega
        · have b1 : (((dr : Nat) : Int) == 65533) = false := by
            rw [beq_eq_false_iff_ne]; omega
          have hst' : Lib.validD (a0.data.toList.drop (pos + dn)) = R := by
            rw [if_neg (fun c => c1 c.1)] at hst
            exact hst
          have HV' := Aside0.mk hst'
          clear hM hF HV hlen hne hst hst' hd
          have hnx := hnx0
          clear hnx0
          go_wp2
          go_roundw
          case rel => exact ⟨pos + dn, rfl, HV'⟩
          case measure => simp; omega
      · have hR : R = true := by
          rw [← HV.out, List.drop_eq_nil_of_le (by rw [Array.length_toList]; show a0.size ≤ pos; omega)]
          rfl
        subst hR
        clear HV
        have hnx : ∀ ty, (Instr.next (.pointer (some ⟨w.heap.size, 0, none⟩)) true ty).run Tryd.prog (w.iter a0 pos) = _ := fun ty => run_next_end w a0 pos ty hp
        go_wp2
        go_ret
        exact ⟨rfl, munimentref01_broken.iter_below _ _ _⟩
  · rw [if_neg hs] at h
    exact absurd h (by simp)
def munimentref01_Valid.f (a0 : ByteArray) : Option (Bool) := if a0.size ≤ 1000000 then some (Lib.validD a0.data.toList) else none
set_option maxHeartbeats 8000000 in
set_option maxRecDepth 1000000 in
theorem munimentref01_Valid.calls (a0 : ByteArray) (r : Bool) (w : World) (h : munimentref01_Valid.f a0 = some r) :
    Calls Tryd.prog 19 #[.string a0] w fun e w' => e = .returned (.bool r) ∧ Below w.heap.size w w' := by
  unfold munimentref01_Valid.f at h
  by_cases hs : a0.size ≤ 1000000
  · rw [if_pos hs] at h
    obtain rfl := Option.some.inj h
    clear h
    obtain ⟨A, n, c, W1, B, h1, hb, h2, hB⟩ := Utf.back_run (P := Tryd.prog) w 9 52 21 a0 Tryd.underlying9 Tryd.underlying52 Tryd.underlying21 hs
    by_cases c1 : B = a0
    · have b1 : (B.toList == a0.toList) = true := by rw [c1]; simp
      have hbr : munimentref01_broken.f a0 = some (!Lib.validD a0.data.toList) := by unfold munimentref01_broken.f; rw [if_pos hs]
      obtain ⟨R, hR⟩ : ∃ R, Lib.validD a0.data.toList = R := ⟨_, rfl⟩
      rw [hR] at hbr ⊢
      have HBR := Aside0.mk hbr
      have HB := Aside0.mk hb
      clear hbr hR hB c1 hs hb
      go_enter Tryd.func19, Tryd.ntmps19
      go_wp2_with (go_at_call 29; refine (munimentref01_broken.calls _ _ _ HBR.out).mono ?_; rintro e w' ⟨rfl, hb2⟩)
      go_ret
      exact ⟨by simp, below_step HB.out hb2⟩
    · have b1 : (B.toList == a0.toList) = false := by
        rw [beq_eq_false_iff_ne, ByteArray.toList_eq, ByteArray.toList_eq]
        intro hc
        exact c1 (ByteArray.ext (Array.toList_inj.1 hc))
      have hv : Lib.validD a0.data.toList = false := by
        cases hv : Lib.validD a0.data.toList with
        | false => rfl
        | true => exact absurd (hB hv) c1
      rw [hv]
      have HB := Aside0.mk hb
      clear hB c1 hs hb hv
      go_enter Tryd.func19, Tryd.ntmps19
      go_wp2
      go_ret
      exact ⟨rfl, HB.out⟩
  · rw [if_neg hs] at h
    exact absurd h (by simp)
end Go.Proofs.YteblbippmllfkaaDoor.PP
