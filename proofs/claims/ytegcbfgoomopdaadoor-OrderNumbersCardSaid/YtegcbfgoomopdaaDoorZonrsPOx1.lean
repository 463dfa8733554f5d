import Derived.Test.YtegcbfgoomopdaaDoorZonrsPOx0
namespace Go.Proofs.YtegcbfgoomopdaaDoor.PO
open Go.RowKit Go.Proofs.YtegcbfgoomopdaaDoorW.PrintWords Go.Proofs.YtegcbfgoomopdaaDoorW.PrintLast Go.Proofs.YtegcbfgoomopdaaDoorW.PrintMore
attribute [local go_sem] max2_mx_ min2_mn_ max_two min_two max_three min_three max_four min_four   -- for this text's walks alone
set_option linter.unusedVariables false
set_option linter.unusedSimpArgs false
def utf8_ValidString.f (a0 : ByteArray) : Option (Bool) := if a0.size ≤ 1000000 then some (Lib.validD a0.data.toList) else none
theorem utf8_ValidString.calls (a0 : ByteArray) (r : Bool) (w : World) (hT : Tabs w) (h : utf8_ValidString.f a0 = some r) :
    Calls Tryd.prog 53 #[.string a0] w fun e w' => e = .returned (.bool r) ∧ Below w.heap.size w w' := by
  unfold utf8_ValidString.f at h
  split at h
  · rename_i hs
    obtain rfl := Option.some.inj h
    exact valid_string a0 w hs hT
  · exact absurd h (by simp)
def json_text.f (a0 : ByteArray) : Option (Bool) := if (a0.size : Int) ≤ 60 then ((utf8_ValidString.f a0).bind fun t101 => (some t101)) else (some false)
set_option maxHeartbeats 8000000 in
set_option maxRecDepth 100000 in
theorem json_text.calls (a0 : ByteArray) (r : Bool) (w : World) (hT : Tabs w) (h : json_text.f a0 = some r) :
    Calls Tryd.prog 43 #[.string a0] w fun e w' => e = .returned (.bool r) ∧ Below w.heap.size w w' := by
  have HT := Aside0.mk hT
  clear hT
  have HB := Aside0.mk (Below.refl w.heap.size w)
  have H : (if (a0.size : Int) ≤ 60 then ((utf8_ValidString.f a0).bind fun t101 => (some t101)) else (some false)) = some r := h
  clear h
  by_cases c2 : (a0.size : Int) ≤ 60
  · rw [if_pos c2] at H
    have c2b0 : decide ((a0.size : Int) ≤ 60) = true := decide_eq_true c2
    have c2b1 : decide (a0.size ≤ 60) = true := decide_eq_true (by omega)
    clear c2
    replace H := Option.bind_eq_some_iff.mp H
    obtain ⟨t101, A30, H⟩ := H
    replace H : (some t101) = some r := H
    have A3 := Aside0.mk A30
    clear A30
    obtain rfl := Option.some.inj H
    go_enter Tryd.func43, Tryd.ntmps43
    go_wp2_with (first | (go_at_call 53; (with_reducible refine (utf8_ValidString.calls a0 t101 _ ?side1 A3.out).mono ?_); (case side1 => first | exact HT.out | (refine tabs_below HT.out ?_; repeat (first | exact HB.out | (with_reducible first | apply below_alloc | apply pw_below_drewN | apply below_drew1 | exact Below.refl _ _) | (refine below_set ?_ (Aside0.out (by assumption)))))); rintro e w4 ⟨rfl, hb⟩; have n0_ := Aside0.mk (below_step (by repeat (first | (with_reducible first | exact HB.out | apply below_alloc | apply pw_below_drewN | apply below_drew1) | exact HB.out)) hb); clear HB; have HB := n0_; clear n0_; (try clear hb); (try clear hb2); (try clear hk); (try clear hi)))
    go_ret
    exact ⟨by first | rfl | (simp [errW_none, errW_some] <;> rfl) | (simp [*, errW_none, errW_some] <;> rfl), by repeat (first | (with_reducible first | exact HB.out | apply below_alloc | apply pw_below_drewN | apply below_drew1) | exact HB.out)⟩
  · rw [if_neg c2] at H
    have c2b0 : decide ((a0.size : Int) ≤ 60) = false := decide_eq_false c2
    have c2b1 : decide (a0.size ≤ 60) = false := decide_eq_false (by omega)
    clear c2
    obtain rfl := Option.some.inj H
    go_enter Tryd.func43, Tryd.ntmps43
    go_wp2
    go_ret
    exact ⟨by first | rfl | (simp [errW_none, errW_some] <;> rfl) | (simp [*, errW_none, errW_some] <;> rfl), by repeat (first | (with_reducible first | exact HB.out | apply below_alloc | apply pw_below_drewN | apply below_drew1) | exact HB.out)⟩
end Go.Proofs.YtegcbfgoomopdaaDoor.PO
