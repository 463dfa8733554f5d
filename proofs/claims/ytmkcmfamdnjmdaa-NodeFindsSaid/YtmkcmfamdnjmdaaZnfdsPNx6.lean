import Derived.Test.YtmkcmfamdnjmdaaZnfdsPNx0
import Derived.Test.YtmkcmfamdnjmdaaZnfdsPNx4
namespace Go.Proofs.Ytmkcmfamdnjmdaa.PN
open Go.RowKit Go.Proofs.YtmkcmfamdnjmdaaW.PrintWords Go.Proofs.YtmkcmfamdnjmdaaW.PrintLast Go.Proofs.YtmkcmfamdnjmdaaW.PrintMore
attribute [local go_sem] max2_mx_ min2_mn_ max_two min_two max_three min_three max_four min_four   -- for this text's walks alone
set_option linter.unusedVariables false
set_option linter.unusedSimpArgs false
def bytes_Equal.f (l0 : List Int) (l1 : List Int) : Option (Bool) := some ((strOfNums l0).toList == (strOfNums l1).toList)
set_option maxHeartbeats 8000000 in
set_option maxRecDepth 100000 in
theorem bytes_Equal.calls (A0 : Option Addr) (c0 : Nat) (l0 : List Int) (A1 : Option Addr) (c1 : Nat) (l1 : List Int) (r : Bool) (w : World) (hr0 : Kd.C (Kd.int .u8) w A0 l0.length l0) (hc0 : l0.length ≤ c0) (hr1 : Kd.C (Kd.int .u8) w A1 l1.length l1) (hc1 : l1.length ≤ c1) (h : bytes_Equal.f l0 l1 = some r) :
    Calls Try.prog 21 #[.slice A0 l0.length c0, .slice A1 l1.length c1] w fun e w' => e = .returned (.bool r) ∧ Drawn0 w w' := by
  have HR0 := Aside0.mk hr0
  have HC0 := Aside0.mk hc0
  clear hr0 hc0
  have HR1 := Aside0.mk hr1
  have HC1 := Aside0.mk hc1
  clear hr1 hc1
  have H : (some ((strOfNums l0).toList == (strOfNums l1).toList)) = some r := h
  clear h
  obtain rfl := Option.some.inj H
  have hcv3 := Kd.C_string (P := Try.prog) (A := A0) (c := c0) Try.underlying26 Try.underlying5 Try.underlying9 HR0.out
  have hcv4 := Kd.C_string (P := Try.prog) (A := A1) (c := c1) Try.underlying26 Try.underlying5 Try.underlying9 HR1.out
  go_enter Try.func21, Try.ntmps21
  go_wp2
  go_ret
  exact ⟨by first | rfl | (simp; done) | (simp [*]; done), by repeat (first | exact Drawn0.refl _ | apply Drawn0.step)⟩
def sort_Search.p (l1_1 : List (List Int)) (l2 : List Int) (i : Int) : Option (Bool) := if 0 ≤ i then (if i < (l1_1.length : Int) then ((bytes_Compare.f (rd_L1 l1_1 i) l2).bind fun t => (some (decide (t ≥ 0)))) else none) else none
def sort_Search.l0 : Nat → List (List Int) → List Int → Nat → Nat → Option (Int)
  | 0, _, _, _, _ => none
  | k + 1, l1_1, l2, i, j => if i < j then ((sort_Search.p l1_1 l2 (((i + j) / 2 : Nat) : Int)).bind fun b => (if b = true then (sort_Search.l0 k l1_1 l2 i ((i + j) / 2)) else (sort_Search.l0 k l1_1 l2 ((i + j) / 2 + 1) j))) else (some (i : Int))
def sort_Search.f (k : Nat) (a0 : Int) (a1_0 : Bool) (l1_1 : List (List Int)) (l1_2 : List (List Int)) (l1_3 : List Int) (l2 : List Int) : Option (Int) := if a0 = (l1_1.length : Int) then (if l1_1.length ≤ 140737488355328 then (sort_Search.l0 k l1_1 l2 0 l1_1.length) else none) else none
set_option maxHeartbeats 4000000 in
set_option maxRecDepth 100000 in
/-- The literal: is the key at a place the asked one, or behind it? -/
theorem sort_Search.lit (g1 g2 : Nat) (a1_0 : Bool) (A1_1 : Option Addr) (c1_1 : Nat) (l1_1 : List (List Int)) (v2 v3 : Value) (A2 : Option Addr) (c2 : Nat) (l2 : List Int) (i : Int) (b : Bool) (w : World)
    (hb1 : w.heap[g1]? = some (.cells #[.bool a1_0, .slice A1_1 l1_1.length c1_1, v2, v3] 25 (0, 0))) (hb2 : w.heap[g2]? = some (.cells #[.slice A2 l2.length c2] 26 (0, 0)))
    (hr1 : Kd.C (Kd.slice 5 (Kd.int .u8)) w A1_1 l1_1.length l1_1) (hr2 : Kd.C (Kd.int .u8) w A2 l2.length l2) (hc2 : l2.length ≤ c2) (h : sort_Search.p l1_1 l2 i = some b) :
    Calls Try.prog 23 #[.int .i64 i, .pointer (some ⟨g1, 0, none⟩), .pointer (some ⟨g2, 0, none⟩)] w fun e w' => e = .returned (.bool b) ∧ Drawn0 w w' := by
  unfold sort_Search.p at h
  by_cases h0 : 0 ≤ i
  · rw [if_pos h0] at h
    by_cases h1 : i < (l1_1.length : Int)
    · rw [if_pos h1] at h
      obtain ⟨t, ht, hb⟩ := Option.bind_eq_some_iff.1 h
      have hb := (Option.some.inj hb).symm
      subst hb
      clear h
      obtain ⟨ad, A0, c0, rfl, hx, hl, hC⟩ := at_L1 hr1 i h0 h1
      have hz0 : w.cell? ⟨g1, 1, none⟩ = some (.slice (some ad) l1_1.length c1_1) := (blk_cell hb1 1).trans rfl
      have hz1 : w.cell? ⟨g2, 0, none⟩ = some (.slice A2 l2.length c2) := (blk_cell hb2 0).trans rfl
      have HC := Aside0.mk hC
      have HR2 := Aside0.mk hr2
      have HL := Aside0.mk hl
      have HC2 := Aside0.mk hc2
      have HT := Aside0.mk ht
      have d0 : decide (0 ≤ i) = true := decide_eq_true h0
      have d1 : decide (i < (l1_1.length : Int)) = true := decide_eq_true h1
      clear hb1 hb2 hr1 hr2 hc2 hl hC ht
      have hu25 := Try.underlying25
      have hcall : ∀ n, Calls Try.prog 20 #[.slice A0 (rd_L1 l1_1 i).length c0, .slice A2 l2.length c2] (w.drewN n) fun e w'' => e = .returned (.int .i64 t) ∧ ∃ m, w'' = w.drewN m := fun n =>
        (bytes_Compare.calls A0 c0 (rd_L1 l1_1 i) A2 c2 l2 t (w.drewN n) (Kd.C_drewN HC.out n) HL.out (Kd.C_drewN HR2.out n) HC2.out HT.out).mono (fun _ _ ⟨he, ⟨m, hm⟩⟩ => ⟨he, n + m, by rw [hm, World.drewN_drewN]⟩)
      go_enter Try.func23, Try.ntmps23
      go_wp2
      go_quiet ((go_at_call 20; exact hcall _))
      go_wp2
      go_ret
      exact ⟨rfl, ⟨nq, rfl⟩⟩
    · rw [if_neg h1] at h
      exact absurd h (by simp)
  · rw [if_neg h0] at h
    exact absurd h (by simp)
set_option maxHeartbeats 4000000 in
set_option maxRecDepth 100000 in
theorem sort_Search.calls {g1 g2 : Nat} (k : Nat) (a0 : Int) (a1_0 : Bool) (A1_1 : Option Addr) (c1_1 : Nat) (l1_1 : List (List Int)) (A1_2 : Option Addr) (c1_2 : Nat) (l1_2 : List (List Int)) (A1_3 : Option Addr) (c1_3 : Nat) (l1_3 : List Int) (A2 : Option Addr) (c2 : Nat) (l2 : List Int) (r : Int) (w : World)
    (hr1_1 : Kd.C (Kd.slice 5 (Kd.int .u8)) w A1_1 l1_1.length l1_1) (hc1_1 : l1_1.length ≤ c1_1) (hr1_2 : Kd.C (Kd.slice 5 (Kd.int .u8)) w A1_2 l1_2.length l1_2) (hc1_2 : l1_2.length ≤ c1_2) (hr1_3 : Kd.C (Kd.int .i64) w A1_3 l1_3.length l1_3) (hc1_3 : l1_3.length ≤ c1_3) (hr2 : Kd.C (Kd.int .u8) w A2 l2.length l2) (hc2 : l2.length ≤ c2)
    (h : sort_Search.f k a0 a1_0 l1_1 l1_2 l1_3 l2 = some r)
    (hb1 : w.heap[g1]? = some (.cells #[.bool a1_0, .slice A1_1 l1_1.length c1_1, .slice A1_2 l1_2.length c1_2, .slice A1_3 l1_3.length c1_3] 25 (0, 0)) := by repeat (first | (with_reducible first | refine blk_drewN ?_ _ | refine blk_drew ?_ | refine blk_alloc ?_ _) | exact Aside0.out (by assumption)))
    (hb2 : w.heap[g2]? = some (.cells #[.slice A2 l2.length c2] 26 (0, 0)) := by repeat (first | (with_reducible first | refine blk_drewN ?_ _ | refine blk_drew ?_ | refine blk_alloc ?_ _) | exact Aside0.out (by assumption))) :
    Calls Try.prog 22 #[.int .i64 a0, .func (.func 23) #[] #[.pointer (some ⟨g1, 0, none⟩), .pointer (some ⟨g2, 0, none⟩)]] w fun e w' => e = .returned (.int .i64 r) ∧ Below w.heap.size w w' := by
  have HK : Aside0 (r = r ∧ Kd.C (Kd.slice 5 (Kd.int .u8)) w A1_1 l1_1.length l1_1) := ⟨rfl, hr1_1⟩
  have HR2 := Aside0.mk hr2
  have HC2 := Aside0.mk hc2
  have HB1 := Aside0.mk hb1
  have HB2 := Aside0.mk hb2
  clear hr1_1 hc1_1 hr1_2 hc1_2 hr1_3 hc1_3 hr2 hc2 hb1 hb2
  unfold sort_Search.f at h
  by_cases e0 : a0 = (l1_1.length : Int)
  · rw [if_pos e0] at h
    by_cases e1 : l1_1.length ≤ 140737488355328
    · rw [if_pos e1] at h
      subst e0
      obtain ⟨L, hL⟩ : ∃ L, L = l1_1.length := ⟨_, rfl⟩
      rw [← hL] at h e1 ⊢
      have HL := Aside0.mk hL
      have H' := Aside0.mk h
      clear h hL
      go_enter Try.func22, Try.ntmps22
      go_wp2
      go_loopg [5, 6] k (fun kq v5 v6 w' => ∃ (i j : Nat), v5 = .int .i64 (i : Int) ∧ v6 = .int .i64 (j : Int) ∧ Aside0 (i ≤ j ∧ j ≤ L) ∧ Aside0 (sort_Search.l0 kq l1_1 l2 i j = some r) ∧ Aside0 (Drawn0 w w'))
      case atStart => exact ⟨0, L, rfl, rfl, ⟨by omega⟩, H', ⟨Drawn0.refl w⟩⟩
      case round =>
        clear H'
        obtain ⟨i, j, rfl, rfl, HIJ, HA, HD⟩ := hrel
        cases gk with
        | zero => exact absurd HA.out (by simp [sort_Search.l0])
        | succ k1 =>
          have H := HA.out
          clear HA
          simp only [sort_Search.l0] at H
          obtain ⟨nd, hd⟩ := HD.out.out
          clear HD
          subst hd
          by_cases c : i < j
          · rw [if_pos c] at H
            obtain ⟨b, hp, H⟩ := Option.bind_eq_some_iff.1 H
            have hh : ((i : Int) + (j : Int)) / 2 = (((i + j) / 2 : Nat) : Int) := by omega
            obtain ⟨m, hm⟩ : ∃ m, m = (i + j) / 2 := ⟨_, rfl⟩
            have hm1 : m < j := by omega
            have hm2 : i ≤ m := by omega
            have hij := HIJ.out
            have b0 : (0 : Int) ≤ (i : Int) := by omega
            have b1 : (i : Int) ≤ 140737488355328 := by omega
            have b2 : (0 : Int) ≤ (j : Int) := by omega
            have b3 : (j : Int) ≤ 140737488355328 := by omega
            have b4 : (0 : Int) ≤ (m : Int) := by omega
            have b5 : (m : Int) ≤ 140737488355328 := by omega
            rw [← hm] at hh H hp
            have HM := Aside0.mk (And.intro hm1 hm2)
            have HIJ2 := HIJ
            have HH := Aside0.mk hh
            have hlt : (i : Int) < (j : Int) := by omega
            clear hm hm1 hm2 hij hh HIJ c
            have hc : decide ((i : Int) < (j : Int)) = true := decide_eq_true hlt
            have hc2 : decide (i < j) = true := decide_eq_true (by omega)
            have hq : (↑i + ↑j : Int) / 2 = (m : Int) := HH.out
            have hcall : Calls Try.prog 23 #[.int .i64 (m : Int), .pointer (some ⟨g1, 0, none⟩), .pointer (some ⟨g2, 0, none⟩)] (w.drewN nd) fun e w' => e = .returned (.bool b) ∧ Drawn0 (w.drewN nd) w' :=
              sort_Search.lit g1 g2 a1_0 A1_1 c1_1 l1_1 _ _ A2 c2 l2 (m : Int) b (w.drewN nd) (blk_drewN HB1.out nd) (blk_drewN HB2.out nd) (Kd.C_drewN HK.out.2 nd) (Kd.C_drewN HR2.out nd) HC2.out hp
            have HCALL := Aside0.mk hcall
            clear hcall hp
            cases b with
            | true =>
              rw [if_pos rfl] at H
              have H' := Aside0.mk H
              clear H
              go_wp2_with (go_at_call 23; refine HCALL.out.mono ?_; rintro e w2 ⟨rfl, ⟨n2, rfl⟩⟩)
              go_roundg k1
              case measure => omega
              case rel => exact ⟨i, m, rfl, by rfl, ⟨by have := HM.out; have := HIJ2.out; omega⟩, H', ⟨⟨nd + n2, rfl⟩⟩⟩
            | false =>
              rw [if_neg (by simp)] at H
              have H' := Aside0.mk H
              clear H
              go_wp2_with (go_at_call 23; refine HCALL.out.mono ?_; rintro e w2 ⟨rfl, ⟨n2, rfl⟩⟩)
              go_roundg k1
              case measure => omega
              case rel => exact ⟨m + 1, j, by go_num, rfl, ⟨by have := HM.out; have := HIJ2.out; omega⟩, H', ⟨⟨nd + n2, rfl⟩⟩⟩
          · rw [if_neg c] at H
            have hr : (i : Int) = r := by simpa using H
            subst hr
            have hc : decide ((i : Int) < (j : Int)) = false := decide_eq_false (by omega)
            have hc2 : decide (i < j) = false := decide_eq_false (by omega)
            clear H c HIJ
            go_wp2
            go_ret
            exact ⟨rfl, Drawn0.below ⟨nd, rfl⟩⟩
    · rw [if_neg e1] at h
      exact absurd h (by simp)
  · rw [if_neg e0] at h
    exact absurd h (by simp)
end Go.Proofs.Ytmkcmfamdnjmdaa.PN
