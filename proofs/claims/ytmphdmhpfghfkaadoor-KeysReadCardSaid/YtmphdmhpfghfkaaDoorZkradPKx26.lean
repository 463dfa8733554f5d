import Derived.Test.YtmphdmhpfghfkaaDoorZkradPre
import Derived.Test.YtmphdmhpfghfkaaDoorZkradPKx0
namespace Go.Proofs.YtmphdmhpfghfkaaDoor.PK
open Go.RowKit Go.Proofs.YtmphdmhpfghfkaaDoorW.PrintWords Go.Proofs.YtmphdmhpfghfkaaDoorW.PrintLast Go.Proofs.YtmphdmhpfghfkaaDoorW.PrintMore
attribute [local go_sem] max2_mx_ min2_mn_ max_two min_two max_three min_three max_four min_four
set_option linter.unusedVariables false
set_option linter.unusedSimpArgs false
def keys_get64.l0 : Nat → Int → List Int → Int → Int → Option (Int)
  | 0, _, _, _, _ => none
  | k + 1, x3, x7, x8, x9 => if x9 < x8 then (if 0 ≤ x9 then (if x9 < (x7.length : Int) then (keys_get64.l0 k (Go.bits .or .u64 (IntKind.u64.wrap (x3 * 256)) (IntKind.u64.wrap (rd x7 x9))) x7 x8 (wrap64 (x9 + 1))) else (none)) else (none)) else (some x3)
def keys_get64.f (k : Nat) (l0 : List Int) : Option (Int) := if 8 ≤ (l0.length : Int) then (keys_get64.l0 k 0 (l0.take 8) ((l0.take 8).length : Int) 0) else (none)
theorem keys_get64.mono_l : ∀ k, (∀ y0 y1 y2 y3, LeO (keys_get64.l0 k y0 y1 y2 y3) (keys_get64.l0 (k + 1) y0 y1 y2 y3))
  | 0 => fun _ _ _ _ r h => by simp [keys_get64.l0] at h
  | k + 1 => by
    have ih0 := keys_get64.mono_l k
    · intro y0 y1 y2 y3
      unfold keys_get64.l0
      repeat' first
      | (with_reducible exact ih0 _ _ _ _)
      | (with_reducible exact LeO.refl _)
      | (with_reducible exact LeO.none _)
      | (with_reducible refine LeO.ite ?_ ?_)
      | (with_reducible refine LeO.bind ?_ (fun _ => ?_))
      | exact ih0 _ _ _ _
      | exact LeO.none _
      | refine LeO.ite ?_ ?_
      | refine LeO.bind ?_ (fun _ => ?_)
theorem keys_get64.mono : ∀ a0 k, LeO (keys_get64.f k a0) (keys_get64.f (k + 1) a0) := by
 intro a0 k; have ih0 := keys_get64.mono_l k; unfold keys_get64.f
 repeat' first
     | (with_reducible exact ih0 _ _ _ _)
     | (with_reducible exact LeO.refl _)
     | (with_reducible exact LeO.none _)
     | (with_reducible refine LeO.ite ?_ ?_)
     | (with_reducible refine LeO.bind ?_ (fun _ => ?_))
     | exact ih0 _ _ _ _
     | exact LeO.none _
     | refine LeO.ite ?_ ?_
     | refine LeO.bind ?_ (fun _ => ?_)
set_option maxHeartbeats 8000000 in
set_option maxRecDepth 100000 in
theorem keys_get64.calls (k : Nat) (A0 : Option Addr) (c0 : Nat) (l0 : List Int) (r : Int) (w : World) (hr0 : Kd.C (Kd.int .u8) w A0 l0.length l0) (hc0 : l0.length ≤ c0) (h : keys_get64.f k l0 = some r) :
    Calls Tryd.prog 58 #[.slice A0 l0.length c0] w fun e w' => e = .returned (.int .u64 r) ∧ Drawn0 w w' := by
 have HR0 := Aside0.mk hr0; have HC0 := Aside0.mk hc0; clear hr0 hc0; have H : (if 8 ≤ (l0.length : Int) then (keys_get64.l0 k 0 (l0.take 8) ((l0.take 8).length : Int) 0) else (none)) = some r := h; clear h; by_cases c2 : 8 ≤ (l0.length : Int); (case neg => rw [if_neg c2] at H; exact absurd H (by simp)); rw [if_pos c2] at H; have c2b0 := eq_true c2; have c2b1 : decide (8 ≤ (l0.length : Int)) = true := decide_eq_true c2; clear c2; obtain ⟨i03, hi03, _, hsz3, _⟩ := info_parts info5; obtain ⟨hcut3, hA3, hC3⟩ := print_take_of (P := Tryd.prog) (Value.int .u8) 0 28 5 .i64 Tryd.underlying28 hi03 hsz3 A0 c0 l0 8 (by omega) (oz) HC0.out; have HR224 := Aside0.mk (Kd.C_of_reads (h1 := fun _ => rfl) (hA3 _ (Kd.reads_of_C HR0.out))); (have hl8 : (l0.take (Int.toNat 8)).length ≤ l0.length := by rw [List.length_take]; omega); obtain ⟨y, hy⟩ : ∃ y : List Int, y = l0.take 8 := ⟨_, rfl⟩; have e8 : Int.toNat 8 = 8 := rfl; rw [e8, ← hy] at hcut3 hl8; replace HR224 : Aside0 (Kd.C (Kd.int .u8) w A0 y.length y) := Aside0.mk (by have h := HR224.out; rw [e8, ← hy] at h; exact h); rw [← hy] at H; have HY := Aside0.mk hl8; clear hA3 hC3 hi03 hsz3 hy e8 hl8; have H' := Aside0.mk H; clear H; go_enter Tryd.func58, Tryd.ntmps58; go_wp2; go_loopg [3, 9] k (fun kq v3 v9 w' => ∃ (x3_1 : Int) (x9_1 : Int), v3 = .int .u64 x3_1 ∧ v9 = .int .i64 x9_1 ∧ Aside0 (keys_get64.l0 kq x3_1 y (y.length : Int) x9_1 = some r) ∧ Aside0 (kq ≤ k) ∧ Drawn0 w w'); (case atStart => exact ⟨(0), (0), rz, rz, H', ⟨Nat.le_refl _⟩, by repeat (first | exact Drawn0.refl _ | apply Drawn0.step)⟩)
 case round =>
  clear H'; (try clear c2b0); (try clear c2b1); obtain ⟨x3_1, x9_1, rfl, rfl, HA, HK1, ⟨m1, rfl⟩⟩ := hrel
  cases gk with
  | zero => exact absurd HA.out (by simp [keys_get64.l0])
  | succ k1 =>
   have H := HA.out; clear HA; simp only [keys_get64.l0] at H; by_cases c4 : x9_1 < (y.length : Int); (case neg => rw [if_neg c4] at H; have c4b0 : decide (x9_1 < (y.length : Int)) = false := decide_eq_false c4; clear c4; obtain rfl := Option.some.inj H; go_wp2; go_ret; exact ⟨by first | rfl | (simp; done) | (simp [*]; done), by repeat (first | exact Drawn0.refl _ | apply Drawn0.step)⟩); rw [if_pos c4] at H; have c4b0 : decide (x9_1 < (y.length : Int)) = true := decide_eq_true c4; clear c4; by_cases c5 : 0 ≤ x9_1; (case neg => rw [if_neg c5] at H; exact absurd H (by simp)); rw [if_pos c5] at H; have c5b0 : decide (0 ≤ x9_1) = true := decide_eq_true c5; clear c5; by_cases c6 : x9_1 < (y.length : Int); (case neg => rw [if_neg c6] at H; exact absurd H (by simp)); rw [if_pos c6] at H; have c6b0 : decide (x9_1 < (y.length : Int)) = true := decide_eq_true c6; clear c6; have H' := Aside0.mk H; clear H; have p225 : 0 ≤ (x9_1 : Int) := oz; have q225 : x9_1 < (y.length : Int) := oz; obtain ⟨ad225, e225, hx225_0⟩ := Kd.at_int HR224.out x9_1 p225 q225; cases e225; replace p225 := eq_true p225; replace q225 := eq_true q225; go_wp2; go_roundg k1; (case measure => have := HK1.out; omega); (case rel => exact ⟨(Go.bits .or .u64 (IntKind.u64.wrap (x3_1 * 256)) (IntKind.u64.wrap (rd y x9_1))), (wrap64 (x9_1 + 1)), rz, rz, H', ⟨by have := HK1.out; omega⟩, by repeat (first | exact Drawn0.refl _ | apply Drawn0.step)⟩)
end Go.Proofs.YtmphdmhpfghfkaaDoor.PK
