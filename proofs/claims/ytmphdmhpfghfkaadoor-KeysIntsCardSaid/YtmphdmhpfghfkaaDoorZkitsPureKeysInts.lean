import Derived.Test.YtmphdmhpfghfkaaDoorZkitsKeysR
import Derived.Test.YtmphdmhpfghfkaaDoorZkitsPKx19
set_option linter.unusedSimpArgs false
set_option linter.unusedVariables false
namespace Go.Proofs.YtmphdmhpfghfkaaDoor.Pl
open Go.RowKit Go.Proofs.YtmphdmhpfghfkaaDoorW.PrintWords Go.Proofs.YtmphdmhpfghfkaaDoorW.PrintMore Go.Proofs.YtmphdmhpfghfkaaDoor.PK
theorem keyI (x : Int) : keyV 6 ⟨3, x, ⟨#[]⟩, [], []⟩ = 4 :: b8 (x + 9223372036854775808) := by
  simp [keyV]
theorem keyI_ev (x : Int) (h : (Lit.int .i64 x).wf = true) : Ev (fun k => keys_Key.f k 3 x (⟨#[]⟩ : ByteArray) ([] : List ByteArray) ([] : List V)) (4 :: b8 (x + 9223372036854775808), 0) := by
  have hk := Key_ev (fine_leaf 3 x (by decide) h)
  rw [if_pos (fm_leaf 3 x (by omega) (by omega) (by omega) 5), keyI] at hk
  exact hk
theorem keysInts_ev (a b : Int) (ha : (Lit.int .i64 a).wf = true) (hb : (Lit.int .i64 b).wf = true) : Ev (fun k => munimentlaw04_KeysInts.f k a b) true := by
  have ba := bounds_i64 ha
  have bb := bounds_i64 hb
  unfold munimentlaw04_KeysInts.f
  refine ev_bind awake4_ev (ev_pos rfl (ev_bind (keyI_ev a ha) (ev_bind (keyI_ev b hb) (ev_pos rfl (ev_pos rfl (ev_pos (by simp [b8_length]) (ev_pos (by simp [b8_length]) ?_)))))))
  have hlt : ltL (4 :: b8 (a + 9223372036854775808)) (4 :: b8 (b + 9223372036854775808)) = decide (a < b) := by
    simp only [ltL, if_true]
    rw [ltL_b8 (by omega) (by omega) (by omega) (by omega)]
    simp
  have heq : decide ((4 :: b8 (a + 9223372036854775808)) = 4 :: b8 (b + 9223372036854775808)) = (a == b) := by
    rw [Bool.eq_iff_iff]
    simp only [decide_eq_true_eq, beq_iff_eq, List.cons.injEq, true_and]
    constructor
    · intro h
      have := b8_inj (by omega) (by omega) (by omega) (by omega) h
      omega
    · rintro rfl
      rfl
  refine ev_bind (bless_ev _ _ (by simp [b8_length])) (ev_pos (by rw [hlt]; simp) (ev_bind (bsame_ev _ _ (by simp [b8_length])) (ev_some ?_)))
  rw [heq]
  simp
end Go.Proofs.YtmphdmhpfghfkaaDoor.Pl
