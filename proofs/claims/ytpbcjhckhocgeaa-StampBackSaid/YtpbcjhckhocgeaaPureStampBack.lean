/- The plain law of StampBack: what is written is read as it was, and what is read is written to its very bytes. -/
import Derived.Test.YtpbcjhckhocgeaaPureStampReads
import Derived.Test.YtpbcjhckhocgeaaPSx16
set_option linter.unusedSimpArgs false
set_option linter.unusedVariables false
namespace Go.Proofs.Ytpbcjhckhocgeaa.Pl
open Go.RowKit Go.Proofs.YtpbcjhckhocgeaaW.PrintWords Go.Proofs.YtpbcjhckhocgeaaW.PrintMore Go.Proofs.Ytpbcjhckhocgeaa.PS

/-- A key's bytes are read as that key. -/
theorem rdK_wr {s : Int} {n : List Int} {t : Int} (hn : Bytes n) (h0 : 0 ≤ t) (h1 : t < 18446744073709551616) (h : (wr s n t).2 = 0) : rdK (wr s n t).1 = (s, n, t, 0) := by
  have a1 : ¬ (s < 0 ∨ s > 255) := by
    intro c
    rw [wr, if_pos c] at h
    exact absurd h (by decide)
  have a2 : ¬ n.length > 200 := by
    intro c
    rw [wr, if_neg a1, if_pos c] at h
    exact absurd h (by decide)
  have e : (wr s n t).1 = s :: (esc n ++ 0 :: 0 :: b8 (18446744073709551615 - t)) := by
    rw [wr, if_neg a1, if_neg a2]
    unfold front
    rw [show s % 256 = s by omega]
    simp
  rw [e, ← rdK_ref s _ (by unfold Byte; omega) (Bytes.append (esc_bytes hn) (Bytes.cons (by unfold Byte; omega) (Bytes.cons (by unfold Byte; omega) (b8_bytes _)))), refP_mk n [] _ (by rw [List.nil_append]; omega) (b8_length _)]
  show (s, [] ++ n, 18446744073709551615 - num (b8 (18446744073709551615 - t)), 0) = _
  rw [num_b8 (by omega) (by omega), List.nil_append, show 18446744073709551615 - (18446744073709551615 - t) = t by omega]
/-- What reading tells, in either case. -/
theorem rdK_cases (b : List Int) (hb : Bytes b) : rdK b = (0, [], 0, 11) ∨ ((rdK b).2.2.2 = 0 ∧ wr (rdK b).1 (rdK b).2.1 (rdK b).2.2.1 = (b, 0) ∧ 0 ≤ (rdK b).2.2.1 ∧ (rdK b).2.2.1 < 18446744073709551616) := by
  unfold rdK
  by_cases c : b.length < 11
  · left; rw [if_pos c]
  · rw [if_neg c]
    by_cases d : wr (rd b 0) (lp ((b.take (b.length - 10)).drop 1)) (18446744073709551615 - num (b.drop (b.length - 8))) = (b, 0)
    · right
      have h8 : (b.drop (b.length - 8)).length = 8 := by rw [List.length_drop]; omega
      have hn := num_bound (l := b.drop (b.length - 8)) (fun x hx => hb x (List.mem_of_mem_drop hx))
      rw [h8] at hn
      dsimp only
      rw [if_pos d]
      exact ⟨rfl, d, by show 0 ≤ 18446744073709551615 - _; omega, by show 18446744073709551615 - _ < _; omega⟩
    · left
      exact if_neg d
theorem stampBack_ev (s : Int) (n : List Int) (t : Int) (b : List Int) (hn : Bytes n) (h0 : 0 ≤ t) (h1 : t < 18446744073709551616) (hb : Bytes b) : Ev (fun k => munimentlaw05_StampBack.f k s n t b) true := by
  have hj1 : b.length ≤ 1000 → Ev (fun k => munimentlaw05_StampBack.j1 k b) true := by
    intro hl
    refine ev_succ ?_
    simp only [munimentlaw05_StampBack.j1]
    refine ev_bind (read_ev b hb (by omega)) ?_
    rcases rdK_cases b hb with e | ⟨e1, e2, e3, e4⟩
    · rw [e]
      exact ev_neg (by decide) (ev_pos rfl (ev_some rfl))
    · refine ev_pos e1 (ev_bind (write_ev _ _ _ e3 e4) ?_)
      rw [e2]
      exact ev_pos rfl (ev_bind (same_ev _ _ (by omega)) (ev_some (by simp)))
  have hj : ∀ c : Bool, (c = true ∨ (n.length ≤ 1000 ∧ b.length ≤ 1000)) → Ev (fun k => munimentlaw05_StampBack.j0 k b c s n t) true := by
    intro c hc
    refine ev_succ ?_
    simp only [munimentlaw05_StampBack.j0]
    refine ev_ite (fun _ => ev_bind awake_ev (ev_some rfl)) (fun hcf => ?_)
    have hlen : n.length ≤ 1000 ∧ b.length ≤ 1000 := by
      rcases hc with hc | hc
      · exact absurd hc hcf
      · exact hc
    refine ev_bind (write_ev s n t h0 h1) (ev_ite (fun e => ?_) (fun e => hj1 hlen.2))
    have hw := wr_length s n t
    refine ev_bind (read_ev _ (wr_bytes hn) (by
      have hl := esc_length n
      unfold wr
      split
      · simp
      · split
        · simp
        · rw [List.length_append, front_length, b8_length]; omega)) ?_
    rw [rdK_wr hn h0 h1 e]
    exact ev_pos rfl (ev_bind (lawsame_ev _ _ _ _ _ _ (by show n.length < _; omega)) (ev_pos (by simp) (hj1 hlen.2)))
  unfold munimentlaw05_StampBack.f
  refine ev_bind awake_ev (ev_pos rfl ?_)
  refine ev_ite (fun h => hj _ (.inl rfl)) (fun h => hj _ ?_)
  by_cases e : (b.length : Int) > 1000
  · left; simpa using e
  · right; omega
end Go.Proofs.Ytpbcjhckhocgeaa.Pl
