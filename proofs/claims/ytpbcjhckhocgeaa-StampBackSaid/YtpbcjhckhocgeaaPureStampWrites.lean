/- The plain law of StampWrites: both ways of writing a key come to one word. -/
import Derived.Test.YtpbcjhckhocgeaaStampF
import Derived.Test.YtpbcjhckhocgeaaPSx8
set_option linter.unusedSimpArgs false
set_option linter.unusedVariables false
namespace Go.Proofs.Ytpbcjhckhocgeaa.Pl
open Go.RowKit Go.Proofs.YtpbcjhckhocgeaaW.PrintWords Go.Proofs.YtpbcjhckhocgeaaW.PrintMore Go.Proofs.Ytpbcjhckhocgeaa.PS

theorem wr_length (s : Int) (n : List Int) (t : Int) : (wr s n t).1.length < 1000000 := by
  unfold wr
  split
  · simp
  · split
    · simp
    · have := esc_length n
      rw [List.length_append, front_length, b8_length]
      omega
theorem stampWrites_ev (s : Int) (n : List Int) (t : Int) (h0 : 0 ≤ t) (h1 : t < 18446744073709551616) : Ev (fun k => munimentlaw05_StampWrites.f k s n t) true := by
  have hj : ∀ b : Bool, Ev (fun k => munimentlaw05_StampWrites.j0 k b s n t) true := by
    intro b
    refine ev_succ ?_
    simp only [munimentlaw05_StampWrites.j0]
    refine ev_ite (fun _ => ev_bind awake_ev (ev_some rfl)) (fun _ => ?_)
    refine ev_bind (write_ev s n t h0 h1) (ev_bind (rwrite_ev s n t h0 h1) (ev_pos rfl ?_))
    exact ev_bind (same_ev _ _ (by have := wr_length s n t; omega)) (ev_some (by simp))
  unfold munimentlaw05_StampWrites.f
  refine ev_bind awake_ev (ev_pos rfl (hj _))
end Go.Proofs.Ytpbcjhckhocgeaa.Pl
