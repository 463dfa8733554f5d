import Derived.Test.YtmphdmhpfghfkaaDoorZkradKeysO
import Derived.Test.YtmphdmhpfghfkaaDoorZkradPKx29
set_option linter.unusedSimpArgs false
set_option linter.unusedVariables false
namespace Go.Proofs.YtmphdmhpfghfkaaDoor.Pl
open Go.RowKit Go.Proofs.YtmphdmhpfghfkaaDoorW.PrintWords Go.Proofs.YtmphdmhpfghfkaaDoorW.PrintMore Go.Proofs.YtmphdmhpfghfkaaDoor.PK
theorem drop_step {s : List Int} {p : Nat} {c : Int} {r : List Int} (h : s.drop p = c :: r) : s.drop (p + 1) = r := by
  have := congrArg List.tail h
  rw [List.tail_drop] at this
  exact this
theorem drop_lt {s : List Int} {p : Nat} {c : Int} {r : List Int} (h : s.drop p = c :: r) : p < s.length := by
  have := congrArg List.length h
  rw [List.length_drop, List.length_cons] at this
  omega
/-- A list not too long to be read. -/
def Fit (s : List Int) : Prop := s.length < 4611686018427387904
theorem next_ev {s : List Int} {p : Nat} {c : Int} {r : List Int} {b : Bool} (h : s.drop p = c :: r) (hl : Fit s) : keys_reader_next.f s (p : Int) b = some (c, ((p + 1 : Nat) : Int), b) := by
  have hp := drop_lt h
  unfold Fit at hl
  have e1 : wrap64 ((p : Int) + 1) = (p : Int) + 1 := wrap64_id (by omega) (by omega)
  have e2 : wrap64 ((p : Int) + 1 - 1) = (p : Int) := by rw [wrap64_id (by omega) (by omega)]; omega
  have hg : rd s (p : Int) = c := by
    have := List.getElem?_drop (xs := s) (i := p) (j := 0)
    rw [h] at this
    rw [rd_nat, List.getD_eq_getElem?_getD]
    simp at this
    rw [← this]
    rfl
  unfold keys_reader_next.f
  rw [if_neg (by omega), e1, e2, if_pos (by omega), if_pos (by omega), hg]
  rfl
theorem kget64_loop : ∀ (r p : List Int), (p ++ r).length ≤ 8 → Bytes (p ++ r) → Ev (fun k => keys_get64.l0 k (num p) (p ++ r) ((p ++ r).length : Int) p.length) (num (p ++ r))
  | [], p, _, _ => by
    refine ev_succ ?_
    simp only [keys_get64.l0]
    exact ev_neg (by simp) (ev_some (by simp))
  | x :: r, p, hl, hb => by
    have hl' := hl
    rw [List.length_append, List.length_cons] at hl'
    have hp := num_bound hb.left
    have hp2 : (256 : Int) ^ p.length ≤ 256 ^ 7 := by
      have : (256 : Int) ^ 7 = 256 ^ p.length * 256 ^ (7 - p.length) := by rw [← Int.pow_add]; congr 1; omega
      rw [this]
      have h1 : (1 : Int) ≤ 256 ^ (7 - p.length) := Int.pow_pos (by omega)
      have h2 : (0 : Int) < 256 ^ p.length := Int.pow_pos (by omega)
      have := Int.mul_le_mul_of_nonneg_left h1 (Int.le_of_lt h2)
      omega
    have w : wrap64 ((p.length : Int) + 1) = ((p ++ [x]).length : Int) := by rw [wrap64_id (by omega) (by omega)]; simp
    have hx : Byte x := hb.right.head
    refine ev_succ ?_
    simp only [keys_get64.l0]
    refine ev_pos (by simp; omega) (ev_pos (by omega) (ev_pos (by simp; omega) ?_))
    rw [rd_mid, w, or_byte _ _ hp.1 (by omega) hx, ← num_append]
    have ih := kget64_loop r (p ++ [x]) (by simpa using hl) (by simpa using hb)
    simpa using ih
theorem kget64_ev (l : List Int) (hl : l.length = 8) (hb : Bytes l) : Ev (fun k => keys_get64.f k l) (num l) := by
  unfold keys_get64.f
  have e : l.take 8 = l := List.take_of_length_le (by omega)
  rw [e]
  exact ev_pos (by omega) (kget64_loop l [] (by simp; omega) (by simpa using hb))
theorem eight_n {s : List Int} (hl : Fit s) (b : Bool) : ∀ (t acc : List Int) (p : Nat) (post : List Int), s.drop p = t ++ post → keys_eight.n t.length acc s (p : Int) b = some (acc ++ t, ((p + t.length : Nat) : Int), b)
  | [], acc, p, post, hd => by simp [keys_eight.n]
  | c :: t, acc, p, post, hd => by
    have h1 := drop_step hd
    have ih := eight_n hl b t (acc ++ [c]) (p + 1) post h1
    rw [List.length_cons, keys_eight.n, next_ev hd hl, Option.bind_some, ih]
    simp
    omega
theorem v_eta (x : V) : (⟨x.f0, x.f1, x.f2, x.f3, x.f4⟩ : V) = x := by cases x; rfl
theorem depth_down {d : Nat} (h : d ≤ 6) : wrap64 (((d + 1 : Nat) : Int) - 1) = (d : Int) := by
  rw [wrap64_id (by omega) (by omega)]
  omega
end Go.Proofs.YtmphdmhpfghfkaaDoor.Pl
