import Derived.Test.YteblbippmllfkaaDoorZpgtsEv
import Derived.Test.YteblbippmllfkaaDoorZpgtsUtf
import Derived.Test.YteblbippmllfkaaDoorZpgtsPPx2
import Derived.Test.YteblbippmllfkaaDoorZpgtsPPx3
import Derived.Test.YteblbippmllfkaaDoorZpgtsPPx4
set_option linter.unusedSimpArgs false
set_option linter.unusedVariables false
namespace Go.Proofs.YteblbippmllfkaaDoor.Pl
open Go.RowKit Go.Proofs.YteblbippmllfkaaDoorW.PrintWords Go.Proofs.YteblbippmllfkaaDoorW.PrintMore Go.Proofs.YteblbippmllfkaaDoor.PP
/-- The steps of a text, from place i on, the step at hand begun at f; n: how many places are left. -/
def stepsG (s : ByteArray) : Nat → List ByteArray → Nat → Nat → List ByteArray × Int
  | 0, acc, _, _ => (acc, 0)
  | n + 1, acc, f, i =>
    if i < s.size ∧ bt s (i : Int) ≠ 46 then stepsG s n acc f (i + 1)
    else if i = f ∨ i - f > 60 ∨ acc.length = 4 ∨ Lib.validD (s.extract f i).data.toList = false then ([], 2)
    else stepsG s n (acc ++ [s.extract f i]) (i + 1) (i + 1)
def steps (s : ByteArray) : List ByteArray × Int := stepsG s (s.size + 1) [] 0 0
theorem valid_eq : munimentref01_Valid.f = utf8_ValidString.f := by
  funext s
  rfl
theorem validf {s : ByteArray} (h : s.size ≤ 1000000) : utf8_ValidString.f s = some (Lib.validD s.data.toList) := by
  unfold utf8_ValidString.f
  rw [if_pos h]
theorem extract_size {s : ByteArray} {f i : Nat} : (s.extract f i).size ≤ i - f := by
  rw [ByteArray.size_extract]; omega
theorem steps_loop (s : ByteArray) (hs : s.size < 1000000) : ∀ (n : Nat) (acc : List ByteArray) (f i : Nat), i + n = s.size + 1 → f ≤ i → acc.length ≤ 4 → Ev (fun k => path_Steps.l0 k s acc (f : Int) (i : Int)) (stepsG s n acc f i) := by
  intro n
  induction n with
  | zero =>
    intro acc f i hi hf ha
    refine ev_succ ?_
    simp only [path_Steps.l0]
    exact ev_neg (by omega) (ev_some rfl)
  | succ n ih =>
    intro acc f i hi hf ha
    have w1 : wrap64 ((i : Int) + 1) = ((i + 1 : Nat) : Int) := by rw [wrap64_id (by omega) (by omega)]; omega
    have key : ∀ b : Bool, b = decide (i < s.size ∧ bt s (i : Int) ≠ 46) → Ev (fun k => path_Steps.j1 k s acc (f : Int) (i : Int) b) (stepsG s (n + 1) acc f i) := by
      intro b hb
      refine ev_succ ?_
      simp only [path_Steps.j1]
      rw [w1, wrap64_id (x := (i : Int) - f) (by omega) (by omega)]
      unfold stepsG
      refine ev_ite (fun hbt => ?_) (fun hbt => ?_)
      · rw [hb] at hbt
        rw [if_pos (of_decide_eq_true hbt)]
        exact ih acc f (i + 1) (by omega) (by omega) ha
      · rw [hb, Bool.not_eq_true] at hbt
        rw [if_neg (of_decide_eq_false hbt)]
        refine ev_ite (fun h1 => ev_some (by rw [if_pos (.inl (by omega))])) (fun h1 => ?_)
        refine ev_ite (fun h2 => ev_some (by rw [if_pos (.inr (.inl (by omega)))])) (fun h2 => ?_)
        refine ev_ite (fun h3 => ev_some (by rw [if_pos (.inr (.inr (.inl (by omega))))])) (fun h3 => ?_)
        refine ev_pos (by omega) (ev_pos (by omega) (ev_pos (by omega) ?_))
        rw [Int.toNat_natCast, Int.toNat_natCast]
        have hsz := @extract_size s f i
        refine ev_bind0 (validf (by omega)) (ev_ite (fun h4 => ?_) (fun h4 => ev_some (by rw [if_pos (.inr (.inr (.inr (by simpa using h4))))])))
        refine ev_pos (by omega) ?_
        rw [if_neg (by rintro (c | c | c | c); all_goals first | omega | (rw [c] at h4; exact absurd h4 (by simp)))]
        exact ih _ (i + 1) (i + 1) (by omega) (by omega) (by simp; omega)
    refine ev_succ ?_
    simp only [path_Steps.l0]
    refine ev_pos (by omega) (ev_ite (fun h => ?_) (fun h => ?_))
    · refine ev_pos (by omega) (key _ ?_)
      have : i < s.size := by omega
      rw [Bool.eq_iff_iff, bne_iff_ne, decide_eq_true_eq]
      exact ⟨fun h => ⟨this, h⟩, fun h => h.2⟩
    · refine key _ ?_
      have : ¬ i < s.size := by omega
      simp [this]
theorem steps_ev (s : ByteArray) (hs : s.size < 1000000) : Ev (fun k => path_Steps.f k s) (steps s) := by
  unfold path_Steps.f steps
  exact steps_loop s hs (s.size + 1) [] 0 0 (by omega) (Nat.le_refl _) (by simp)
theorem rsteps_eq (s : ByteArray) : ∀ k, (∀ acc f i, munimentref02_Steps.l0 k s acc f i = path_Steps.l0 k s acc f i) ∧ (∀ acc f i b, munimentref02_Steps.j1 k s acc f i b = path_Steps.j1 k s acc f i b) := by
  intro k
  induction k with
  | zero => exact ⟨fun _ _ _ => rfl, fun _ _ _ _ => rfl⟩
  | succ k ih =>
    refine ⟨fun acc f i => ?_, fun acc f i b => ?_⟩
    · simp only [munimentref02_Steps.l0, path_Steps.l0, ih.2]
    · simp only [munimentref02_Steps.j1, path_Steps.j1, ih.1, valid_eq]
theorem rsteps_ev (s : ByteArray) (hs : s.size < 1000000) : Ev (fun k => munimentref02_Steps.f k s) (steps s) :=
  Ev.congr (fun k => (rsteps_eq s k).1 [] 0 0) (steps_ev s hs)
theorem steps_ab : steps (⟨#[97, 46, 98]⟩ : ByteArray) = ([⟨#[97]⟩, ⟨#[98]⟩], 0) := by
  kernel_rfl
theorem awake_ev : Ev (fun k => munimentlaw02_awake.f k) true := by
  unfold munimentlaw02_awake.f
  refine ev_bind (steps_ev _ (by decide)) ?_
  rw [steps_ab]
  exact ev_pos rfl (ev_pos rfl (ev_pos (by decide) (ev_some (by
    show ((⟨#[98]⟩ : ByteArray).toList == [98]) = true
    rw [ByteArray.toList_eq]
    rfl))))
theorem stepsG_length (s : ByteArray) : ∀ (n : Nat) (acc : List ByteArray) (f i : Nat), acc.length ≤ 4 → (stepsG s n acc f i).1.length ≤ 4 := by
  intro n
  induction n with
  | zero => intro acc f i h; exact h
  | succ n ih =>
    intro acc f i h
    unfold stepsG
    split
    · exact ih acc f _ h
    · split
      · simp
      · rename_i h2
        exact ih _ _ _ (by simp; omega)
theorem steps_length (s : ByteArray) : (steps s).1.length ≤ 4 := stepsG_length s _ [] 0 0 (by simp)
end Go.Proofs.YteblbippmllfkaaDoor.Pl
