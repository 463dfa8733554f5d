import Derived.Test.YtmphdmhpfghfkaaDoorZkradKeysF
import Derived.Test.YtmphdmhpfghfkaaDoorZkradValueR
import Derived.Test.YtmphdmhpfghfkaaDoorZkradPre
import Derived.Test.YtmphdmhpfghfkaaDoorZkradPKx0
import Derived.Test.YtmphdmhpfghfkaaDoorZkradPKx13
import Derived.Test.YtmphdmhpfghfkaaDoorZkradPKx6
import Derived.Test.YtmphdmhpfghfkaaDoorZkradValue
import Derived.Test.YtmphdmhpfghfkaaDoorZkradCmp
import Derived.Test.YtmphdmhpfghfkaaDoorZkradPKx35
set_option linter.unusedSimpArgs false
set_option linter.unusedVariables false
namespace Go.Proofs.YtmphdmhpfghfkaaDoor.Pl
open Go.RowKit Go.Proofs.YtmphdmhpfghfkaaDoorW.PrintWords Go.Proofs.YtmphdmhpfghfkaaDoorW.PrintMore Go.Proofs.YtmphdmhpfghfkaaDoor.PK
theorem awake4_ev : Ev (fun k => munimentlaw04_awake.f k) true := by
  unfold munimentlaw04_awake.f
  have hf : FineN 1 ⟨4, 0, ⟨#[97]⟩, [], []⟩ := ⟨show (Lit.int .i64 4).wf = true by decide, show (Lit.int .i64 0).wf = true by decide, by show (1 : Nat) ≤ maxLen; unfold maxLen; omega, Nat.zero_le _, fun _ h => by simp at h, Nat.zero_le _, fun _ h => by simp at h⟩
  have hfm : fm 6 ⟨4, 0, ⟨#[97]⟩, [], []⟩ = true := rfl
  have hk := Key_ev hf
  rw [if_pos hfm] at hk
  refine ev_bind hk (ev_pos rfl ?_)
  have e : keyV 6 ⟨4, 0, ⟨#[97]⟩, [], []⟩ = [5, 97, 0, 0] := by
    have : (⟨#[97]⟩ : ByteArray).toList = [97] := by rw [ByteArray.toList_eq]
    simp [keyV, tb, this, esc]
  rw [e]
  exact ev_pos rfl (ev_pos (by simp) (ev_some rfl))
end Go.Proofs.YtmphdmhpfghfkaaDoor.Pl
set_option linter.unusedSimpArgs false
set_option linter.unusedVariables false
namespace Go.Proofs.YtmphdmhpfghfkaaDoor.Pl
open Go.RowKit Go.Proofs.YtmphdmhpfghfkaaDoorW.PrintWords Go.Proofs.YtmphdmhpfghfkaaDoorW.PrintMore Go.Proofs.YtmphdmhpfghfkaaDoor.PK
theorem same_items (n : Nat) (h : ∀ a b : V, FineN n a → ∃ r, Ev (fun k => munimentref01_Same.f k a.f0 a.f1 a.f2 a.f3 a.f4 b.f0 b.f1 b.f2 b.f3 b.f4) r ∧ (r = true ↔ a = b))
    (a0 a1 b0 b1 : Int) (a2 b2 : ByteArray) (a3 b3 : List ByteArray) (la lb : List V) (hl : la.length ≤ maxLen) (hf : ∀ x ∈ la, FineN n x) (he : la.length = lb.length) :
    ∀ (ra rb p q : List V), la = p ++ ra → lb = q ++ rb → p.length = q.length → ∃ r, Ev (fun k => munimentref01_Same.l1 k (p.length : Int) a0 a1 a2 a3 la b0 b1 b2 b3 lb) r ∧ (r = true ↔ ra = rb)
  | [], rb, p, q, ea, eb, hpq => by
    have : rb = [] := by
      apply List.length_eq_zero_iff.1
      rw [ea, eb, List.length_append, List.length_append, List.length_nil] at he
      omega
    subst this
    refine ⟨true, ev_succ ?_, by simp⟩
    simp only [munimentref01_Same.l1]
    exact ev_neg (by rw [ea]; simp) (ev_some rfl)
  | x :: ra, [], p, q, ea, eb, hpq => by
    rw [ea, eb, List.length_append, List.length_append, List.length_nil, List.length_cons] at he
    omega
  | x :: ra, y :: rb, p, q, ea, eb, hpq => by
    have hla : la.length = p.length + (ra.length + 1) := by rw [ea, List.length_append, List.length_cons]
    have hlb : lb.length = q.length + (rb.length + 1) := by rw [eb, List.length_append, List.length_cons]
    have hx : rd_T25 la (p.length : Int) = x := by rw [ea]; exact rdV_mid _ _ _
    have hy : rd_T25 lb (p.length : Int) = y := by rw [hpq, eb]; exact rdV_mid _ _ _
    obtain ⟨c, hc, ec⟩ := h x y (hf x (by rw [ea]; simp))
    obtain ⟨r, hr, er⟩ := same_items n h a0 a1 b0 b1 a2 b2 a3 b3 la lb hl hf he ra rb (p ++ [x]) (q ++ [y]) (by rw [ea]; simp) (by rw [eb]; simp) (by simp [hpq])
    refine ⟨c && r, ev_succ ?_, by rw [Bool.and_eq_true, ec, er, List.cons.injEq]⟩
    simp only [munimentref01_Same.l1]
    rw [hx, hy, wrapN (by omega)]
    refine ev_pos (by omega) (ev_pos (by omega) (ev_pos (by omega) (ev_bind hc (ev_ite (fun d => ?_) (fun d => ev_some ?_)))))
    · rw [d, Bool.true_and]
      simpa using hr
    · simp only [Bool.not_eq_true] at d
      rw [d]
      rfl
theorem same_names (a0 a1 b0 b1 : Int) (a2 b2 : ByteArray) (la lb : List ByteArray) (a4 b4 : List V) (hl : la.length ≤ maxLen) (he : la.length = lb.length)
    (hq : ∃ r, Ev (fun k => munimentref01_Same.l1 k 0 a0 a1 a2 la a4 b0 b1 b2 lb b4) r ∧ (r = true ↔ a4 = b4)) :
    ∀ (ra rb p q : List ByteArray), la = p ++ ra → lb = q ++ rb → p.length = q.length → ∃ r, Ev (fun k => munimentref01_Same.l0 k (p.length : Int) a0 a1 a2 la a4 b0 b1 b2 lb b4) r ∧ (r = true ↔ ra = rb ∧ a4 = b4)
  | [], rb, p, q, ea, eb, hpq => by
    have : rb = [] := by
      apply List.length_eq_zero_iff.1
      rw [ea, eb, List.length_append, List.length_append, List.length_nil] at he
      omega
    subst this
    obtain ⟨r, hr, er⟩ := hq
    refine ⟨r, ev_succ ?_, by simp [er]⟩
    simp only [munimentref01_Same.l0]
    exact ev_neg (by rw [ea]; simp) hr
  | x :: ra, [], p, q, ea, eb, hpq => by
    rw [ea, eb, List.length_append, List.length_append, List.length_nil, List.length_cons] at he
    omega
  | x :: ra, y :: rb, p, q, ea, eb, hpq => by
    have hla : la.length = p.length + (ra.length + 1) := by rw [ea, List.length_append, List.length_cons]
    have hlb : lb.length = q.length + (rb.length + 1) := by rw [eb, List.length_append, List.length_cons]
    have hx : rdOf ByteArray.empty la (p.length : Int) = x := by rw [ea]; exact rdS_mid _ _ _
    have hy : rdOf ByteArray.empty lb (p.length : Int) = y := by rw [hpq, eb]; exact rdS_mid _ _ _
    obtain ⟨r, hr, er⟩ := same_names a0 a1 b0 b1 a2 b2 la lb a4 b4 hl he hq ra rb (p ++ [x]) (q ++ [y]) (by rw [ea]; simp) (by rw [eb]; simp) (by simp [hpq])
    by_cases hxy : x = y
    · refine ⟨r, ev_succ ?_, by rw [er, List.cons.injEq]; simp [hxy]⟩
      simp only [munimentref01_Same.l0]
      rw [hx, hy, wrapN (by omega)]
      refine ev_pos (by omega) (ev_pos (by omega) (ev_pos (by omega) (ev_pos (by rw [hxy]) ?_)))
      simpa using hr
    · refine ⟨false, ev_succ ?_, by simp [hxy]⟩
      simp only [munimentref01_Same.l0]
      rw [hx, hy, wrapN (by omega)]
      exact ev_pos (by omega) (ev_pos (by omega) (ev_pos (by omega) (ev_neg (fun h => hxy (toList_inj h)) (ev_some rfl))))
theorem same_ev : ∀ (n : Nat) (a b : V), FineN n a → ∃ r, Ev (fun k => munimentref01_Same.f k a.f0 a.f1 a.f2 a.f3 a.f4 b.f0 b.f1 b.f2 b.f3 b.f4) r ∧ (r = true ↔ a = b) := by
  intro n
  induction n with
  | zero => intro a b h; exact h.elim
  | succ n ih =>
    intro a b ha
    obtain ⟨w0, w1, w2, w3, w4, w5, w6⟩ := ha
    obtain ⟨a0, a1, a2, a3, a4⟩ := a
    obtain ⟨b0, b1, b2, b3, b4⟩ := b
    have no : ∀ P : Prop, ¬ P → ∃ r, Ev (fun k => munimentref01_Same.j0 k true a0 a1 a2 a3 a4 b0 b1 b2 b3 b4) r ∧ (r = true ↔ P) := by
      intro P hP
      refine ⟨false, ev_succ ?_, by simp [hP]⟩
      simp only [munimentref01_Same.j0]
      exact ev_pos (by simp) (ev_some rfl)
    have go : ∀ (q : Prop), (a3.length = b3.length → a4.length = b4.length → (a3 = b3 ∧ a4 = b4 ↔ q)) → (¬ a4.length = b4.length → ¬ q) → a3.length = b3.length → ∃ r, Ev (fun k => munimentref01_Same.j0 k ((a4.length : Int) != (b4.length : Int)) a0 a1 a2 a3 a4 b0 b1 b2 b3 b4) r ∧ (r = true ↔ q) := by
      intro q hq hn h3
      by_cases h4 : a4.length = b4.length
      · rw [show ((a4.length : Int) != (b4.length : Int)) = false by simp [h4]]
        obtain ⟨r, hr, er⟩ := same_names a0 a1 b0 b1 a2 b2 a3 b3 a4 b4 w3 h3 (same_items n ih a0 a1 b0 b1 a2 b2 a3 b3 a4 b4 w5 w6 h4 a4 b4 [] [] rfl rfl rfl) a3 b3 [] [] rfl rfl rfl
        refine ⟨r, ev_succ ?_, er.trans (hq h3 h4)⟩
        simp only [munimentref01_Same.j0]
        exact ev_neg (by simp) hr
      · rw [show ((a4.length : Int) != (b4.length : Int)) = true by rw [bne_iff_ne]; omega]
        exact no q (hn h4)
    by_cases e0 : a0 = b0
    · by_cases e1 : a1 = b1
      · by_cases e2 : a2 = b2
        · by_cases e3 : a3.length = b3.length
          · obtain ⟨r, hr, er⟩ := go ((⟨a0, a1, a2, a3, a4⟩ : V) = ⟨b0, b1, b2, b3, b4⟩) (fun _ _ => by simp [e0, e1, e2]) (fun h4 h => h4 (by injection h with _ _ _ _ h; rw [h])) e3
            refine ⟨r, ev_succ ?_, er⟩
            simp only [munimentref01_Same.f]
            exact ev_pos e0 (ev_pos e1 (ev_pos (by rw [e2]) (ev_pos (by omega) hr)))
          · obtain ⟨r, hr, er⟩ := no ((⟨a0, a1, a2, a3, a4⟩ : V) = ⟨b0, b1, b2, b3, b4⟩) (fun h => e3 (by injection h with _ _ _ h _; rw [h]))
            refine ⟨r, ev_succ ?_, er⟩
            simp only [munimentref01_Same.f]
            exact ev_pos e0 (ev_pos e1 (ev_pos (by rw [e2]) (ev_neg (by omega) hr)))
        · obtain ⟨r, hr, er⟩ := no ((⟨a0, a1, a2, a3, a4⟩ : V) = ⟨b0, b1, b2, b3, b4⟩) (fun h => e2 (by injection h))
          refine ⟨r, ev_succ ?_, er⟩
          simp only [munimentref01_Same.f]
          exact ev_pos e0 (ev_pos e1 (ev_neg (fun h => e2 (toList_inj h)) hr))
      · obtain ⟨r, hr, er⟩ := no ((⟨a0, a1, a2, a3, a4⟩ : V) = ⟨b0, b1, b2, b3, b4⟩) (fun h => e1 (by injection h))
        refine ⟨r, ev_succ ?_, er⟩
        simp only [munimentref01_Same.f]
        exact ev_pos e0 (ev_neg e1 hr)
    · obtain ⟨r, hr, er⟩ := no ((⟨a0, a1, a2, a3, a4⟩ : V) = ⟨b0, b1, b2, b3, b4⟩) (fun h => e0 (by injection h))
      refine ⟨r, ev_succ ?_, er⟩
      simp only [munimentref01_Same.f]
      exact ev_neg e0 hr
end Go.Proofs.YtmphdmhpfghfkaaDoor.Pl
