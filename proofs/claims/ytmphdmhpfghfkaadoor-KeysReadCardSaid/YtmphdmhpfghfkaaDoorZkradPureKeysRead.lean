import Derived.Test.YtmphdmhpfghfkaaDoorZkradKeysG
import Derived.Test.YtmphdmhpfghfkaaDoorZkradKeysR
import Derived.Test.YtmphdmhpfghfkaaDoorZkradPKx29
import Derived.Test.YtmphdmhpfghfkaaDoorZkradPKx34
import Derived.Test.YtmphdmhpfghfkaaDoorZkradPKx36
set_option linter.unusedSimpArgs false
set_option linter.unusedVariables false
namespace Go.Proofs.YtmphdmhpfghfkaaDoor.Pl
open Go.RowKit Go.Proofs.YtmphdmhpfghfkaaDoorW.PrintWords Go.Proofs.YtmphdmhpfghfkaaDoorW.PrintMore Go.Proofs.YtmphdmhpfghfkaaDoor.PK
/-- What both tell. -/
def told (s : List Int) : Int × Int × ByteArray × List ByteArray × List V × Int × Int :=
  match readV 6 s with
  | none => (0, 0, (⟨#[]⟩ : ByteArray), [], [], 0, 11)
  | some (v, r) => if fm 6 v = true then (v.f0, v.f1, v.f2, v.f3, v.f4, ((s.length - r.length : Nat) : Int), 0) else (0, 0, (⟨#[]⟩ : ByteArray), [], [], 0, 11)
theorem read_all {s : List Int} (hl : s.length ≤ 2000) (hb : Bytes s) : Ev (fun k => keys_Read.f k s) (told s) := by
  obtain ⟨R, hR, ⟨p, ep, _, gp, pl⟩, al, fi⟩ := pvalue (s := s) (by unfold Fit; omega) hb 6 (by omega) 0 (by omega)
  rw [List.drop_zero] at pl al
  unfold keys_Read.f keys_reader_read.f
  refine ev_bind (b := (R.1, R.2.1, R.2.2.1, R.2.2.2.1, R.2.2.2.2.1, R.2.2.2.2.2.1, R.2.2.2.2.2.2 || !(fm 6 R.v))) (ev_bind hR (ev_ite (fun h => ev_some (by rw [h]; rfl)) (fun h => ?_))) ?_
  · simp only [Bool.not_eq_true] at h
    refine ev_bind (Formed_ev fi) (ev_some ?_)
    rw [h, Bool.false_or]
  · refine ev_ite (fun h => ev_some ?_) (fun h => ev_some ?_)
    · unfold told
      cases e : readV 6 s with
      | none => rfl
      | some vr =>
        obtain ⟨v, r⟩ := vr
        show _ = if fm 6 v = true then _ else _
        by_cases f : fm 6 v = true
        · obtain ⟨h1, h2⟩ := al v r e f
          simp only [h1, h2, f] at h
          simp at h
        · rw [if_neg f]
    · have h' : R.2.2.2.2.2.2 = false ∧ fm 6 R.v = true := by
        constructor
        · cases hh : R.2.2.2.2.2.2 with
          | false => rfl
          | true => exact absurd (by rw [hh]; rfl) h
        · cases hh : fm 6 R.v with
          | true => rfl
          | false => exact absurd (by rw [hh]; simp) h
      have e := pl h'.1 h'.2
      unfold told
      rw [e]
      show _ = if fm 6 R.v = true then _ else _
      rw [if_pos h'.2, ep]
      have : s.length - (s.drop p).length = p := by rw [List.length_drop]; omega
      rw [this]
      rfl
theorem rread_all {s : List Int} (hl : s.length ≤ 2000) (hb : Bytes s) (hfin : ∀ v r, readV 6 s = some (v, r) → ∃ n, FineN n v) : Ev (fun k => munimentref04_Read.f k s) (told s) := by
  obtain ⟨R, hR, R1, R2⟩ := rvalue_ev 6 (by omega) s hb hl
  unfold munimentref04_Read.f
  refine ev_bind hR ?_
  unfold told
  cases e : readV 6 s with
  | none => exact ev_neg (by rw [R2 e]; simp) (ev_some rfl)
  | some vr =>
    obtain ⟨v, r⟩ := vr
    have eR := R1 v r e
    subst eR
    obtain ⟨n, hn⟩ := hfin v r e
    refine ev_pos rfl (ev_bind (rFormed_ev hn) ?_)
    by_cases f : fm 6 v = true
    · obtain ⟨m, em, hm⟩ := readV_end _ _ _ _ e
      refine ev_pos f (ev_some ?_)
      show _ = if fm 6 v = true then _ else _
      rw [if_pos f]
      have : wrap64 ((s.length : Int) - (r.length : Int)) = ((s.length - r.length : Nat) : Int) := by
        have : r.length ≤ s.length := by rw [em, List.length_drop]; omega
        rw [wrap64_id (by omega) (by omega)]
        omega
      show (_, _, _, _, _, wrap64 ((s.length : Int) - (r.length : Int)), _) = _
      rw [this]
    · refine ev_neg f (ev_some ?_)
      show _ = if fm 6 v = true then _ else _
      rw [if_neg f]
/-- What is read is of a fit size, formed or not. -/
theorem getT_fine {q acc t r : List Int} (h : getT q acc = some (t, r)) : t.length ≤ acc.length + q.length := (getT_end _ _ _ _ h).choose_spec.2.2.2.1
theorem memV_fine {rv : List Int → Option (V × List Int)} {k : Int} (hk : (Lit.int .i64 k).wf = true) {d : Nat} (ih : ∀ q v r, q.length ≤ 2000 → rv q = some (v, r) → FineN d v) (ie : ∀ q v r, rv q = some (v, r) → ∃ m, r = q.drop m ∧ m ≤ q.length) : ∀ (n : Nat) (q : List Int) (ns : List ByteArray) (xs : List V) (v : V) (r : List Int), q.length ≤ 2000 →
    (∀ x ∈ ns, x.size ≤ 2000) → (∀ x ∈ xs, FineN d x) → ns.length + n ≤ 25 → xs.length + n ≤ 25 → memV rv k n q ns xs = some (v, r) → FineN (d + 1) v
  | 0, _, _, _, _, _, _, _, _, _, _, h => by simp [memV] at h
  | _ + 1, [], _, _, _, _, _, _, _, _, _, h => by simp [memV] at h
  | n + 1, c :: q, ns, xs, v, r, hq, h1, h2, h3, h4, h => by
    rw [List.length_cons] at hq
    rw [memV] at h
    by_cases c0 : c = 0
    · rw [if_pos c0] at h
      simp only [Option.some.injEq, Prod.mk.injEq] at h
      obtain ⟨rfl, _⟩ := h
      exact ⟨hk, wf0, Nat.zero_le _, by show ns.length ≤ maxLen; unfold maxLen; omega, fun x hx => by have := h1 x hx; unfold maxLen; omega, by show xs.length ≤ maxLen; unfold maxLen; omega, h2⟩
    · rw [if_neg c0] at h
      by_cases k6 : k = 6
      · rw [if_pos k6] at h
        by_cases c1 : c = 1
        · rw [if_pos c1] at h
          obtain ⟨⟨t, r1⟩, ht, h⟩ := Option.bind_eq_some_iff.1 h
          obtain ⟨⟨v1, r2⟩, hv, h⟩ := Option.bind_eq_some_iff.1 h
          obtain ⟨m1, e1, l1, _⟩ := getT_end _ _ _ _ ht
          have lt := getT_fine ht
          rw [List.length_nil] at lt
          have l1' : r1.length ≤ 2000 := by rw [e1, List.length_drop]; omega
          obtain ⟨m2, e2, _⟩ := ie _ _ _ hv
          have l2' : r2.length ≤ 2000 := by rw [e2, List.length_drop]; simp only; omega
          refine memV_fine hk ih ie n r2 _ _ v r l2' (fun x hx => ?_) (fun x hx => ?_) (by simp <;> omega) (by simp <;> omega) h
          · rcases List.mem_append.1 hx with h | h
            · exact h1 x h
            · rw [List.mem_singleton.1 h, strOf_size]
              show t.length ≤ 2000
              omega
          · rcases List.mem_append.1 hx with h | h
            · exact h2 x h
            · rw [List.mem_singleton.1 h]
              exact ih _ _ _ l1' hv
        · rw [if_neg c1] at h
          simp at h
      · rw [if_neg k6] at h
        obtain ⟨⟨v1, r2⟩, hv, h⟩ := Option.bind_eq_some_iff.1 h
        obtain ⟨m2, e2, _⟩ := ie _ _ _ hv
        have l2' : r2.length ≤ 2000 := by rw [e2, List.length_drop, List.length_cons]; omega
        refine memV_fine hk ih ie n r2 _ _ v r l2' h1 (fun x hx => ?_) (by omega) (by simp <;> omega) h
        rcases List.mem_append.1 hx with h | h
        · exact h2 x h
        · rw [List.mem_singleton.1 h]
          exact ih _ _ _ (by rw [List.length_cons]; omega) hv
theorem readV_fine : ∀ (n : Nat) (q : List Int) (v : V) (r : List Int), q.length ≤ 2000 → readV n q = some (v, r) → FineN (n + 1) v
  | 0, _, _, _, _, h => by simp [readV] at h
  | _ + 1, [], _, _, _, h => by simp [readV] at h
  | n + 1, c :: q, v, r, hq, h => by
    rw [List.length_cons] at hq
    rw [readV] at h
    by_cases nn : c < 1 ∨ c > 7
    · rw [if_pos nn] at h
      simp at h
    · rw [if_neg nn] at h
      have hk : (Lit.int .i64 (c - 1)).wf = true := wf_range (by omega) (by omega)
      by_cases k3 : c = 4
      · rw [if_pos k3] at h
        by_cases l8 : q.length < 8
        · rw [if_pos l8] at h
          simp at h
        · rw [if_neg l8] at h
          simp only [Option.some.injEq, Prod.mk.injEq] at h
          obtain ⟨rfl, _⟩ := h
          exact fine_leafV (by decide) (wf_wrap64 _) emp60
      · rw [if_neg k3] at h
        by_cases k4 : c = 5
        · rw [if_pos k4] at h
          obtain ⟨⟨t, r1⟩, ht, h⟩ := Option.bind_eq_some_iff.1 h
          simp only [Option.some.injEq, Prod.mk.injEq] at h
          obtain ⟨rfl, _⟩ := h
          have lt := getT_fine ht
          rw [List.length_nil] at lt
          exact ⟨show (Lit.int .i64 4).wf = true by decide, wf0, by show (strOfNums t).size ≤ maxLen; rw [strOf_size]; unfold maxLen; omega, Nat.zero_le _, fun x hx => by simp at hx, Nat.zero_le _, fun x hx => by simp at hx⟩
        · rw [if_neg k4] at h
          by_cases k56 : c = 6 ∨ c = 7
          · rw [if_pos k56] at h
            exact memV_fine hk (fun q v r hq h => readV_fine n q v r hq h) (readV_end n) 25 q [] [] v r (by omega) (fun _ h => by simp at h) (fun _ h => by simp at h) (by simp) (by simp) h
          · rw [if_neg k56] at h
            simp only [Option.some.injEq, Prod.mk.injEq] at h
            obtain ⟨rfl, _⟩ := h
            exact fine_leafV hk wf0 emp60
theorem keysRead_ev (l : List Int) (hb : Bytes l) : Ev (fun k => munimentlaw04_KeysRead.f k l) true := by
  have out : Ev (fun k => munimentlaw04_KeysRead.j0 k l true) true := by
    refine ev_succ ?_
    simp only [munimentlaw04_KeysRead.j0]
    exact ev_pos trivial (ev_bind awake4_ev (ev_some rfl))
  unfold munimentlaw04_KeysRead.f
  refine ev_bind awake4_ev (ev_pos rfl ?_)
  by_cases h : (l.length : Int) > 2000
  · rw [decide_eq_true h]
    exact out
  rw [decide_eq_false h]
  refine ev_succ ?_
  simp only [munimentlaw04_KeysRead.j0]
  have fin : ∃ n, FineN n (⟨(told l).1, (told l).2.1, (told l).2.2.1, (told l).2.2.2.1, (told l).2.2.2.2.1⟩ : V) := by
    unfold told
    cases e : readV 6 l with
    | none => exact ⟨1, fine_leafV wf0 wf0 emp60⟩
    | some vr =>
      obtain ⟨v, r⟩ := vr
      have := readV_fine 6 l v r (by omega) e
      by_cases f : fm 6 v = true
      · refine ⟨7, ?_⟩
        simp only [if_pos f]
        exact this
      · refine ⟨1, ?_⟩
        simp only [if_neg f]
        exact fine_leafV wf0 wf0 emp60
  obtain ⟨n, hn⟩ := fin
  obtain ⟨t, ht, hi⟩ := same_ev n _ _ hn
  exact ev_neg (by simp) (ev_bind (read_all (by omega) hb) (ev_bind (rread_all (by omega) hb (fun v r e => ⟨7, readV_fine 6 l v r (by omega) e⟩)) (ev_pos rfl (ev_pos rfl (ev_bind ht (ev_some (hi.2 rfl)))))))
end Go.Proofs.YtmphdmhpfghfkaaDoor.Pl
