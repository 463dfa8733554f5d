import Derived.Test.YtmphdmhpfghfkaaDoorZkradKeysD
import Derived.Test.YtmphdmhpfghfkaaDoorZkradPKx29
import Derived.Test.YtmphdmhpfghfkaaDoorZkradPKx30
import Derived.Test.YtmphdmhpfghfkaaDoorZkradPKx31
set_option linter.unusedSimpArgs false
set_option linter.unusedVariables false
namespace Go.Proofs.YtmphdmhpfghfkaaDoor.Pl
open Go.RowKit Go.Proofs.YtmphdmhpfghfkaaDoorW.PrintWords Go.Proofs.YtmphdmhpfghfkaaDoorW.PrintMore Go.Proofs.YtmphdmhpfghfkaaDoor.PK
/-- A text (behind what has been read of it), and what stands behind it. -/
def getT : List Int → List Int → Option (List Int × List Int)
  | [], _ => none
  | [_], _ => none
  | c :: d :: q, acc => if c = 0 then (if d = 0 then some (acc, q) else if d = 255 then getT q (acc ++ [0]) else none) else getT (d :: q) (acc ++ [c])
/-- Members: n of them may come still. -/
def memV (rv : List Int → Option (V × List Int)) (k : Int) : Nat → List Int → List ByteArray → List V → Option (V × List Int)
  | 0, _, _, _ => none
  | _ + 1, [], _, _ => none
  | n + 1, c :: q, ns, xs =>
    if c = 0 then some (⟨k, 0, (⟨#[]⟩ : ByteArray), ns, xs⟩, q)
    else if k = 6 then (if c = 1 then (getT q []).bind fun tr => (rv tr.2).bind fun vr => memV rv k n vr.2 (ns ++ [strOfNums tr.1]) (xs ++ [vr.1]) else none)
    else (rv (c :: q)).bind fun vr => memV rv k n vr.2 ns (xs ++ [vr.1])
/-- A value, nested at most so deep. -/
def readV : Nat → List Int → Option (V × List Int)
  | 0, _ => none
  | _ + 1, [] => none
  | n + 1, c :: q =>
    if c < 1 ∨ c > 7 then none
    else if c = 4 then (if q.length < 8 then none else some (⟨3, wrap64 (IntKind.u64.wrap (num (q.take 8) - 9223372036854775808)), (⟨#[]⟩ : ByteArray), [], []⟩, q.drop 8))
    else if c = 5 then (getT q []).bind fun tr => some (⟨4, 0, strOfNums tr.1, [], []⟩, tr.2)
    else if c = 6 ∨ c = 7 then memV (readV n) (c - 1) 25 q [] []
    else some (⟨c - 1, 0, (⟨#[]⟩ : ByteArray), [], []⟩, q)
theorem strOf_size (l : List Int) : (strOfNums l).size = l.length := by
  rw [← toList_len]
  have e : (strOfNums l).toList = l.map fun n => UInt8.ofNat n.toNat := by
    rw [ByteArray.toList_eq]
    simp [strOfNums]
  rw [e, List.length_map]
/-- What is left is an end of what was there, and what was read is longer than what had been read. -/
theorem getT_end : ∀ (q acc t r : List Int), getT q acc = some (t, r) → ∃ m, r = q.drop m ∧ m ≤ q.length ∧ acc.length ≤ t.length ∧ t.length ≤ acc.length + q.length ∧ 1 ≤ m
  | [], _, _, _, h => by simp [getT] at h
  | [_], _, _, _, h => by simp [getT] at h
  | c :: d :: q, acc, t, r, h => by
    rw [getT] at h
    by_cases c0 : c = 0
    · rw [if_pos c0] at h
      by_cases d0 : d = 0
      · rw [if_pos d0] at h
        simp only [Option.some.injEq, Prod.mk.injEq] at h
        obtain ⟨rfl, rfl⟩ := h
        exact ⟨2, rfl, by simp, by omega, by omega, by omega⟩
      · rw [if_neg d0] at h
        by_cases d1 : d = 255
        · rw [if_pos d1] at h
          obtain ⟨m, e, hm, h1, h2, h3⟩ := getT_end q _ t r h
          rw [List.length_append, List.length_singleton] at h1 h2
          exact ⟨m + 2, by rw [e]; rfl, by simp <;> omega, by omega, by simp <;> omega, by omega⟩
        · rw [if_neg d1] at h
          simp at h
    · rw [if_neg c0] at h
      obtain ⟨m, e, hm, h1, h2, h3⟩ := getT_end (d :: q) _ t r h
      rw [List.length_append, List.length_singleton] at h1 h2
      exact ⟨m + 1, by rw [e]; rfl, by simp at hm ⊢; omega, by omega, by simp at h2 ⊢; omega, by omega⟩
theorem memV_pre {rv : List Int → Option (V × List Int)} {k : Int} : ∀ (n : Nat) (q : List Int) (ns : List ByteArray) (xs : List V) (v : V) (r : List Int), memV rv k n q ns xs = some (v, r) →
    v.f0 = k ∧ v.f1 = 0 ∧ v.f2 = (⟨#[]⟩ : ByteArray) ∧ (∃ a, v.f3 = ns ++ a) ∧ ∃ b, v.f4 = xs ++ b
  | 0, _, _, _, _, _, h => by simp [memV] at h
  | _ + 1, [], _, _, _, _, h => by simp [memV] at h
  | n + 1, c :: q, ns, xs, v, r, h => by
    rw [memV] at h
    by_cases c0 : c = 0
    · rw [if_pos c0] at h
      simp only [Option.some.injEq, Prod.mk.injEq] at h
      obtain ⟨rfl, _⟩ := h
      exact ⟨rfl, rfl, rfl, ⟨[], by simp⟩, [], by simp⟩
    · rw [if_neg c0] at h
      by_cases k6 : k = 6
      · rw [if_pos k6] at h
        by_cases c1 : c = 1
        · rw [if_pos c1] at h
          obtain ⟨tr, _, h⟩ := Option.bind_eq_some_iff.1 h
          obtain ⟨vr, _, h⟩ := Option.bind_eq_some_iff.1 h
          obtain ⟨h0, h1, h2, ⟨a, ha⟩, b, hb⟩ := memV_pre n _ _ _ v r h
          exact ⟨h0, h1, h2, ⟨_, by rw [ha, List.append_assoc]⟩, _, by rw [hb, List.append_assoc]⟩
        · rw [if_neg c1] at h
          simp at h
      · rw [if_neg k6] at h
        obtain ⟨vr, _, h⟩ := Option.bind_eq_some_iff.1 h
        obtain ⟨h0, h1, h2, ⟨a, ha⟩, b, hb⟩ := memV_pre n _ _ _ v r h
        exact ⟨h0, h1, h2, ⟨a, ha⟩, _, by rw [hb, List.append_assoc]⟩
theorem memV_end {rv : List Int → Option (V × List Int)} {k : Int} (ih : ∀ q v r, rv q = some (v, r) → ∃ m, r = q.drop m ∧ m ≤ q.length) : ∀ (n : Nat) (q : List Int) (ns : List ByteArray) (xs : List V) (v : V) (r : List Int), memV rv k n q ns xs = some (v, r) →
    ∃ m, r = q.drop m ∧ m ≤ q.length
  | 0, _, _, _, _, _, h => by simp [memV] at h
  | _ + 1, [], _, _, _, _, h => by simp [memV] at h
  | n + 1, c :: q, ns, xs, v, r, h => by
    rw [memV] at h
    by_cases c0 : c = 0
    · rw [if_pos c0] at h
      simp only [Option.some.injEq, Prod.mk.injEq] at h
      obtain ⟨_, rfl⟩ := h
      exact ⟨1, rfl, by simp⟩
    · rw [if_neg c0] at h
      by_cases k6 : k = 6
      · rw [if_pos k6] at h
        by_cases c1 : c = 1
        · rw [if_pos c1] at h
          obtain ⟨⟨t, r1⟩, ht, h⟩ := Option.bind_eq_some_iff.1 h
          obtain ⟨⟨v1, r2⟩, hv, h⟩ := Option.bind_eq_some_iff.1 h
          obtain ⟨m1, e1, l1, _⟩ := getT_end _ _ _ _ ht
          obtain ⟨m2, e2, l2⟩ := ih _ _ _ hv
          obtain ⟨m3, e3, l3⟩ := memV_end ih n _ _ _ v r h
          simp only at e2 e3 l2 l3
          rw [e1, List.length_drop] at l2
          rw [e2, e1, List.length_drop, List.length_drop] at l3
          refine ⟨1 + m1 + m2 + m3, ?_, by simp <;> omega⟩
          rw [e3, e2, e1, List.drop_drop, List.drop_drop, show 1 + m1 + m2 + m3 = (m1 + (m2 + m3)) + 1 by omega, List.drop_succ_cons]
        · rw [if_neg c1] at h
          simp at h
      · rw [if_neg k6] at h
        obtain ⟨⟨v1, r2⟩, hv, h⟩ := Option.bind_eq_some_iff.1 h
        obtain ⟨m2, e2, l2⟩ := ih _ _ _ hv
        obtain ⟨m3, e3, l3⟩ := memV_end ih n _ _ _ v r h
        simp only at e3 l3
        rw [e2, List.length_drop] at l3
        exact ⟨m2 + m3, by rw [e3, e2, List.drop_drop], by omega⟩
theorem readV_end : ∀ (n : Nat) (q : List Int) (v : V) (r : List Int), readV n q = some (v, r) → ∃ m, r = q.drop m ∧ m ≤ q.length
  | 0, _, _, _, h => by simp [readV] at h
  | _ + 1, [], _, _, h => by simp [readV] at h
  | n + 1, c :: q, v, r, h => by
    have key : ∀ m, r = q.drop m → m ≤ q.length → ∃ m, r = (c :: q).drop m ∧ m ≤ (c :: q).length := fun m e l => ⟨m + 1, by rw [e]; rfl, by simp <;> omega⟩
    rw [readV] at h
    split at h
    · simp at h
    · split at h
      · split at h
        · simp at h
        · simp only [Option.some.injEq, Prod.mk.injEq] at h
          exact key 8 h.2.symm (by omega)
      · split at h
        · obtain ⟨⟨t, r1⟩, ht, h⟩ := Option.bind_eq_some_iff.1 h
          simp only [Option.some.injEq, Prod.mk.injEq] at h
          obtain ⟨m1, e1, l1, _⟩ := getT_end _ _ _ _ ht
          exact key m1 (h.2.symm.trans e1) l1
        · split at h
          · obtain ⟨m, e, l⟩ := memV_end (readV_end n) 25 q [] [] v r h
            exact key m e l
          · simp only [Option.some.injEq, Prod.mk.injEq] at h
            exact key 0 h.2.symm (by omega)
theorem rget_ev : ∀ (n : Nat) (q acc : List Int), q.length ≤ n → acc.length + q.length ≤ 100000 → ∃ t r b, Ev (fun k => munimentref04_get.l0 k q acc) (t, r, b) ∧
    (∀ t' r', getT q acc = some (t', r') → t = strOfNums t' ∧ r = r' ∧ b = true) ∧ (getT q acc = none → b = false)
  | n, [], acc, _, _ => ⟨_, _, _, ev_succ (by simp only [munimentref04_get.l0]; exact ev_neg (by simp) (ev_some rfl)), fun t' r' h => by simp [getT] at h, fun _ => rfl⟩
  | n, [_], acc, _, _ => ⟨_, _, _, ev_succ (by simp only [munimentref04_get.l0]; exact ev_neg (by simp) (ev_some rfl)), fun t' r' h => by simp [getT] at h, fun _ => rfl⟩
  | 0, _ :: _ :: _, _, h, _ => by simp at h
  | n + 1, c :: d :: q, acc, hn, hl => by
    simp only [List.length_cons] at hn hl
    have h0 : rd (c :: d :: q) 0 = c := rfl
    have h1 : rd (c :: d :: q) 1 = d := rfl
    by_cases c0 : c = 0
    · by_cases d0 : d = 0
      · refine ⟨strOfNums acc, q, true, ev_succ ?_, fun t' r' h => ?_, fun h => ?_⟩
        · simp only [munimentref04_get.l0]
          rw [h0, h1]
          refine ev_pos (by simp <;> omega) (ev_pos (by simp <;> omega) (ev_pos c0 (ev_pos (by simp <;> omega) (ev_succ ?_))))
          rw [show (d == 0) = true by simp [d0]]
          simp only [munimentref04_get.j1]
          exact ev_pos trivial (ev_pos (by simp <;> omega) (ev_some rfl))
        · rw [getT, if_pos c0, if_pos d0] at h
          simp only [Option.some.injEq, Prod.mk.injEq] at h
          exact ⟨by rw [h.1], h.2, rfl⟩
        · rw [getT, if_pos c0, if_pos d0] at h
          simp at h
      · by_cases d1 : d = 255
        · obtain ⟨t, r, b, he, h2, h3⟩ := rget_ev n q (acc ++ [0]) (by omega) (by simp <;> omega)
          refine ⟨t, r, b, ev_succ ?_, fun t' r' h => ?_, fun h => ?_⟩
          · simp only [munimentref04_get.l0]
            rw [h0, h1]
            refine ev_pos (by simp <;> omega) (ev_pos (by simp <;> omega) (ev_pos c0 (ev_pos (by simp <;> omega) (ev_succ ?_))))
            rw [show (d == 0) = false by simp [d0]]
            simp only [munimentref04_get.j1]
            rw [h0, h1]
            refine ev_neg (by simp) (ev_pos (by simp <;> omega) (ev_pos c0 (ev_pos (by simp <;> omega) (ev_succ ?_))))
            rw [show (d != 255) = false by simp [d1]]
            simp only [munimentref04_get.j2]
            rw [h0]
            refine ev_neg (by simp) (ev_pos (by simp <;> omega) (ev_pos (by omega) (ev_let (ev_pos c0 (ev_pos (by simp <;> omega) (ev_let (ev_pos (by simp <;> omega) ?_)))))))
            rw [c0]
            exact he
          · rw [getT, if_pos c0, if_neg d0, if_pos d1] at h
            exact h2 t' r' h
          · rw [getT, if_pos c0, if_neg d0, if_pos d1] at h
            exact h3 h
        · refine ⟨(⟨#[]⟩ : ByteArray), [], false, ev_succ ?_, fun t' r' h => ?_, fun h => rfl⟩
          · simp only [munimentref04_get.l0]
            rw [h0, h1]
            refine ev_pos (by simp <;> omega) (ev_pos (by simp <;> omega) (ev_pos c0 (ev_pos (by simp <;> omega) (ev_succ ?_))))
            rw [show (d == 0) = false by simp [d0]]
            simp only [munimentref04_get.j1]
            rw [h0, h1]
            refine ev_neg (by simp) (ev_pos (by simp <;> omega) (ev_pos c0 (ev_pos (by simp <;> omega) (ev_succ ?_))))
            rw [show (d != 255) = true by simp [d1]]
            simp only [munimentref04_get.j2]
            exact ev_pos trivial (ev_some rfl)
          · rw [getT, if_pos c0, if_neg d0, if_neg d1] at h
            simp at h
    · obtain ⟨t, r, b, he, h2, h3⟩ := rget_ev n (d :: q) (acc ++ [c]) (by simp <;> omega) (by simp <;> omega)
      refine ⟨t, r, b, ev_succ ?_, fun t' r' h => ?_, fun h => ?_⟩
      · simp only [munimentref04_get.l0]
        rw [h0]
        refine ev_pos (by simp <;> omega) (ev_pos (by simp <;> omega) (ev_neg c0 (ev_succ ?_)))
        simp only [munimentref04_get.j1]
        rw [h0]
        refine ev_neg (by simp) (ev_pos (by simp <;> omega) (ev_neg c0 (ev_succ ?_)))
        simp only [munimentref04_get.j2]
        rw [h0]
        refine ev_neg (by simp) (ev_pos (by simp <;> omega) (ev_pos (by omega) (ev_let (ev_neg c0 (ev_pos (by simp <;> omega) ?_)))))
        exact he
      · rw [getT, if_neg c0] at h
        exact h2 t' r' h
      · rw [getT, if_neg c0] at h
        exact h3 h
theorem rnum_loop (x : List Int) (hx : x.length = 8) (q : List Int) (k0 k1 : Int) (k2 : ByteArray) (hb : Bytes x) : ∀ (r p : List Int), x = p ++ r →
    Ev (fun k => munimentref04_value.l0 k (x ++ q) (num p) (p.length : Int) k0 k1 k2) (k0, wrap64 (IntKind.u64.wrap (num x - 9223372036854775808)), k2, [], [], q, true)
  | [], p, e => by
    rw [List.append_nil] at e
    subst e
    refine ev_succ ?_
    simp only [munimentref04_value.l0]
    refine ev_neg (by omega) (ev_pos (by simp <;> omega) (ev_some ?_))
    rw [← hx, List.drop_left]
  | c :: r, p, e => by
    have hl : x.length = p.length + (r.length + 1) := by rw [e, List.length_append, List.length_cons]
    have ih := rnum_loop x hx q k0 k1 k2 hb r (p ++ [c]) (by rw [e]; simp)
    have hp := num_bound (l := p) (by rw [e] at hb; exact hb.left)
    have hc : Byte c := by rw [e] at hb; exact hb.right.head
    unfold Byte at hc
    have hp2 : (256 : Int) ^ p.length ≤ 256 ^ 7 := by
      have : (256 : Int) ^ 7 = 256 ^ p.length * 256 ^ (7 - p.length) := by rw [← Int.pow_add]; congr 1; omega
      rw [this]
      have h1 : (1 : Int) ≤ 256 ^ (7 - p.length) := Int.pow_pos (by omega)
      have h2 : (0 : Int) < 256 ^ p.length := Int.pow_pos (by omega)
      have := Int.mul_le_mul_of_nonneg_left h1 (Int.le_of_lt h2)
      omega
    have hr : rd (x ++ q) (p.length : Int) = c := by rw [e, List.append_assoc]; exact rd_mid _ _ _
    have w1 : wrap64 ((p.length : Int) + 1) = ((p ++ [c]).length : Int) := by rw [wrap64_id (by omega) (by omega)]; simp
    have w2 : IntKind.u64.wrap ((IntKind.u64.wrap (num p * 256)) + (IntKind.u64.wrap c)) = num (p ++ [c]) := by
      rw [num_append, wrapU64_id (x := num p * 256) (by omega) (by omega), wrapU64_id (x := c) (by omega) (by omega), wrapU64_id (by omega) (by omega)]
    refine ev_succ ?_
    simp only [munimentref04_value.l0]
    rw [hr, w1, w2]
    exact ev_pos (by omega) (ev_pos (by omega) (ev_pos (by simp <;> omega) ih))
/-- What is told of a reference's reading. -/
def RTold (o : Option (V × List Int)) (R : Int × Int × ByteArray × List ByteArray × List V × List Int × Bool) : Prop :=
  (∀ v r, o = some (v, r) → R = (v.f0, v.f1, v.f2, v.f3, v.f4, r, true)) ∧ (o = none → R.2.2.2.2.2.2 = false)
theorem RTold.some {v : V} {r : List Int} {R} (h : R = (v.f0, v.f1, v.f2, v.f3, v.f4, r, true)) : RTold (some (v, r)) R :=
  ⟨fun v' r' e => by simp only [Option.some.injEq, Prod.mk.injEq] at e; obtain ⟨rfl, rfl⟩ := e; exact h, fun e => by simp at e⟩
theorem RTold.none {R : Int × Int × ByteArray × List ByteArray × List V × List Int × Bool} (h : R.2.2.2.2.2.2 = false) : RTold none R := ⟨fun v r e => by simp at e, fun _ => h⟩
theorem rmem_ev (d : Nat) (hd : d ≤ 6) (ih : ∀ q : List Int, Bytes q → q.length ≤ 2000 → ∃ R, Ev (fun k => munimentref04_value.f k q (d : Int)) R ∧ RTold (readV d q) R) (kd : Int) :
    ∀ (n : Nat) (q : List Int) (ns : List ByteArray) (xs : List V), Bytes q → q.length ≤ 2000 → xs.length + n = 25 → ns.length ≤ xs.length →
    ∃ R, Ev (fun k => munimentref04_members.l0 k q ((d + 1 : Nat) : Int) kd 0 (⟨#[]⟩ : ByteArray) ns xs) R ∧ RTold (memV (readV d) kd n q ns xs) R := by
  have dd := depth_down hd
  intro n
  induction n with
  | zero =>
    intro q ns xs hq hl hx hn
    have q1 : decide ((xs.length : Int) ≤ 24) = false := decide_eq_false (by omega)
    have stop : Ev (fun k => munimentref04_members.j1 k q ((d + 1 : Nat) : Int) false kd 0 (⟨#[]⟩ : ByteArray) ns xs) (kd, 0, (⟨#[]⟩ : ByteArray), ns, xs, [], false) := by
      refine ev_succ ?_
      simp only [munimentref04_members.j1]
      exact ev_neg (by simp) (ev_some rfl)
    refine ⟨_, ev_succ ?_, RTold.none (R := (kd, 0, (⟨#[]⟩ : ByteArray), ns, xs, [], false)) rfl⟩
    simp only [munimentref04_members.l0]
    rw [q1]
    exact ev_ite (fun _ => stop) (fun _ => stop)
  | succ n jh =>
    intro q ns xs hq hl hx hn
    cases q with
    | nil =>
      refine ⟨(kd, 0, (⟨#[]⟩ : ByteArray), ns, xs, [], false), ev_succ ?_, by rw [memV]; exact RTold.none rfl⟩
      simp only [munimentref04_members.l0]
      refine ev_neg (by simp) (ev_succ ?_)
      simp only [munimentref04_members.j1]
      exact ev_neg (by simp) (ev_some rfl)
    | cons c q =>
      have h0 : rd (c :: q) 0 = c := rfl
      have hq' : Bytes q := hq.tail
      have hl' : q.length ≤ 2000 := by simp at hl; omega
      have q1 : decide ((xs.length : Int) ≤ 24) = true := decide_eq_true (by omega)
      have start : ∀ R, Ev (fun k => munimentref04_members.j1 k (c :: q) ((d + 1 : Nat) : Int) true kd 0 (⟨#[]⟩ : ByteArray) ns xs) R → Ev (fun k => munimentref04_members.l0 k (c :: q) ((d + 1 : Nat) : Int) kd 0 (⟨#[]⟩ : ByteArray) ns xs) R := by
        intro R h
        refine ev_succ ?_
        simp only [munimentref04_members.l0]
        rw [q1]
        exact ev_pos (by simp <;> omega) h
      by_cases c0 : c = 0
      · refine ⟨(kd, 0, (⟨#[]⟩ : ByteArray), ns, xs, q, true), start _ (ev_succ ?_), by rw [memV, if_pos c0]; exact RTold.some rfl⟩
        simp only [munimentref04_members.j1]
        rw [h0]
        exact ev_pos trivial (ev_pos (by simp <;> omega) (ev_pos c0 (ev_pos (by simp <;> omega) (ev_some rfl))))
      · by_cases k6 : kd = 6
        · by_cases c1 : c = 1
          · obtain ⟨t, r, b, hg, g1, g2⟩ := rget_ev q.length q [] (Nat.le_refl _) (by simp <;> omega)
            have hg' : Ev (fun k => munimentref04_get.f k q) (t, r, b) := by unfold munimentref04_get.f; exact hg
            cases hG : getT q [] with
            | none =>
              have hb := g2 hG
              refine ⟨(kd, 0, (⟨#[]⟩ : ByteArray), ns, xs, [], false), start _ (ev_succ ?_), by rw [memV, if_neg c0, if_pos k6, if_pos c1, hG]; exact RTold.none rfl⟩
              simp only [munimentref04_members.j1]
              rw [h0]
              refine ev_pos trivial (ev_pos (by simp <;> omega) (ev_neg c0 (ev_pos k6 (ev_pos c1 (ev_pos (by simp <;> omega) (ev_bind hg' (ev_neg (by rw [hb]; simp) (ev_some rfl))))))))
            | some tr =>
              obtain ⟨t', r'⟩ := tr
              obtain ⟨e1, e2, e3⟩ := g1 t' r' hG
              subst e1
              subst e2
              subst e3
              obtain ⟨m, em, hm, _⟩ := getT_end _ _ _ _ hG
              have br : Bytes r := by rw [em]; exact fun x hx' => hq' x (List.mem_of_mem_drop hx')
              have lr : r.length ≤ 2000 := by rw [em, List.length_drop]; omega
              obtain ⟨R, hR, R1, R2⟩ := ih r br lr
              cases hV : readV d r with
              | none =>
                have hb := R2 hV
                refine ⟨(kd, 0, (⟨#[]⟩ : ByteArray), ns ++ [strOfNums t'], xs, [], false), start _ (ev_succ ?_), by rw [memV, if_neg c0, if_pos k6, if_pos c1, hG]; simp only [Option.bind_some]; rw [hV]; exact RTold.none rfl⟩
                simp only [munimentref04_members.j1]
                rw [h0, dd]
                refine ev_pos trivial (ev_pos (by simp <;> omega) (ev_neg c0 (ev_pos k6 (ev_pos c1 (ev_pos (by simp <;> omega) (ev_bind hg' (ev_pos rfl (ev_pos (by omega) (ev_let (ev_bind hR (ev_neg (by rw [hb]; simp) (ev_some rfl))))))))))))
              | some vr =>
                obtain ⟨v1, r1⟩ := vr
                have eR := R1 v1 r1 hV
                subst eR
                obtain ⟨m1, em1, hm1⟩ := readV_end _ _ _ _ hV
                obtain ⟨R', hR', T'⟩ := jh r1 (ns ++ [strOfNums t']) (xs ++ [v1]) (by rw [em1]; exact fun x hx' => br x (List.mem_of_mem_drop hx')) (by rw [em1, List.length_drop]; omega) (by simp <;> omega) (by simp <;> omega)
                refine ⟨R', start _ (ev_succ ?_), by rw [memV, if_neg c0, if_pos k6, if_pos c1, hG]; simp only [Option.bind_some]; rw [hV]; exact T'⟩
                simp only [munimentref04_members.j1]
                rw [h0, dd]
                refine ev_pos trivial (ev_pos (by simp <;> omega) (ev_neg c0 (ev_pos k6 (ev_pos c1 (ev_pos (by simp <;> omega) (ev_bind hg' (ev_pos rfl (ev_pos (by omega) (ev_let (ev_bind hR (ev_pos rfl (ev_pos (by omega) ?_))))))))))))
                simp only [v_eta]
                exact hR'
          · refine ⟨(kd, 0, (⟨#[]⟩ : ByteArray), ns, xs, [], false), start _ (ev_succ ?_), by rw [memV, if_neg c0, if_pos k6, if_neg c1]; exact RTold.none rfl⟩
            simp only [munimentref04_members.j1]
            rw [h0]
            exact ev_pos trivial (ev_pos (by simp <;> omega) (ev_neg c0 (ev_pos k6 (ev_neg c1 (ev_some rfl)))))
        · obtain ⟨R, hR, R1, R2⟩ := ih (c :: q) hq hl
          cases hV : readV d (c :: q) with
          | none =>
            have hb := R2 hV
            refine ⟨(kd, 0, (⟨#[]⟩ : ByteArray), ns, xs, [], false), start _ (ev_succ ?_), by rw [memV, if_neg c0, if_neg k6, hV]; exact RTold.none rfl⟩
            simp only [munimentref04_members.j1]
            rw [h0, dd]
            exact ev_pos trivial (ev_pos (by simp <;> omega) (ev_neg c0 (ev_neg k6 (ev_bind hR (ev_neg (by rw [hb]; simp) (ev_some rfl))))))
          | some vr =>
            obtain ⟨v1, r1⟩ := vr
            have eR := R1 v1 r1 hV
            subst eR
            obtain ⟨m1, em1, hm1⟩ := readV_end _ _ _ _ hV
            obtain ⟨R', hR', T'⟩ := jh r1 ns (xs ++ [v1]) (by rw [em1]; exact fun x hx' => hq x (List.mem_of_mem_drop hx')) (by rw [em1, List.length_drop]; omega) (by simp <;> omega) (by simp <;> omega)
            refine ⟨R', start _ (ev_succ ?_), by rw [memV, if_neg c0, if_neg k6, hV]; exact T'⟩
            simp only [munimentref04_members.j1]
            rw [h0, dd]
            refine ev_pos trivial (ev_pos (by simp <;> omega) (ev_neg c0 (ev_neg k6 (ev_bind hR (ev_pos rfl (ev_pos (by omega) ?_))))))
            simp only [v_eta]
            exact hR'
theorem kind_read {c : Int} (h0 : 1 ≤ c) (h1 : c ≤ 7) : wrap64 (wrap64 c - 1) = c - 1 := by
  rw [wrap64_id (x := c) (by omega) (by omega), wrap64_id (by omega) (by omega)]
theorem rvalue_ev : ∀ (d : Nat), d ≤ 6 → ∀ q : List Int, Bytes q → q.length ≤ 2000 → ∃ R, Ev (fun k => munimentref04_value.f k q (d : Int)) R ∧ RTold (readV d q) R := by
  have bad : ∀ (q : List Int) (d : Int), Ev (fun k => munimentref04_value.j0 k q d true) (0, 0, (⟨#[]⟩ : ByteArray), [], [], [], false) := by
    intro q d
    refine ev_succ ?_
    simp only [munimentref04_value.j0]
    exact ev_pos trivial (ev_some rfl)
  intro d
  induction d with
  | zero =>
    intro hd q hq hl
    refine ⟨_, ev_succ ?_, RTold.none (R := (0, 0, (⟨#[]⟩ : ByteArray), [], [], [], false)) rfl⟩
    simp only [munimentref04_value.f]
    exact ev_ite (fun _ => bad _ _) (fun _ => ev_pos rfl (bad _ _))
  | succ d ih =>
    intro hd q hq hl
    cases q with
    | nil =>
      refine ⟨(0, 0, (⟨#[]⟩ : ByteArray), [], [], [], false), ev_succ ?_, by rw [readV]; exact RTold.none rfl⟩
      simp only [munimentref04_value.f]
      exact ev_pos rfl (bad _ _)
    | cons c q =>
      have h0 : rd (c :: q) 0 = c := rfl
      have hq' : Bytes q := hq.tail
      have hl' : q.length ≤ 2000 := by simp at hl; omega
      have hc : Byte c := hq.head
      unfold Byte at hc
      by_cases c1 : c < 1
      · refine ⟨(0, 0, (⟨#[]⟩ : ByteArray), [], [], [], false), ev_succ ?_, by rw [readV, if_pos (.inl c1)]; exact RTold.none rfl⟩
        simp only [munimentref04_value.f]
        rw [h0]
        exact ev_neg (by simp <;> omega) (ev_neg (by omega) (ev_pos (by simp <;> omega) (ev_pos c1 (bad _ _))))
      by_cases c7 : c > 7
      · refine ⟨(0, 0, (⟨#[]⟩ : ByteArray), [], [], [], false), ev_succ ?_, by rw [readV, if_pos (.inr c7)]; exact RTold.none rfl⟩
        simp only [munimentref04_value.f]
        rw [h0, decide_eq_true c7]
        exact ev_neg (by simp <;> omega) (ev_neg (by omega) (ev_pos (by simp <;> omega) (ev_neg c1 (bad _ _))))
      have kk := kind_read (c := c) (by omega) (by omega)
      have nn : ¬ (c < 1 ∨ c > 7) := by omega
      have start : ∀ R, Ev (fun k => munimentref04_value.j0 k (c :: q) ((d + 1 : Nat) : Int) false) R → Ev (fun k => munimentref04_value.f k (c :: q) ((d + 1 : Nat) : Int)) R := by
        intro R h
        refine ev_succ ?_
        simp only [munimentref04_value.f]
        rw [h0, decide_eq_false c7]
        exact ev_neg (by simp <;> omega) (ev_neg (by omega) (ev_pos (by simp <;> omega) (ev_neg c1 h)))
      by_cases k3 : c = 4
      · by_cases l8 : q.length < 8
        · refine ⟨(3, 0, (⟨#[]⟩ : ByteArray), [], [], [], false), start _ (ev_succ ?_), by rw [readV, if_neg nn, if_pos k3, if_pos l8]; exact RTold.none rfl⟩
          simp only [munimentref04_value.j0]
          rw [h0, kk]
          refine ev_neg (by simp) (ev_pos (by simp <;> omega) (ev_pos (by simp <;> omega) (ev_let (ev_pos (by omega) (ev_pos (by simp <;> omega) (ev_some ?_))))))
          rw [k3]
          rfl
        · have hr := rnum_loop (q.take 8) (by rw [List.length_take]; omega) (q.drop 8) 3 0 (⟨#[]⟩ : ByteArray) (fun x hx => hq' x (List.mem_of_mem_take hx)) (q.take 8) [] rfl
          rw [List.take_append_drop] at hr
          refine ⟨(3, wrap64 (IntKind.u64.wrap (num (q.take 8) - 9223372036854775808)), (⟨#[]⟩ : ByteArray), [], [], q.drop 8, true), start _ (ev_succ ?_), by rw [readV, if_neg nn, if_pos k3, if_neg l8]; exact RTold.some rfl⟩
          simp only [munimentref04_value.j0]
          rw [h0, kk]
          refine ev_neg (by simp) (ev_pos (by simp <;> omega) (ev_pos (by simp <;> omega) (ev_let (ev_pos (by omega) (ev_neg (by simp <;> omega) ?_)))))
          rw [k3]
          exact hr
      · by_cases k4 : c = 5
        · obtain ⟨t, r, b, hg, g1, g2⟩ := rget_ev q.length q [] (Nat.le_refl _) (by simp <;> omega)
          have hg' : Ev (fun k => munimentref04_get.f k q) (t, r, b) := by unfold munimentref04_get.f; exact hg
          refine ⟨(4, 0, t, [], [], r, b), start _ (ev_succ ?_), ?_⟩
          · simp only [munimentref04_value.j0]
            rw [h0, kk]
            refine ev_neg (by simp) (ev_pos (by simp <;> omega) (ev_pos (by simp <;> omega) (ev_let (ev_neg (by omega) (ev_pos (by omega) (ev_bind hg' (ev_some ?_)))))))
            rw [k4]
            rfl
          · rw [readV, if_neg nn, if_neg k3, if_pos k4]
            cases hG : getT q [] with
            | none => exact RTold.none (g2 hG)
            | some tr =>
              obtain ⟨e1, e2, e3⟩ := g1 tr.1 tr.2 hG
              rw [e1, e2, e3]
              exact RTold.some rfl
        · by_cases k56 : c = 6 ∨ c = 7
          · obtain ⟨R, hR, T⟩ := rmem_ev d (by omega) (ih (by omega)) (c - 1) 25 q [] [] hq' hl' rfl (by simp)
            have hm : Ev (fun k => munimentref04_members.f k (c - 1) 0 (⟨#[]⟩ : ByteArray) [] [] q ((d + 1 : Nat) : Int)) R := by
              refine ev_succ ?_
              simp only [munimentref04_members.f]
              exact hR
            refine ⟨R, start _ (ev_succ ?_), by rw [readV, if_neg nn, if_neg k3, if_neg k4, if_pos k56]; exact T⟩
            simp only [munimentref04_value.j0]
            rw [h0, kk]
            refine ev_neg (by simp) (ev_pos (by simp <;> omega) (ev_pos (by simp <;> omega) (ev_let (ev_neg (by omega) (ev_neg (by omega) ?_)))))
            exact ev_ite (fun _ => ev_bind hm (ev_some rfl)) (fun _ => ev_ite (fun _ => ev_bind hm (ev_some rfl)) (fun _ => by omega))
          · refine ⟨(c - 1, 0, (⟨#[]⟩ : ByteArray), [], [], q, true), start _ (ev_succ ?_), by rw [readV, if_neg nn, if_neg k3, if_neg k4, if_neg k56]; exact RTold.some rfl⟩
            simp only [munimentref04_value.j0]
            rw [h0, kk]
            exact ev_neg (by simp) (ev_pos (by simp <;> omega) (ev_pos (by simp <;> omega) (ev_let (ev_neg (by omega) (ev_neg (by omega) (ev_neg (by omega) (ev_neg (by omega) (ev_some rfl))))))))
end Go.Proofs.YtmphdmhpfghfkaaDoor.Pl
