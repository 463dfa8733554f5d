/- The plain law of StampReads: both ways of reading a key's bytes come to one word. -/
import Derived.Test.YtpbcjhckhocgeaaPureStampWrites
import Derived.Test.YtpbcjhckhocgeaaPSx12
import Derived.Test.YtpbcjhckhocgeaaPSx13
import Derived.Test.YtpbcjhckhocgeaaPSx14
import Derived.Test.YtpbcjhckhocgeaaPSx15
set_option linter.unusedSimpArgs false
set_option linter.unusedVariables false
namespace Go.Proofs.Ytpbcjhckhocgeaa.Pl
open Go.RowKit Go.Proofs.YtpbcjhckhocgeaaW.PrintWords Go.Proofs.YtpbcjhckhocgeaaW.PrintMore Go.Proofs.Ytpbcjhckhocgeaa.PS

theorem bytes_inj {a b : List Int} (ha : Bytes a) (hb : Bytes b) (h : (strOfNums a).toList = (strOfNums b).toList) : a = b := by
  have e : ∀ l : List Int, (strOfNums l).toList = l.map fun n => UInt8.ofNat n.toNat := by
    intro l
    rw [ByteArray.toList_eq]
    simp [strOfNums]
  rw [e, e] at h
  clear e
  induction a generalizing b with
  | nil =>
    cases b with
    | nil => rfl
    | cons y b => simp at h
  | cons x a ih =>
    cases b with
    | nil => simp at h
    | cons y b =>
      rw [List.map_cons, List.map_cons] at h
      obtain ⟨h1, h2⟩ := List.cons.inj h
      have hx := ha.head
      have hy := hb.head
      unfold Byte at hx hy
      have h3 := congrArg UInt8.toNat h1
      simp only [UInt8.toNat_ofNat'] at h3
      have h4 : x = y := by
        rw [Nat.mod_eq_of_lt (by omega), Nat.mod_eq_of_lt (by omega)] at h3
        omega
      rw [h4, ih ha.tail hb.tail h2]
theorem equal_eq {a b : List Int} (ha : Bytes a) (hb : Bytes b) : bytes_Equal.f a b = some (decide (a = b)) := by
  unfold bytes_Equal.f
  congr 1
  rw [Bool.eq_iff_iff]
  simp only [beq_iff_eq, decide_eq_true_eq]
  exact ⟨fun h => bytes_inj ha hb h, fun h => h ▸ rfl⟩

theorem get64_loop : ∀ (r p : List Int), (p ++ r).length ≤ 8 → Bytes (p ++ r) → Ev (fun k => stamp_get64.l0 k (num p) (p ++ r) ((p ++ r).length : Int) p.length) (num (p ++ r))
  | [], p, _, _ => by
    refine ev_succ ?_
    simp only [stamp_get64.l0]
    exact ev_neg (by simp) (ev_some (by simp))
  | x :: r, p, hl, hb => by
    have hl' := hl
    rw [List.length_append, List.length_cons] at hl'
    have hp := num_bound hb.left
    have hp2 : (256 : Int) ^ p.length ≤ 256 ^ 7 := by
      have : (256 : Int) ^ 7 = 256 ^ p.length * 256 ^ (7 - p.length) := by rw [← Int.pow_add]; congr 1; omega
      rw [this]
      have h1 : (1 : Int) ≤ 256 ^ (7 - p.length) := Int.pow_pos (by omega)
      have h2 : (0 : Int) < 256 ^ p.length := Int.pow_pos (by omega)
      have := Int.mul_le_mul_of_nonneg_left h1 (Int.le_of_lt h2)
      omega
    have w : wrap64 ((p.length : Int) + 1) = ((p ++ [x]).length : Int) := by rw [wrap64_id (by omega) (by omega)]; simp
    have hx : Byte x := hb.right.head
    refine ev_succ ?_
    simp only [stamp_get64.l0]
    refine ev_pos (by simp; omega) (ev_pos (by omega) (ev_pos (by simp; omega) ?_))
    rw [rd_mid, w, or_byte _ _ hp.1 (by omega) hx, ← num_append]
    have ih := get64_loop r (p ++ [x]) (by simpa using hl) (by simpa using hb)
    simpa using ih
theorem get64_ev (l : List Int) (hl : l.length = 8) (hb : Bytes l) : Ev (fun k => stamp_get64.f k l) (num l) := by
  unfold stamp_get64.f
  have e : l.take 8 = l := List.take_of_length_le (by omega)
  rw [e]
  exact ev_pos (by omega) (get64_loop l [] (by simp; omega) (by simpa using hb))

/-- The name that escaped bytes hold, whatever they are. -/
def lp : List Int → List Int
  | [] => []
  | [c] => [c]
  | c :: d :: r => if c = 0 then c :: lp r else c :: lp (d :: r)
theorem lp_length : ∀ l : List Int, (lp l).length ≤ l.length
  | [] => by simp [lp]
  | [c] => by simp [lp]
  | c :: d :: r => by
    have h1 := lp_length r
    have h2 := lp_length (d :: r)
    unfold lp
    split <;> simp at * <;> omega
theorem lp_bytes : ∀ l : List Int, Bytes l → Bytes (lp l)
  | [], h => by simpa [lp] using h
  | [c], h => by simpa [lp] using h
  | c :: d :: r, h => by
    have h1 := lp_bytes r h.tail.tail
    have h2 := lp_bytes (d :: r) h.tail
    unfold lp
    split
    · exact Bytes.cons h.head h1
    · exact Bytes.cons h.head h2
theorem lp_esc : ∀ l : List Int, lp (esc l) = l
  | [] => rfl
  | c :: r => by
    have ih := lp_esc r
    by_cases e : c = 0
    · subst e
      simp [esc, lp, ih]
    · simp only [esc, e, if_false]
      cases h : esc r with
      | nil =>
        have hl := esc_length r
        rw [h] at hl
        have : r = [] := List.length_eq_zero_iff.1 (by simpa using hl.1)
        subst this
        rfl
      | cons d q =>
        unfold lp
        rw [if_neg e, ← h, ih]
/-- What a key's bytes read as: space, name, time, 0; or nothing. -/
def rdK (b : List Int) : Int × List Int × Int × Int :=
  if b.length < 11 then (0, [], 0, 11)
  else
    let n := lp ((b.take (b.length - 10)).drop 1)
    let t := 18446744073709551615 - num (b.drop (b.length - 8))
    if wr (rd b 0) n t = (b, 0) then (rd b 0, n, t, 0) else (0, [], 0, 11)

theorem wr_bytes {s : Int} {n : List Int} {t : Int} (hn : Bytes n) : Bytes (wr s n t).1 := by
  unfold wr
  split
  · exact Bytes.nil
  · split
    · exact Bytes.nil
    · refine Bytes.append ?_ (b8_bytes _)
      unfold front
      exact Bytes.cons (by unfold Byte; omega) (Bytes.append (esc_bytes hn) (Bytes.cons (by unfold Byte; omega) (Bytes.cons (by unfold Byte; omega) Bytes.nil)))
theorem read_loop (b : List Int) (hb : Bytes b) (s t : Int) (h0 : 0 ≤ t) (h1 : t < 18446744073709551616) : ∀ (m : Nat) (r acc : List Int), r.length ≤ m → acc.length + r.length < 1000000 → Bytes r → Bytes acc →
    Ev (fun k => stamp_Read.l0 k b r s acc t) (if wr s (acc ++ lp r) t = (b, 0) then (s, acc ++ lp r, t, 0) else (0, [], 0, 11)) := by
  intro m
  induction m with
  | zero =>
    intro r acc hr hl _ ha
    obtain rfl : r = [] := List.length_eq_zero_iff.1 (by omega)
    refine ev_succ ?_
    simp only [stamp_Read.l0]
    refine ev_neg (by simp) (ev_bind (write_ev s acc t h0 h1) ?_)
    simp only [lp, List.append_nil]
    refine ev_ite (fun e => ?_) (fun e => ev_some ?_)
    · rw [equal_eq hb (wr_bytes ha)]
      refine ev_let (ev_ite (fun c => ev_some ?_) (fun c => ev_some ?_))
      · rw [if_pos]
        exact Prod.ext (of_decide_eq_true c).symm e
      · rw [if_neg]
        intro c2
        exact c (decide_eq_true (by rw [c2]))
    · rw [if_neg]
      intro c2
      rw [c2] at e
      exact e rfl
  | succ m ih =>
    intro r acc hr hl hbr ha
    match r, hr, hl, hbr with
    | [], _, hl, hbr => exact ih [] acc (by simp) hl hbr ha
    | [c], hr, hl, hbr =>
      have hl2 : acc.length + 1 < 1000000 := by simpa using hl
      have ih1 := ih [] (acc ++ [c]) (by simp) (by simp; omega) Bytes.nil (Bytes.append ha hbr)
      simp only [lp, List.append_nil] at ih1 ⊢
      refine ev_succ ?_
      simp only [stamp_Read.l0]
      refine ev_pos (by simp) (ev_pos (by simp) (ev_pos (by omega) (ev_let ?_)))
      rw [rd_zero]
      refine ev_ite (fun _ => ev_neg (by simp) (ev_pos (by simp) ih1)) (fun _ => ev_pos (by simp) ih1)
    | c :: d :: q, hr, hl, hbr =>
      simp only [List.length_cons] at hr hl
      refine ev_succ ?_
      simp only [stamp_Read.l0]
      refine ev_pos (by simp; omega) (ev_pos (by simp; omega) (ev_pos (by omega) (ev_let ?_)))
      rw [rd_zero]
      by_cases e : c = 0
      · subst e
        have ih1 := ih q (acc ++ [0]) (by omega) (by simp; omega) hbr.tail.tail (Bytes.append ha (Bytes.cons (by unfold Byte; omega) Bytes.nil))
        refine ev_pos rfl (ev_pos (by simp; omega) (ev_pos (by simp; omega) (ev_let (ev_pos (by simp; omega) ?_))))
        simpa [lp] using ih1
      · have ih1 := ih (d :: q) (acc ++ [c]) (by simp; omega) (by simp; omega) hbr.tail (Bytes.append ha (Bytes.cons hbr.head Bytes.nil))
        refine ev_neg e (ev_pos (by simp; omega) ?_)
        simpa [lp, e] using ih1
theorem read_ev (b : List Int) (hb : Bytes b) (hl : b.length < 900000) : Ev (fun k => stamp_Read.f k b) (rdK b) := by
  unfold stamp_Read.f rdK
  by_cases c : b.length < 11
  · rw [if_pos c]
    exact ev_pos (by omega) (ev_some rfl)
  · rw [if_neg c]
    have e8 : wrap64 ((b.length : Int) - 8) = ((b.length - 8 : Nat) : Int) := by rw [wrap64_id (by omega) (by omega)]; omega
    have e10 : wrap64 ((b.length : Int) - 10) = ((b.length - 10 : Nat) : Int) := by rw [wrap64_id (by omega) (by omega)]; omega
    have hr0 : 0 ≤ rd b 0 ∧ rd b 0 < 256 := by
      match b, c with
      | [], c => simp at c
      | x :: b, _ => exact hb.head
    rw [e8, e10, Int.toNat_natCast, Int.toNat_natCast, wrap64_id (x := rd b 0) (by omega) (by omega)]
    have h8 : (b.drop (b.length - 8)).length = 8 := by rw [List.length_drop]; omega
    have hb8 : Bytes (b.drop (b.length - 8)) := fun x hx => hb x (List.mem_of_mem_drop hx)
    have hbm : Bytes ((b.take (b.length - 10)).drop 1) := fun x hx => hb x (List.mem_of_mem_take (List.mem_of_mem_drop hx))
    have hn := num_bound hb8
    rw [h8] at hn
    refine ev_neg (by omega) (ev_pos (by omega) (ev_pos (by omega) (ev_pos (by omega) (ev_bind (get64_ev _ h8 hb8) (ev_pos (by omega) (ev_pos (by omega) ?_))))))
    rw [xor_all _ (by omega) (by omega)]
    have := read_loop b hb (rd b 0) (18446744073709551615 - num (b.drop (b.length - 8))) (by omega) (by omega) _ ((b.take (b.length - 10)).drop 1) [] (Nat.le_refl _) (by simp; omega) hbm Bytes.nil
    simpa using this

/-- The reference's reading: the name goes on until 0 0. -/
def refP : List Int → List Int → Option (List Int × List Int)
  | c :: d :: r, acc => if acc.length > 200 then none else if c ≠ 0 then refP (d :: r) (acc ++ [c]) else if d = 0 then (if r.length = 8 then some (acc, r) else none) else if d = 255 then refP r (acc ++ [0]) else none
  | _, _ => none
theorem refP_some : ∀ (m : Nat) (l acc n t : List Int), l.length ≤ m → refP l acc = some (n, t) → ∃ q, n = acc ++ q ∧ n.length ≤ 200 ∧ l = esc q ++ 0 :: 0 :: t ∧ t.length = 8 := by
  intro m
  induction m with
  | zero =>
    intro l acc n t hl h
    obtain rfl : l = [] := List.length_eq_zero_iff.1 (by omega)
    simp [refP] at h
  | succ m ih =>
    intro l acc n t hl h
    match l, hl, h with
    | [], _, h => simp [refP] at h
    | [c], _, h => simp [refP] at h
    | c :: d :: r, hl, h =>
      simp only [List.length_cons] at hl
      unfold refP at h
      split at h
      · exact absurd h (by simp)
      · rename_i h200
        split at h
        · rename_i hc
          obtain ⟨q, e1, e2, e3, e4⟩ := ih (d :: r) (acc ++ [c]) n t (by simp; omega) h
          exact ⟨c :: q, by simp [e1], e2, by simp [esc, hc, e3], e4⟩
        · rename_i hc
          have hc : c = 0 := by simpa using hc
          split at h
          · rename_i hd
            split at h
            · rename_i h8
              simp only [Option.some.injEq, Prod.mk.injEq] at h
              obtain ⟨rfl, rfl⟩ := h
              exact ⟨[], by simp, by omega, by simp [esc, hc, hd], h8⟩
            · exact absurd h (by simp)
          · split at h
            · rename_i hd
              obtain ⟨q, e1, e2, e3, e4⟩ := ih r (acc ++ [0]) n t (by omega) h
              exact ⟨0 :: q, by simp [e1], e2, by simp [esc, hc, hd, e3], e4⟩
            · exact absurd h (by simp)
theorem refP_mk : ∀ (q acc t : List Int), (acc ++ q).length ≤ 200 → t.length = 8 → refP (esc q ++ 0 :: 0 :: t) acc = some (acc ++ q, t)
  | [], acc, t, hl, ht => by
    have : ¬ acc.length > 200 := by simp at hl; omega
    simp [esc, refP, this, ht]
  | c :: q, acc, t, hl, ht => by
    have hl' := hl
    rw [List.length_append, List.length_cons] at hl'
    have h200 : ¬ acc.length > 200 := by omega
    by_cases e : c = 0
    · subst e
      have ih := refP_mk q (acc ++ [0]) t (by simpa using hl) ht
      simp [esc, refP, h200, ih]
    · have ih := refP_mk q (acc ++ [c]) t (by simpa using hl) ht
      have hne : ∃ d r, esc q ++ 0 :: 0 :: t = d :: r := by
        cases h : esc q with
        | nil => exact ⟨_, _, rfl⟩
        | cons x y => exact ⟨_, _, rfl⟩
      obtain ⟨d, r, hr⟩ := hne
      simp only [esc, e, if_false, List.cons_append]
      rw [hr] at ih ⊢
      simp [refP, h200, e, ih]

theorem rnum_loop (b : List Int) (s : Int) (acc : List Int) : ∀ (r p q : List Int), b = q ++ p ++ r → (p ++ r).length ≤ 8 → Bytes (p ++ r) → b.length < 1000000 →
    Ev (fun k => munimentref05_Read.l1 k b (num p) ((q ++ p).length : Int) s acc 0) (s, acc, 18446744073709551615 - num (p ++ r), 0)
  | [], p, q, hb, hl, hby, hs => by
    have hp := num_bound hby
    simp only [List.append_nil] at *
    have hp2 : (256 : Int) ^ p.length ≤ 256 ^ 8 := by
      have : (256 : Int) ^ 8 = 256 ^ p.length * 256 ^ (8 - p.length) := by rw [← Int.pow_add]; congr 1; omega
      rw [this]
      have h1 : (1 : Int) ≤ 256 ^ (8 - p.length) := Int.pow_pos (by omega)
      have h2 : (0 : Int) < 256 ^ p.length := Int.pow_pos (by omega)
      have := Int.mul_le_mul_of_nonneg_left h1 (Int.le_of_lt h2)
      omega
    refine ev_succ ?_
    simp only [munimentref05_Read.l1]
    refine ev_neg (by rw [hb]; omega) (ev_some ?_)
    rw [wrapU64_id (by omega) (by omega)]
  | x :: r, p, q, hb, hl, hby, hs => by
    have hl' := hl
    rw [List.length_append, List.length_cons] at hl'
    have hp := num_bound hby.left
    have hp2 : (256 : Int) ^ p.length ≤ 256 ^ 7 := by
      have : (256 : Int) ^ 7 = 256 ^ p.length * 256 ^ (7 - p.length) := by rw [← Int.pow_add]; congr 1; omega
      rw [this]
      have h1 : (1 : Int) ≤ 256 ^ (7 - p.length) := Int.pow_pos (by omega)
      have h2 : (0 : Int) < 256 ^ p.length := Int.pow_pos (by omega)
      have := Int.mul_le_mul_of_nonneg_left h1 (Int.le_of_lt h2)
      omega
    have hx : Byte x := hby.right.head
    have hx' := hx
    unfold Byte at hx'
    have hbl : b.length = (q ++ p).length + (r.length + 1) := by rw [hb, List.length_append, List.length_cons]
    have hrd : rd b ((q ++ p).length : Int) = x := by rw [hb]; exact rd_mid _ _ _
    have w : wrap64 (((q ++ p).length : Int) + 1) = ((q ++ (p ++ [x])).length : Int) := by
      rw [wrap64_id (by omega) (by omega)]; simp only [List.length_append, List.length_singleton]; omega
    have ih := rnum_loop b s acc r (p ++ [x]) q (by rw [hb]; simp) (by simpa using hl) (by simpa using hby) hs
    refine ev_succ ?_
    simp only [munimentref05_Read.l1]
    refine ev_pos (by omega) (ev_pos (by omega) ?_)
    rw [hrd, w, wrapU64_id (x := num p * 256) (by omega) (by omega), wrapU64_id (x := x) (by omega) (by omega), wrapU64_id (by omega) (by omega), ← num_append]
    simpa using ih
theorem rread_loop (b : List Int) (hb : Bytes b) (hs : b.length < 1000000) (s : Int) : ∀ (m : Nat) (r p acc : List Int), r.length ≤ m → b = p ++ r → acc.length ≤ p.length →
    Ev (fun k => munimentref05_Read.l0 k b (p.length : Int) s acc 0) (match refP r acc with | some (n, t) => (s, n, 18446744073709551615 - num t, 0) | none => (0, [], 0, 11)) := by
  intro m
  induction m with
  | zero =>
    intro r p acc hr hbp hacc
    obtain rfl : r = [] := List.length_eq_zero_iff.1 (by omega)
    have hl : b.length = p.length := by rw [hbp]; simp
    refine ev_succ ?_
    simp only [munimentref05_Read.l0]
    rw [wrap64_id (x := (p.length : Int) + 1) (by omega) (by omega)]
    refine ev_pos (by omega) (ev_succ ?_)
    simp only [munimentref05_Read.j1]
    exact ev_pos (by simp) (ev_some (by simp [refP]))
  | succ m ih =>
    intro r p acc hr hbp hacc
    match r, hr, hbp with
    | [], _, hbp => exact ih [] p acc (by simp) hbp hacc
    | [c], _, hbp =>
      have hl : b.length = p.length + 1 := by rw [hbp]; simp
      refine ev_succ ?_
      simp only [munimentref05_Read.l0]
      rw [wrap64_id (x := (p.length : Int) + 1) (by omega) (by omega)]
      refine ev_pos (by omega) (ev_succ ?_)
      simp only [munimentref05_Read.j1]
      exact ev_pos (by simp) (ev_some (by simp [refP]))
    | c :: d :: r, hr, hbp =>
      simp only [List.length_cons] at hr
      have hl : b.length = p.length + (r.length + 2) := by rw [hbp]; simp
      have hrc : rd b (p.length : Int) = c := by rw [hbp]; exact rd_mid _ _ _
      have hrd : rd b ((p.length : Int) + 1) = d := by rw [hbp]; exact rd_mid1 _ _ _ _
      refine ev_succ ?_
      simp only [munimentref05_Read.l0]
      rw [wrap64_id (x := (p.length : Int) + 1) (by omega) (by omega)]
      refine ev_neg (by omega) (ev_succ ?_)
      simp only [munimentref05_Read.j1]
      rw [wrap64_id (x := (p.length : Int) + 1) (by omega) (by omega), wrap64_id (x := (p.length : Int) + 2) (by omega) (by omega), wrap64_id (x := (p.length : Int) + 10) (by omega) (by omega), hrc, hrd]
      unfold refP
      by_cases h200 : acc.length > 200
      · rw [if_pos h200]
        exact ev_pos (by simp; omega) (ev_some rfl)
      · rw [if_neg h200]
        refine ev_neg (by simp; omega) (ev_pos (by omega) (ev_pos (by omega) ?_))
        by_cases e : c = 0
        · subst e
          rw [if_neg (by simp)]
          refine ev_pos rfl (ev_pos (by omega) (ev_pos (by omega) ?_))
          by_cases e2 : d = 0
          · subst e2
            rw [if_pos rfl]
            refine ev_pos rfl ?_
            by_cases e8 : r.length = 8
            · rw [if_pos e8]
              refine ev_pos (by omega) (ev_succ ?_)
              simp only [munimentref05_Read.j2]
              rw [wrap64_id (x := (p.length : Int) + 2) (by omega) (by omega)]
              refine ev_neg (by simp; omega) ?_
              have hbr : Bytes r := by rw [hbp] at hb; exact hb.right.tail.tail
              have := rnum_loop b s acc r [] (p ++ [0, 0]) (by rw [hbp]; simp) (by simp; omega) (by simpa using hbr) hs
              simpa [num] using this
            · rw [if_neg e8]
              refine ev_neg (by omega) (ev_succ ?_)
              simp only [munimentref05_Read.j2]
              exact ev_pos (by simp) (ev_some rfl)
          · rw [if_neg e2]
            refine ev_neg e2 ?_
            by_cases e3 : d = 255
            · subst e3
              rw [if_pos rfl]
              refine ev_pos rfl (ev_pos (by omega) ?_)
              have := ih r (p ++ [0, 255]) (acc ++ [0]) (by omega) (by rw [hbp]; simp) (by simp; omega)
              simpa using this
            · rw [if_neg e3]
              exact ev_neg e3 (ev_some rfl)
        · rw [if_pos e]
          refine ev_neg e (ev_pos (by omega) ?_)
          have := ih (d :: r) (p ++ [c]) (acc ++ [c]) (by simp; omega) (by rw [hbp]; simp) (by simp; omega)
          simpa using this
/-- The two readings are one. -/
theorem rdK_ref (x : Int) (l : List Int) (hx : Byte x) (hl : Bytes l) : (match refP l [] with | some (n, t) => (x, n, 18446744073709551615 - num t, 0) | none => (0, [], 0, 11)) = rdK (x :: l) := by
  cases h : refP l [] with
  | some y =>
    obtain ⟨n, t⟩ := y
    obtain ⟨q, e1, e2, e3, e4⟩ := refP_some _ l [] n t (Nat.le_refl _) h
    obtain rfl : n = q := by simpa using e1
    have hlen : (x :: l).length = (esc n).length + 11 := by rw [e3]; simp; omega
    have ed : (x :: l).drop ((x :: l).length - 8) = t := by
      rw [hlen, e3, show (esc n).length + 11 - 8 = (x :: (esc n ++ [0, 0])).length by simp]
      rw [show x :: (esc n ++ 0 :: 0 :: t) = (x :: (esc n ++ [0, 0])) ++ t by simp]
      exact List.drop_left
    have et : ((x :: l).take ((x :: l).length - 10)).drop 1 = esc n := by
      rw [hlen, e3, show (esc n).length + 11 - 10 = (x :: esc n).length by simp, show x :: (esc n ++ 0 :: 0 :: t) = (x :: esc n) ++ (0 :: 0 :: t) by simp, List.take_left]
      rfl
    have hbt : Bytes t := by rw [e3] at hl; exact hl.right.tail.tail
    have hnt := num_bound hbt
    rw [e4] at hnt
    unfold rdK
    rw [if_neg (by rw [hlen]; omega)]
    simp only [ed, et, rd_zero, lp_esc]
    rw [if_pos]
    unfold Byte at hx
    unfold wr
    rw [if_neg (by omega), if_neg (by omega), show 18446744073709551615 - (18446744073709551615 - num t) = num t by omega, b8_num e4 hbt]
    unfold front
    rw [show x % 256 = x by omega, e3]
    simp
  | none =>
    show ((0 : Int), ([] : List Int), (0 : Int), (11 : Int)) = _
    unfold rdK
    split
    · rfl
    · rename_i hlen
      simp only [rd_zero]
      refine (if_neg ?_).symm
      intro hw
      unfold wr at hw
      split at hw
      · simp at hw
      · split at hw
        · simp at hw
        · rename_i h1 h2
          have hw1 := congrArg Prod.fst hw
          simp only at hw1
          unfold front at hw1
          rw [List.cons_append] at hw1
          have hl2 := (List.cons.inj hw1).2
          rw [List.append_assoc] at hl2
          have := refP_mk (lp (((x :: l).take ((x :: l).length - 10)).drop 1)) [] (b8 (18446744073709551615 - (18446744073709551615 - num ((x :: l).drop ((x :: l).length - 8))))) (by rw [List.nil_append]; omega) (b8_length _)
          rw [show (0 : Int) :: 0 :: b8 (18446744073709551615 - (18446744073709551615 - num ((x :: l).drop ((x :: l).length - 8)))) = [0, 0] ++ b8 (18446744073709551615 - (18446744073709551615 - num ((x :: l).drop ((x :: l).length - 8)))) from rfl, hl2, h] at this
          exact absurd this (by simp)
theorem rread_ev (b : List Int) (hb : Bytes b) (hl : b.length < 900000) : Ev (fun k => munimentref05_Read.f k b) (rdK b) := by
  unfold munimentref05_Read.f
  match b, hb, hl with
  | [], _, _ => exact ev_pos rfl (ev_some (by simp [rdK]))
  | x :: l, hb, hl =>
    have hx := hb.head
    have hx' := hx
    unfold Byte at hx'
    rw [rd_zero, wrap64_id (by omega) (by omega), ← rdK_ref x l hx hb.tail]
    refine ev_neg (by simp; omega) (ev_pos (by simp) ?_)
    exact rread_loop (x :: l) hb (by omega) x _ l [x] [] (Nat.le_refl _) rfl (by simp)
theorem lawsame_ev (s : Int) (n : List Int) (t : Int) (s' : Int) (n' : List Int) (t' : Int) (hl : n.length < 4611686018427387904) : Ev (fun k => munimentlaw05_same.f k s n t s' n' t') (decide (s = s' ∧ t = t' ∧ n = n')) := by
  unfold munimentlaw05_same.f
  refine ev_ite (fun c => ?_) (fun c => ev_some (by simp [c]))
  refine ev_ite (fun c2 => ?_) (fun c2 => ev_some (by simp [c2]))
  exact ev_bind (same_ev _ _ hl) (ev_some (by simp [c, c2]))
theorem rdK_length (b : List Int) : (rdK b).2.1.length ≤ b.length := by
  unfold rdK
  split
  · simp
  · have h := lp_length ((b.take (b.length - 10)).drop 1)
    have h2 : ((b.take (b.length - 10)).drop 1).length ≤ b.length := by rw [List.length_drop, List.length_take]; omega
    dsimp only
    split
    · show (lp _).length ≤ _
      omega
    · simp
theorem stampReads_ev (b : List Int) (hb : Bytes b) : Ev (fun k => munimentlaw05_StampReads.f k b) true := by
  unfold munimentlaw05_StampReads.f
  refine ev_bind awake_ev (ev_pos rfl (ev_succ ?_))
  simp only [munimentlaw05_StampReads.j0]
  refine ev_ite (fun _ => ev_bind awake_ev (ev_some rfl)) (fun c => ?_)
  have hl : b.length ≤ 1000 := by simp at c; omega
  refine ev_bind (read_ev b hb (by omega)) (ev_bind (rread_ev b hb (by omega)) (ev_pos rfl ?_))
  exact ev_bind (lawsame_ev _ _ _ _ _ _ (by have := rdK_length b; omega)) (ev_some (by simp))
theorem StampReads : munimentlaw05_StampReads.Pure := fun l _ _ hw => (stampReads_ev l (bytes_of_wf hw)).rounds
end Go.Proofs.Ytpbcjhckhocgeaa.Pl
