import Derived.Test.YtmphdmhpfghfkaaDoorZkltsKeysF
set_option linter.unusedSimpArgs false
set_option linter.unusedVariables false
namespace Go.Proofs.YtmphdmhpfghfkaaDoor.Pl
open Go.RowKit Go.Proofs.YtmphdmhpfghfkaaDoorW.PrintWords Go.Proofs.YtmphdmhpfghfkaaDoorW.PrintMore Go.Proofs.YtmphdmhpfghfkaaDoor.PK
/-- Whatever stands behind: the two are ordered as c says, and where c is 0 what stands behind decides. -/
def Cut (c : Int) (a b : List Int) : Prop := ∀ x y, ltL (a ++ x) (b ++ y) = if c = 0 then ltL x y else decide (c < 0)
theorem Cut.nil : Cut 0 [] [] := fun x y => by simp
theorem Cut.append {c d : Int} {a b a' b' : List Int} (h : Cut c a b) (h' : c = 0 → Cut d a' b') : Cut (or2 c d) (a ++ a') (b ++ b') := by
  intro x y
  rw [List.append_assoc, List.append_assoc, h]
  unfold or2
  by_cases hc : c = 0
  · rw [if_pos hc, if_pos hc, h' hc]
  · rw [if_neg hc, if_neg hc, if_neg hc]
theorem Cut.byte (p q : Int) : Cut (cmpI p q) [p] [q] := by
  intro x y
  simp only [List.cons_append, List.nil_append, ltL, cmpI]
  by_cases h : p = q
  · subst h
    simp
  · by_cases h' : p < q
    · simp [h, h']
    · have : p > q := by omega
      simp [h, h', this]
theorem Cut.of {c d : Int} {a b : List Int} (h : Cut c a b) (e : c = d) : Cut d a b := e ▸ h
theorem ltL_apart : ∀ (a b : List Int), a.length = b.length → ∀ x y, ltL (a ++ x) (b ++ y) = if a = b then ltL x y else ltL a b
  | [], [], _, x, y => by simp
  | [], _ :: _, h, _, _ => by simp at h
  | _ :: _, [], h, _, _ => by simp at h
  | p :: a, q :: b, h, x, y => by
    have ih := ltL_apart a b (by simpa using h) x y
    simp only [List.cons_append, ltL]
    by_cases e : p = q
    · subst e
      simp [ih]
    · simp [e]
theorem Cut.num {x y : Int} (hx : -9223372036854775808 ≤ x ∧ x < 9223372036854775808) (hy : -9223372036854775808 ≤ y ∧ y < 9223372036854775808) : Cut (cmpI x y) (b8 (x + 9223372036854775808)) (b8 (y + 9223372036854775808)) := by
  intro s t
  rw [ltL_apart (b8 (x + 9223372036854775808)) (b8 (y + 9223372036854775808)) rfl, ltL_b8 (by omega) (by omega) (by omega) (by omega)]
  unfold cmpI
  by_cases e : x = y
  · subst e
    simp
  · have e2 : ¬ b8 (x + 9223372036854775808) = b8 (y + 9223372036854775808) := fun h => e (by have := b8_inj (by omega) (by omega) (by omega) (by omega) h; omega)
    rw [if_neg e2]
    by_cases h : x < y
    · have h2 : x + 9223372036854775808 < y + 9223372036854775808 := by omega
      simp [h, h2]
    · have h2 : ¬ x + 9223372036854775808 < y + 9223372036854775808 := by omega
      have h3 : x > y := by omega
      simp [h, h2, h3]
theorem ltL_tb : ∀ a b : List UInt8, ltL (a.map fun u => (u.toNat : Int)) (b.map fun u => (u.toNat : Int)) = decide (lexL cmpB a b < 0)
  | [], [] => rfl
  | [], _ :: _ => rfl
  | _ :: _, [] => rfl
  | p :: a, q :: b => by
    have ih := ltL_tb a b
    show (if (p.toNat : Int) = (q.toNat : Int) then ltL (a.map fun u => (u.toNat : Int)) (b.map fun u => (u.toNat : Int)) else decide ((p.toNat : Int) < (q.toNat : Int))) = decide (or2 (cmpB p q) (lexL cmpB a b) < 0)
    rw [ih, cmpB_nat]
    unfold or2 cmpI
    by_cases e : (p.toNat : Int) = (q.toNat : Int)
    · rw [if_pos e, e]
      simp
    · rw [if_neg e]
      by_cases h : (p.toNat : Int) < (q.toNat : Int)
      · simp [h]
      · have h3 : (p.toNat : Int) > (q.toNat : Int) := by omega
        simp [h, h3]
theorem tb_bytes (s : ByteArray) : Bytes (tb s) := by
  intro x hx
  obtain ⟨u, _, rfl⟩ := List.mem_map.1 hx
  have := u.toNat_lt
  unfold Byte
  omega
theorem tb_inj {s t : ByteArray} (h : tb s = tb t) : s = t := by
  apply toList_inj
  unfold tb at h
  exact (List.map_inj_right (fun a b hab => UInt8.toNat_inj.1 (by omega))).1 h
theorem Cut.text (s t : ByteArray) : Cut (cmpS s t) (esc (tb s) ++ [0, 0]) (esc (tb t) ++ [0, 0]) := by
  intro x y
  have h := ltL_esc 0 0 (x) (y) (by omega) (by omega) (tb s) (tb t) (tb_bytes s) (tb_bytes t)
  have e : ∀ (l z : List Int), esc l ++ [0, 0] ++ z = esc l ++ 0 :: 0 :: z := fun l z => by simp
  rw [e, e, h]
  by_cases c : s = t
  · subst c
    rw [cmpS_self]
    simp [ltL]
  · have c1 : ¬ tb s = tb t := fun h => c (tb_inj h)
    have c2 : ¬ cmpS s t = 0 := fun h => c ((good_cmpS.zero s t trivial trivial).1 h)
    rw [if_neg c1, if_neg c2]
    exact ltL_tb _ _
theorem or2_left (c : Int) : or2 c 0 = c := or2_zero c
theorem or2_right (c : Int) : or2 0 c = c := by simp [or2]
/-- Members and their end: as the lists of members are ordered. -/
theorem Cut.members {α : Type} (f : α → List Int) (c : α → α → Int) : ∀ a b : List α, (∀ x ∈ a, ∀ y ∈ b, Cut (c x y) (f x) (f y)) → (∀ x ∈ a, ∃ p r, f x = p :: r ∧ 0 < p) → (∀ x ∈ b, ∃ p r, f x = p :: r ∧ 0 < p) →
    Cut (lexL c a b) ((a.map f).flatten ++ [0]) ((b.map f).flatten ++ [0])
  | [], [], _, _, _ => (Cut.byte 0 0).of rfl
  | [], y :: b, _, _, hb => by
    obtain ⟨p, r, e, hp⟩ := hb y (by simp)
    intro s t
    have h1 : ¬ (0 : Int) = p := by omega
    simp [lexL, e, ltL, h1, hp]
  | x :: a, [], _, ha, _ => by
    obtain ⟨p, r, e, hp⟩ := ha x (by simp)
    intro s t
    have h1 : ¬ p = 0 := by omega
    have h2 : ¬ p < 0 := by omega
    simp [lexL, e, ltL, h1, h2]
  | x :: a, y :: b, h, ha, hb => by
    have ih := Cut.members f c a b (fun p hp q hq => h p (by simp [hp]) q (by simp [hq])) (fun p hp => ha p (by simp [hp])) (fun p hp => hb p (by simp [hp]))
    have := (h x (by simp) y (by simp)).append (fun _ => ih)
    simpa [lexL] using this
theorem keyV_head {n : Nat} {v : V} (h : fm n v = true) : ∃ p r, keyV n v = p :: r ∧ 0 < p := by
  cases n with
  | zero => simp [fm] at h
  | succ n =>
    have := (shallow_kind (fm_succ h).1).1
    exact ⟨v.f0 + 1, _, rfl, by omega⟩
theorem mem_plain {v : V} (h : ¬ v.f0 = 6) : ∀ p ∈ mem v, p.1 = ByteArray.empty := by
  intro p hp
  unfold mem at hp
  rw [if_neg h] at hp
  obtain ⟨x, _, rfl⟩ := List.mem_map.1 hp
  rfl
theorem item_head {n : Nat} {k : Int} {p : ByteArray × V} (h : fm n p.2 = true) : ∃ q r, itemB (keyV n) k p = q :: r ∧ 0 < q := by
  unfold itemB nameB
  split
  · exact ⟨1, _, rfl, by omega⟩
  · obtain ⟨q, r, e, hq⟩ := keyV_head h
    exact ⟨q, r, by simp [e], hq⟩
theorem mem_fine {n : Nat} {v : V} (h : FineN (n + 1) v) : ∀ p ∈ mem v, FineN n p.2 := by
  intro p hp
  unfold mem at hp
  split at hp
  · exact h.2.2.2.2.2.2 _ (List.of_mem_zip hp).2
  · obtain ⟨x, hx, rfl⟩ := List.mem_map.1 hp
    exact h.2.2.2.2.2.2 _ hx
def tailV (n : Nat) (v : V) : List Int := if v.f0 = 3 then b8 (v.f1 + 9223372036854775808) else if v.f0 = 4 then esc (tb v.f2) ++ [0, 0] else if v.f0 < 5 then [] else ((mem v).map (itemB (keyV n) v.f0)).flatten ++ [0]
theorem keyV_tail (n : Nat) (v : V) : keyV (n + 1) v = [v.f0 + 1] ++ tailV n v := rfl
theorem keyV_cut : ∀ (n : Nat) (v w : V), fm n v = true → fm n w = true → FineN n v → FineN n w → Cut (cmpV n v w) (keyV n v) (keyV n w)
  | 0, _, _, h, _, _, _ => by simp [fm] at h
  | n + 1, v, w, hv, hw, fv, fw => by
    have sv := (fm_succ hv).1
    have sw := (fm_succ hw).1
    have kv := shallow_kind sv
    have kw := shallow_kind sw
    have bv := bounds_i64 fv.2.1
    have bw := bounds_i64 fw.2.1
    have ih := keyV_cut n
    rw [keyV_tail, keyV_tail]
    unfold cmpV
    have hd : Cut (cmpI v.f0 w.f0) [v.f0 + 1] [w.f0 + 1] := (Cut.byte _ _).of (by unfold cmpI; split <;> split <;> (try split) <;> (try split) <;> omega)
    refine hd.append (fun h0 => ?_)
    have e0 : v.f0 = w.f0 := (good_cmpI.zero _ _ trivial trivial).1 h0
    unfold cmpT cmpR tailV
    have m1 : ∀ z : V, shallow z = true → z.f0 < 5 → mem z = [] := fun z hz h5 => mem_nil ((shallow_kind hz).2.2.2.2 h5)
    have t1 : ∀ z : V, shallow z = true → ¬ z.f0 = 4 → z.f2 = ByteArray.empty := fun z hz h4 => by
      rcases (shallow_kind hz).2.2.2.1 with h | h
      · exact absurd h h4
      · exact toList_inj (h.trans (by rw [ByteArray.toList_eq]; rfl))
    have i1 : ∀ z : V, shallow z = true → ¬ z.f0 = 3 → z.f1 = 0 := fun z hz h3 => by
      rcases (shallow_kind hz).2.2.1 with h | h
      · exact absurd h h3
      · exact h
    by_cases h3 : v.f0 = 3
    · have h3' : w.f0 = 3 := e0 ▸ h3
      rw [if_pos h3, if_pos h3', m1 v sv (by omega), m1 w sw (by omega), t1 v sv (by omega), t1 w sw (by omega)]
      refine (Cut.num (by omega) (by omega)).of ?_
      show _ = or2 _ (or2 (cmpS ByteArray.empty ByteArray.empty) 0)
      rw [cmpS_self, or2_right, or2_left]
    · have h3' : ¬ w.f0 = 3 := e0 ▸ h3
      rw [if_neg h3, if_neg h3', i1 v sv h3, i1 w sw h3']
      have z1 : cmpI 0 0 = 0 := by decide
      by_cases h4 : v.f0 = 4
      · have h4' : w.f0 = 4 := e0 ▸ h4
        rw [if_pos h4, if_pos h4', m1 v sv (by omega), m1 w sw (by omega)]
        refine (Cut.text v.f2 w.f2).of ?_
        show _ = or2 (cmpI 0 0) (or2 (cmpS v.f2 w.f2) 0)
        rw [z1, or2_right, or2_left]
      · have h4' : ¬ w.f0 = 4 := e0 ▸ h4
        rw [if_neg h4, if_neg h4', t1 v sv h4, t1 w sw h4']
        by_cases h5 : v.f0 < 5
        · have h5' : w.f0 < 5 := e0 ▸ h5
          rw [if_pos h5, if_pos h5', m1 v sv h5, m1 w sw h5']
          refine Cut.nil.of ?_
          show _ = or2 (cmpI 0 0) (or2 (cmpS ByteArray.empty ByteArray.empty) 0)
          rw [z1, cmpS_self, or2_right, or2_right]
        · have h5' : ¬ w.f0 < 5 := e0 ▸ h5
          rw [if_neg h5, if_neg h5', ← e0]
          refine (Cut.members (itemB (keyV n) v.f0) (cmpP (cmpV n)) (mem v) (mem w) (fun p hp q hq => ?_) (fun p hp => item_head (mem_fm hv p hp)) (fun p hp => item_head (mem_fm hw p hp))).of ?_
          · have c2 := ih p.2 q.2 (mem_fm hv p hp) (mem_fm hw q hq) (mem_fine fv p hp) (mem_fine fw q hq)
            unfold itemB nameB cmpP
            by_cases h6 : v.f0 = 6
            · rw [if_pos h6, if_pos h6]
              have c1 := ((Cut.byte 1 1).append (fun _ => Cut.text p.1 q.1)).append (fun _ => c2)
              have z2 : cmpI 1 1 = 0 := by decide
              rw [z2, or2_right] at c1
              simpa using c1
            · rw [if_neg h6, if_neg h6, mem_plain h6 p hp, mem_plain (v := w) (e0 ▸ h6) q hq, cmpS_self, or2_right]
              simpa using c2
          · show _ = or2 (cmpI 0 0) (or2 (cmpS ByteArray.empty ByteArray.empty) _)
            rw [z1, cmpS_self, or2_right, or2_right]
theorem keyV_lt {n : Nat} {v w : V} (hv : fm n v = true) (hw : fm n w = true) (fv : FineN n v) (fw : FineN n w) : ltL (keyV n v) (keyV n w) = decide (cmpV n v w < 0) := by
  have := keyV_cut n v w hv hw fv fw [] []
  rw [List.append_nil, List.append_nil] at this
  rw [this]
  by_cases h : cmpV n v w = 0
  · rw [if_pos h, h]
    rfl
  · rw [if_neg h]
theorem keyV_inj {n : Nat} {v w : V} (hv : fm n v = true) (hw : fm n w = true) (fv : FineN n v) (fw : FineN n w) : keyV n v = keyV n w ↔ cmpV n v w = 0 := by
  constructor
  · intro h
    by_cases c : cmpV n v w = 0
    · exact c
    · have h1 := keyV_lt hv hw fv fw
      have h2 := keyV_lt hw hv fw fv
      rw [h, ltL_irrefl] at h1
      rw [h, ltL_irrefl] at h2
      have h3 := (good_cmpV n).anti v w hv hw
      have h1 : ¬ cmpV n v w < 0 := by simpa using h1.symm
      have h2 : ¬ cmpV n w v < 0 := by simpa using h2.symm
      omega
  · intro h
    rw [((good_cmpV n).zero v w hv hw).1 h]
/-- None is the other's beginning. -/
theorem keyV_free {n : Nat} {v w : V} (hv : fm n v = true) (hw : fm n w = true) (fv : FineN n v) (fw : FineN n w) (hc : ¬ cmpV n v w = 0) {s t : List Int} : ¬ keyV n v ++ s = keyV n w ++ t := by
  intro e
  have h1 := keyV_cut n v w hv hw fv fw s (t ++ [0])
  have h2 := keyV_cut n v w hv hw fv fw (s ++ [0]) t
  rw [if_neg hc] at h1 h2
  rw [← List.append_assoc, ← e] at h1
  rw [← List.append_assoc, e] at h2
  have a1 : ∀ l : List Int, ltL l (l ++ [0]) = true := fun l => by
    have := ltL_append l [] [0]
    rw [List.append_nil] at this
    rw [this]
    rfl
  have a2 : ∀ l : List Int, ltL (l ++ [0]) l = false := fun l => by
    have := ltL_append l [0] []
    rw [List.append_nil] at this
    rw [this]
    rfl
  rw [a1] at h1
  rw [a2] at h2
  rw [← h1] at h2
  exact absurd h2 (by simp)
end Go.Proofs.YtmphdmhpfghfkaaDoor.Pl
