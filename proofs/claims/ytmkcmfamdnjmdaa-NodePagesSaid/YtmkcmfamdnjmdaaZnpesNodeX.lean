import Derived.Test.YtmkcmfamdnjmdaaZnpesNodeW
import Derived.Test.YtmkcmfamdnjmdaaZnpesPNx16
import Derived.Test.YtmkcmfamdnjmdaaZnpesPNx20
set_option linter.unusedSimpArgs false
set_option linter.unusedVariables false
set_option linter.unusedSectionVars false
namespace Go.Proofs.Ytmkcmfamdnjmdaa.Pl
open Go.RowKit Go.Proofs.YtmkcmfamdnjmdaaW.PrintWords Go.Proofs.YtmkcmfamdnjmdaaW.PrintMore Go.Proofs.Ytmkcmfamdnjmdaa.PN
def szL (a : Bool) : List (List Int) → List (List Int) → Nat
  | [], _ => 0
  | k :: l, vs => (if a = true then 3 + k.length + (vs.headD []).length else 5 + k.length) + szL a l vs.tail
def sizeN (a : Bool) (l vs : List (List Int)) : Nat := (if a = true then 3 else 7) + szL a l vs
theorem headD_drop {α : Type} (l : List α) (i : Nat) (d : α) : (l.drop i).headD d = l.getD i d := by
  rw [List.headD_eq_head?_getD, List.head?_drop, List.getD_eq_getElem?_getD]
theorem rdL_head (vs : List (List Int)) (i : Nat) : rd_L1 vs (i : Int) = (vs.drop i).headD [] := by
  unfold rd_L1
  rw [Int.toNat_natCast, headD_drop]
theorem headD_len {vs : List (List Int)} (h : ∀ x ∈ vs, x.length ≤ 100000) : (vs.headD []).length ≤ 100000 := by
  cases vs with
  | nil => simp
  | cons x r => exact h x (by simp)
theorem szL_le (a : Bool) : ∀ (l vs : List (List Int)), (∀ x ∈ l, x.length ≤ 100000) → (∀ x ∈ vs, x.length ≤ 100000) → szL a l vs ≤ l.length * 200005
  | [], _, _, _ => by simp [szL]
  | k :: l, vs, h1, h2 => by
    have ih := szL_le a l vs.tail (fun x hx => h1 x (by simp [hx])) (fun x hx => h2 x (List.mem_of_mem_tail hx))
    have hk := h1 k (by simp)
    have hv := headD_len h2
    unfold szL
    rw [List.length_cons, Nat.succ_mul]
    split <;> omega
theorem szL_ge (a : Bool) : ∀ (l vs : List (List Int)), 3 * l.length ≤ szL a l vs
  | [], _ => by simp
  | k :: l, vs => by
    have ih := szL_ge a l vs.tail
    unfold szL
    rw [List.length_cons]
    split <;> omega
section
variable {a : Bool} {l vs : List (List Int)} {ks : List Int} (S : Small l vs ks)
include S
theorem size_loop : ∀ (r p : List (List Int)) (acc : Nat), l = p ++ r → acc + szL a r (vs.drop p.length) ≤ 100000000000 → Ev (fun k => node_Size.l0 k (acc : Int) (l.length : Int) (p.length : Int) a l vs ks) ((acc + szL a r (vs.drop p.length) : Nat) : Int)
  | [], p, acc, e, _ => by
    refine ev_succ ?_
    simp only [node_Size.l0]
    exact ev_neg (by rw [e]; simp) (ev_some (by simp [szL]))
  | k :: r, p, acc, e, hb => by
    have hkl := S.kl
    have hlen : l.length = p.length + (r.length + 1) := by rw [e, List.length_append, List.length_cons]
    have hx : rd_L1 l (p.length : Int) = k := by rw [e]; exact rdL_mid _ _ _
    have hk := (S.kb k (by rw [e]; simp)).1
    have hv := headD_len (vs := vs.drop p.length) (fun x hx => (S.vb x (List.mem_of_mem_drop hx)).1)
    have e4 : ((p.length + 1 : Nat) : Int) = (((p ++ [k]).length : Nat) : Int) := by simp
    have et : (vs.drop p.length).tail = vs.drop (p ++ [k]).length := by rw [List.tail_drop]; simp
    unfold szL at hb ⊢
    rw [et] at hb ⊢
    have entry : node_entry.f a l vs ks (p.length : Int) = some (((if a = true then 3 + k.length + ((vs.drop p.length).headD []).length else 5 + k.length) : Nat) : Int) := by
      unfold node_entry.f
      rw [hx]
      by_cases h : a = true
      · rw [if_pos h, if_pos h]
        by_cases hi : (p.length : Int) < (vs.length : Int)
        · rw [if_pos hi, if_pos (by omega), if_pos (by omega), rdL_head, wrap64_id (x := 3 + (k.length : Int)) (by omega) (by omega), wrap64_id (by omega) (by omega)]
          congr 1
        · have e0 : vs.drop p.length = [] := List.drop_eq_nil_of_le (by omega)
          rw [if_neg hi, if_pos (by omega), if_pos (by omega), wrap64_id (by omega) (by omega), e0]
          congr 1
      · rw [if_neg h, if_neg h, if_pos (by omega), if_pos (by omega), wrap64_id (by omega) (by omega)]
        congr 1
    generalize (if a = true then 3 + k.length + ((vs.drop p.length).headD []).length else 5 + k.length) = en at entry hb ⊢
    have ih := size_loop r (p ++ [k]) (acc + en) (by rw [e]; simp) (by omega)
    refine ev_succ ?_
    simp only [node_Size.l0]
    refine ev_pos (by omega) (ev_bind0 entry ?_)
    have w2 : wrap64 ((acc : Int) + (en : Int)) = ((acc + en : Nat) : Int) := by rw [wrap64_id (by omega) (by omega)]; omega
    rw [wrapS (by omega), e4, w2, ← Nat.add_assoc]
    exact ih
theorem rsize_loop : ∀ (r p : List (List Int)) (acc : Nat), l = p ++ r → acc + szL a r (vs.drop p.length) ≤ 100000000000 → Ev (fun k => munimentref09_Size.l0 k (acc : Int) (p.length : Int) a l vs ks) ((acc + szL a r (vs.drop p.length) : Nat) : Int)
  | [], p, acc, e, _ => by
    refine ev_succ ?_
    simp only [munimentref09_Size.l0]
    exact ev_neg (by rw [e]; simp) (ev_some (by simp [szL]))
  | k :: r, p, acc, e, hb => by
    have hkl := S.kl
    have hlen : l.length = p.length + (r.length + 1) := by rw [e, List.length_append, List.length_cons]
    have hx : rd_L1 l (p.length : Int) = k := by rw [e]; exact rdL_mid _ _ _
    have hk := (S.kb k (by rw [e]; simp)).1
    have hv := headD_len (vs := vs.drop p.length) (fun x hx => (S.vb x (List.mem_of_mem_drop hx)).1)
    have e4 : ((p.length + 1 : Nat) : Int) = (((p ++ [k]).length : Nat) : Int) := by simp
    have et : (vs.drop p.length).tail = vs.drop (p ++ [k]).length := by rw [List.tail_drop]; simp
    unfold szL at hb ⊢
    rw [et] at hb ⊢
    have ih := fun (en : Nat) (h : acc + en + szL a r (vs.drop (p ++ [k]).length) ≤ 100000000000) => rsize_loop r (p ++ [k]) (acc + en) (by rw [e]; simp) h
    refine ev_succ ?_
    simp only [munimentref09_Size.l0]
    rw [hx, wrapS (by omega), e4, ← Nat.add_assoc]
    refine ev_pos (by omega) (ev_pos (by omega) (ev_ite (fun h => ?_) (fun h => ?_)))
    · rw [if_pos h] at hb ⊢
      refine ev_ite (fun hi => ?_) (fun hi => ?_)
      · have w2 : wrap64 ((wrap64 ((wrap64 ((acc : Int) + (k.length : Int))) + 3)) + ((rd_L1 vs (p.length : Int)).length : Int)) = ((acc + (3 + k.length + ((vs.drop p.length).headD []).length) : Nat) : Int) := by
          rw [rdL_head, wrap64_id (x := (acc : Int) + (k.length : Int)) (by omega) (by omega), wrap64_id (x := (acc : Int) + (k.length : Int) + 3) (by omega) (by omega), wrap64_id (by omega) (by omega)]
          omega
        rw [w2]
        exact ih _ (by omega)
      · have e0 : vs.drop p.length = [] := List.drop_eq_nil_of_le (by omega)
        have h0 : ((vs.drop p.length).headD []).length = 0 := by rw [e0]; rfl
        have w2 : wrap64 ((wrap64 ((acc : Int) + (k.length : Int))) + 3) = ((acc + (3 + k.length + ((vs.drop p.length).headD []).length) : Nat) : Int) := by
          rw [wrap64_id (x := (acc : Int) + (k.length : Int)) (by omega) (by omega), wrap64_id (by omega) (by omega)]
          omega
        rw [w2]
        exact ih _ (by omega)
    · rw [if_neg h] at hb ⊢
      have w2 : wrap64 ((wrap64 ((acc : Int) + (k.length : Int))) + 5) = ((acc + (5 + k.length) : Nat) : Int) := by
        rw [wrap64_id (x := (acc : Int) + (k.length : Int)) (by omega) (by omega), wrap64_id (by omega) (by omega)]
        omega
      rw [w2]
      exact ih _ (by omega)
theorem size_fit : sizeN a l vs ≤ 100000000000 := by
  have := szL_le a l vs (fun x hx => (S.kb x hx).1) (fun x hx => (S.vb x hx).1)
  have := Nat.mul_le_mul_right 200005 S.kl
  unfold sizeN
  split <;> omega
theorem size_ev : Ev (fun k => node_Size.f k a l vs ks) ((sizeN a l vs : Nat) : Int) := by
  have hf := size_fit (a := a) S
  unfold sizeN at hf ⊢
  unfold node_Size.f
  refine ev_ite (fun h => ev_succ ?_) (fun h => ev_succ ?_)
  · rw [if_pos h] at hf ⊢
    simp only [node_Size.j0]
    simpa using size_loop (a := a) S l [] 3 rfl (by simpa using hf)
  · rw [if_neg h] at hf ⊢
    simp only [node_Size.j0]
    simpa using size_loop (a := a) S l [] 7 rfl (by simpa using hf)
theorem rsize_ev : Ev (fun k => munimentref09_Size.f k a l vs ks) ((sizeN a l vs : Nat) : Int) := by
  have hf := size_fit (a := a) S
  unfold sizeN at hf ⊢
  unfold munimentref09_Size.f
  refine ev_ite (fun h => ev_succ ?_) (fun h => ev_succ ?_)
  · rw [if_pos h] at hf ⊢
    simp only [munimentref09_Size.j0]
    simpa using rsize_loop (a := a) S l [] 3 rfl (by simpa using hf)
  · rw [if_neg h] at hf ⊢
    simp only [munimentref09_Size.j0]
    simpa using rsize_loop (a := a) S l [] 7 rfl (by simpa using hf)
end
def formedN (a : Bool) (l vs : List (List Int)) (ks : List Int) : Bool := shapedB a l vs ks && decide (sizeN a l vs ≤ 1024)
section
variable {a : Bool} {l vs : List (List Int)} {ks : List Int} (S : Small l vs ks)
include S
theorem nformed_ev : Ev (fun k => node_Formed.f k a l vs ks) (formedN a l vs ks) := by
  unfold node_Formed.f formedN
  refine ev_bind (shaped_ev S) (ev_ite (fun h => ?_) (fun h => ev_some (by simp only [Bool.not_eq_true] at h; rw [h]; rfl)))
  rw [h, Bool.true_and]
  refine ev_bind (size_ev S) (ev_some ?_)
  rw [Bool.eq_iff_iff]
  simp
  omega
theorem rnformed_ev : Ev (fun k => munimentref09_Formed.f k a l vs ks) (formedN a l vs ks) := by
  unfold munimentref09_Formed.f formedN
  refine ev_bind (rshaped_ev S) (ev_ite (fun h => ?_) (fun h => ev_some (by simp only [Bool.not_eq_true] at h; rw [h]; rfl)))
  rw [h, Bool.true_and]
  refine ev_bind (rsize_ev S) (ev_some ?_)
  rw [Bool.eq_iff_iff]
  simp
  omega
end
def b16 (x : Int) : List Int := [(x / 256) % 256, x % 256]
def b32 (x : Int) : List Int := [(x / 16777216) % 256, (x / 65536) % 256, (x / 256) % 256, x % 256]
def ent (a : Bool) : List (List Int) → List (List Int) → List Int → List Int
  | [], _, _ => []
  | k :: l, vs, cs => ((k.length : Int) % 256) :: ((if a = true then b16 ((vs.headD []).length : Int) ++ k ++ vs.headD [] else k ++ b32 (cs.headD 0)) ++ ent a l vs.tail cs.tail)
theorem ent_len (a : Bool) : ∀ (l vs : List (List Int)) (cs : List Int), (ent a l vs cs).length = szL a l vs
  | [], _, _ => rfl
  | k :: l, vs, cs => by
    have ih := ent_len a l vs.tail cs.tail
    unfold ent szL
    rw [List.length_cons, List.length_append, ih]
    split <;> simp [b16, b32] <;> omega
def headN (a : Bool) (l : List (List Int)) (ks : List Int) : List Int := (if a = true then 1 else 2) :: (b16 (l.length : Int) ++ if a = true then [] else b32 (ks.headD 0))
def bodyN (a : Bool) (l vs : List (List Int)) (ks : List Int) : List Int := headN a l ks ++ ent a l vs ks.tail
theorem body_len (a : Bool) (l vs : List (List Int)) (ks : List Int) : (bodyN a l vs ks).length = sizeN a l vs := by
  unfold bodyN headN sizeN
  rw [List.length_append, ent_len]
  split <;> simp [b16, b32]
def pad (b : List Int) : List Int := b ++ List.replicate (1024 - b.length) 0
theorem app16 (l : List Int) (x : Int) (h : l.length + 2 ≤ 1024) : node_append16.g l x = some (l ++ b16 x) := by
  show (if l.length + 2 < 1025 then some (l ++ b16 x) else none) = _
  rw [if_pos (by omega)]
theorem app32 (l : List Int) (x : Int) (h : l.length + 4 ≤ 1024) : node_append32.g l x = some (l ++ b32 x) := by
  show (if l.length + 4 < 1025 then some (l ++ b32 x) else none) = _
  rw [if_pos (by omega)]
theorem u16_id {n : Nat} (h : n < 65536) : IntKind.u16.wrap (n : Int) = (n : Int) := by
  simp only [IntKind.wrap_u16]
  omega
theorem rbig2 (n : Nat) (h : n < 1000000) : Ev (fun k => munimentref09_big.f k (n : Int) 2) (b16 (n : Int)) := by
  unfold munimentref09_big.f
  rw [wrapU64_id (by omega) (by omega)]
  have e1 : wrap64 (8 - 2) = 6 := by rw [wrap64_id (by omega) (by omega)]; rfl
  rw [e1]
  exact ev_bind (big_ev (n : Int) (by omega) (by omega)) (ev_pos (by omega) (ev_pos (by rw [b8_length]; omega) (ev_some rfl)))
theorem rbig4 (x : Int) (h0 : 0 ≤ x) (h1 : x ≤ 2147483647) : Ev (fun k => munimentref09_big.f k x 4) (b32 x) := by
  unfold munimentref09_big.f
  rw [wrapU64_id (by omega) (by omega)]
  have e1 : wrap64 (8 - 4) = 4 := by rw [wrap64_id (by omega) (by omega)]; rfl
  rw [e1]
  exact ev_bind (big_ev x (by omega) (by omega)) (ev_pos (by omega) (ev_pos (by rw [b8_length]; omega) (ev_some rfl)))
/-- What a formed node's lists are. -/
structure Frm (a : Bool) (l vs : List (List Int)) (ks : List Int) : Prop where
  leaf : a = true → vs.length = l.length
  inner : ¬ a = true → ks.length = l.length + 1
  kids : ¬ a = true → ∀ c ∈ ks, 0 ≤ c ∧ c ≤ 2147483647
  size : sizeN a l vs ≤ 1024
theorem Frm.of {a : Bool} {l vs : List (List Int)} {ks : List Int} (h : formedN a l vs ks = true) : Frm a l vs ks := by
  unfold formedN shapedB shape2 at h
  simp only [Bool.and_eq_true, decide_eq_true_eq] at h
  obtain ⟨⟨_, h2⟩, h3⟩ := h
  refine ⟨fun ha => ?_, fun ha => ?_, fun ha c hc => ?_, h3⟩
  · rw [if_pos ha] at h2
    simp only [Bool.and_eq_true, decide_eq_true_eq] at h2
    exact h2.1.1
  · rw [if_neg ha] at h2
    simp only [Bool.and_eq_true, decide_eq_true_eq] at h2
    exact h2.1.2
  · rw [if_neg ha] at h2
    simp only [Bool.and_eq_true, decide_eq_true_eq, kidsOk, List.all_eq_true] at h2
    exact h2.2 c hc
theorem kid_at {ks : List Int} (i : Nat) : rd ks (i : Int) = (ks.drop i).headD 0 := by
  rw [rd_nat, headD_drop]
theorem kid_ok {ks : List Int} (h : ∀ c ∈ ks, 0 ≤ c ∧ c ≤ 2147483647) (i : Nat) : 0 ≤ (ks.drop i).headD 0 ∧ (ks.drop i).headD 0 ≤ 2147483647 := by
  cases e : ks.drop i with
  | nil => simp
  | cons c r => exact h c (List.mem_of_mem_drop (by rw [e]; simp))
section
variable {a : Bool} {l vs : List (List Int)} {ks : List Int} (S : Small l vs ks) (F : Frm a l vs ks)
include S F
theorem write_loop : ∀ (r p : List (List Int)) (acc : List Int), l = p ++ r → acc.length + (ent a r (vs.drop p.length) (ks.drop (p.length + 1))).length ≤ 1024 →
    Ev (fun k => node_Write.l0 k acc l (l.length : Int) (p.length : Int) a l vs ks) (pad (acc ++ ent a r (vs.drop p.length) (ks.drop (p.length + 1))), 0)
  | [], p, acc, e, _ => by
    refine ev_succ ?_
    simp only [node_Write.l0]
    refine ev_neg (by rw [e]; simp) (ev_some ?_)
    simp [ent, pad]
  | k :: r, p, acc, e, hb => by
    have hkl := S.kl
    have hlen : l.length = p.length + (r.length + 1) := by rw [e, List.length_append, List.length_cons]
    have hx : rd_L1 l (p.length : Int) = k := by rw [e]; exact rdL_mid _ _ _
    have e4 : ((p.length + 1 : Nat) : Int) = (((p ++ [k]).length : Nat) : Int) := by simp
    have et : (vs.drop p.length).tail = vs.drop (p ++ [k]).length := by rw [List.tail_drop]; simp
    have ec : (ks.drop (p.length + 1)).tail = ks.drop ((p ++ [k]).length + 1) := by rw [List.tail_drop]; simp
    have ih := fun acc' h => write_loop r (p ++ [k]) acc' (by rw [e]; simp) h
    unfold ent at hb ⊢
    rw [et, ec] at hb ⊢
    generalize ent a r (List.drop (p ++ [k]).length vs) (List.drop ((p ++ [k]).length + 1) ks) = E at hb ih ⊢
    rw [List.length_cons, List.length_append] at hb
    refine ev_succ ?_
    simp only [node_Write.l0]
    rw [hx, wrapS (by omega)]
    refine ev_pos (by omega) (ev_pos (by omega) (ev_pos (by omega) (ev_pos (by omega) (ev_let (ev_ite (fun h => ?_) (fun h => ?_))))))
    · rw [if_pos h] at hb ⊢
      rw [List.length_append, List.length_append] at hb
      have hbl : (b16 (((vs.drop p.length).headD []).length : Int)).length = 2 := rfl
      rw [hbl] at hb
      have hvl := F.leaf h
      rw [rdL_head, u16_id (by omega), app16 _ _ (by rw [List.length_append, List.length_singleton]; omega)]
      refine ev_pos (by omega) (ev_let (ev_pos (by simp only [List.length_append, List.length_singleton, hbl]; omega) (ev_let (ev_pos (by simp only [List.length_append, List.length_singleton, hbl]; omega) ?_))))
      rw [e4]
      have := ih (acc ++ [(k.length : Int) % 256] ++ b16 (((vs.drop p.length).headD []).length : Int) ++ k ++ (vs.drop p.length).headD []) (by simp only [List.length_append, List.length_singleton, hbl]; omega)
      simpa using this
    · rw [if_neg h] at hb ⊢
      rw [List.length_append] at hb
      have hbl : (b32 ((ks.drop (p.length + 1)).headD 0)).length = 4 := rfl
      rw [hbl] at hb
      have hcl := F.inner h
      have hok := kid_ok (F.kids h) (p.length + 1)
      rw [kid_at, Int.emod_eq_of_lt hok.1 (by omega), app32 _ _ (by simp only [List.length_append, List.length_singleton]; omega)]
      refine ev_pos (by simp only [List.length_append, List.length_singleton]; omega) (ev_pos (by omega) (ev_pos (by omega) (ev_let ?_)))
      rw [e4]
      have := ih (acc ++ [(k.length : Int) % 256] ++ k ++ b32 ((ks.drop (p.length + 1)).headD 0)) (by simp only [List.length_append, List.length_singleton, hbl]; omega)
      simpa using this
omit S F in
theorem pad_loop : ∀ (n : Nat) (b : List Int), b.length + n = 1024 → Ev (fun k => munimentref09_Write.l1 k b) (b ++ List.replicate n 0, 0)
  | 0, b, h => by
    refine ev_succ ?_
    simp only [munimentref09_Write.l1]
    exact ev_neg (by omega) (ev_some (by simp))
  | n + 1, b, h => by
    have ih := pad_loop n (b ++ [0]) (by simp; omega)
    refine ev_succ ?_
    simp only [munimentref09_Write.l1]
    refine ev_pos (by omega) (ev_pos (by omega) ?_)
    rw [List.replicate_succ]
    simpa using ih
theorem rwrite_loop : ∀ (r p : List (List Int)) (acc : List Int), l = p ++ r → acc.length + (ent a r (vs.drop p.length) (ks.drop (p.length + 1))).length ≤ 1024 →
    Ev (fun k => munimentref09_Write.l0 k acc (p.length : Int) a l vs ks) (pad (acc ++ ent a r (vs.drop p.length) (ks.drop (p.length + 1))), 0)
  | [], p, acc, e, hb => by
    refine ev_succ ?_
    simp only [munimentref09_Write.l0]
    refine ev_neg (by rw [e]; simp) ?_
    have := pad_loop (1024 - acc.length) acc (by have := Nat.le_trans (Nat.le_add_right _ _) hb; omega)
    simpa [ent, pad] using this
  | k :: r, p, acc, e, hb => by
    have hkl := S.kl
    have hlen : l.length = p.length + (r.length + 1) := by rw [e, List.length_append, List.length_cons]
    have hx : rd_L1 l (p.length : Int) = k := by rw [e]; exact rdL_mid _ _ _
    have e4 : ((p.length + 1 : Nat) : Int) = (((p ++ [k]).length : Nat) : Int) := by simp
    have et : (vs.drop p.length).tail = vs.drop (p ++ [k]).length := by rw [List.tail_drop]; simp
    have ec : (ks.drop (p.length + 1)).tail = ks.drop ((p ++ [k]).length + 1) := by rw [List.tail_drop]; simp
    have ih := fun acc' h => rwrite_loop r (p ++ [k]) acc' (by rw [e]; simp) h
    unfold ent at hb ⊢
    rw [et, ec] at hb ⊢
    generalize ent a r (List.drop (p ++ [k]).length vs) (List.drop ((p ++ [k]).length + 1) ks) = E at hb ih ⊢
    rw [List.length_cons, List.length_append] at hb
    refine ev_succ ?_
    simp only [munimentref09_Write.l0]
    rw [hx, wrapS (by omega)]
    refine ev_pos (by omega) (ev_pos (by omega) (ev_pos (by omega) (ev_let (ev_ite (fun h => ?_) (fun h => ?_)))))
    · rw [if_pos h] at hb ⊢
      rw [List.length_append, List.length_append] at hb
      have hbl : (b16 (((vs.drop p.length).headD []).length : Int)).length = 2 := rfl
      rw [hbl] at hb
      have hvl := F.leaf h
      rw [rdL_head]
      refine ev_pos (by omega) (ev_bind (rbig2 _ (by omega)) (ev_pos (by simp only [List.length_append, List.length_singleton, hbl]; omega) (ev_let (ev_pos (by simp only [List.length_append, List.length_singleton, hbl]; omega) (ev_let (ev_pos (by simp only [List.length_append, List.length_singleton, hbl]; omega) ?_))))))
      rw [e4]
      have := ih (acc ++ [(k.length : Int) % 256] ++ b16 (((vs.drop p.length).headD []).length : Int) ++ k ++ (vs.drop p.length).headD []) (by simp only [List.length_append, List.length_singleton, hbl]; omega)
      simpa using this
    · rw [if_neg h] at hb ⊢
      rw [List.length_append] at hb
      have hbl : (b32 ((ks.drop (p.length + 1)).headD 0)).length = 4 := rfl
      rw [hbl] at hb
      have hcl := F.inner h
      have hok := kid_ok (F.kids h) (p.length + 1)
      rw [kid_at]
      refine ev_pos (by simp only [List.length_append, List.length_singleton]; omega) (ev_let (ev_pos (by omega) (ev_pos (by omega) (ev_bind (rbig4 _ hok.1 hok.2) (ev_pos (by simp only [List.length_append, List.length_singleton, hbl]; omega) ?_)))))
      rw [e4]
      have := ih (acc ++ [(k.length : Int) % 256] ++ k ++ b32 ((ks.drop (p.length + 1)).headD 0)) (by simp only [List.length_append, List.length_singleton, hbl]; omega)
      simpa using this
end
def writeN (a : Bool) (l vs : List (List Int)) (ks : List Int) : List Int × Int := if formedN a l vs ks = true then (pad (bodyN a l vs ks), 0) else ([], 2)
section
variable {a : Bool} {l vs : List (List Int)} {ks : List Int} (S : Small l vs ks)
include S
theorem write_ev : Ev (fun k => node_Write.f k a l vs ks) (writeN a l vs ks) := by
  unfold node_Write.f writeN
  refine ev_bind (nformed_ev S) (ev_ite (fun hf => ?_) (fun hf => ev_some (by rw [if_neg hf])))
  rw [if_pos hf]
  have F := Frm.of hf
  have hs := F.size
  have hbl := body_len a l vs ks
  have hge := szL_ge a l vs
  have hl3 : l.length ≤ 400 := by unfold sizeN at hs; split at hs <;> omega
  have key : ∀ t : Int, t = (if a = true then 1 else 2) → Ev (fun k => node_Write.j0 k ([] ++ [t]) a l vs ks) (pad (bodyN a l vs ks), 0) := by
    intro t ht
    refine ev_succ ?_
    simp only [node_Write.j0]
    rw [u16_id (by omega), app16 _ _ (by simp)]
    refine ev_let (ev_ite (fun h => ev_succ ?_) (fun h => ?_))
    · simp only [node_Write.j1]
      have := write_loop S F l [] ([] ++ [t] ++ b16 (l.length : Int)) rfl (by
        rw [ent_len]
        unfold sizeN at hs
        rw [if_pos h] at hs
        simp [b16]
        omega)
      rw [ht, if_pos h] at this ⊢
      unfold bodyN headN
      rw [if_pos h, if_pos h]
      simpa [List.drop_one] using this
    · have hcl := F.inner h
      have hok := kid_ok (F.kids h) 0
      have k0 := kid_at (ks := ks) 0
      rw [List.drop_zero] at hok k0
      have k0' : rd ks 0 = ks.headD 0 := k0
      rw [k0', Int.emod_eq_of_lt hok.1 (by omega), app32 _ _ (by simp [b16])]
      refine ev_pos (by omega) (ev_let (ev_succ ?_))
      simp only [node_Write.j1]
      have := write_loop S F l [] ([] ++ [t] ++ b16 (l.length : Int) ++ b32 (ks.headD 0)) rfl (by
        rw [ent_len]
        unfold sizeN at hs
        rw [if_neg h] at hs
        simp [b16, b32]
        omega)
      rw [ht, if_neg h] at this ⊢
      unfold bodyN headN
      rw [if_neg h, if_neg h]
      simpa [List.drop_one] using this
  exact ev_ite (fun h => ev_pos (by simp) (key 1 (by rw [if_pos h]))) (fun h => ev_pos (by simp) (key 2 (by rw [if_neg h])))
theorem rwrite_ev : Ev (fun k => munimentref09_Write.f k a l vs ks) (writeN a l vs ks) := by
  unfold munimentref09_Write.f writeN
  refine ev_bind (rnformed_ev S) (ev_ite (fun hf => ?_) (fun hf => ev_some (by rw [if_neg hf])))
  rw [if_pos hf]
  have F := Frm.of hf
  have hs := F.size
  have hbl := body_len a l vs ks
  have hge := szL_ge a l vs
  have hl3 : l.length ≤ 400 := by unfold sizeN at hs; split at hs <;> omega
  have key : ∀ t : Int, t = (if a = true then 1 else 2) → Ev (fun k => munimentref09_Write.j0 k ([] ++ [t]) a l vs ks) (pad (bodyN a l vs ks), 0) := by
    intro t ht
    refine ev_succ ?_
    simp only [munimentref09_Write.j0]
    refine ev_bind (rbig2 _ (by omega)) (ev_pos (by simp [b16]) (ev_let (ev_ite (fun h => ev_succ ?_) (fun h => ?_))))
    · simp only [munimentref09_Write.j1]
      have := rwrite_loop S F l [] ([] ++ [t] ++ b16 (l.length : Int)) rfl (by
        rw [ent_len]
        unfold sizeN at hs
        rw [if_pos h] at hs
        simp [b16]
        omega)
      rw [ht, if_pos h] at this ⊢
      unfold bodyN headN
      rw [if_pos h, if_pos h]
      simpa [List.drop_one] using this
    · have hcl := F.inner h
      have hok := kid_ok (F.kids h) 0
      have k0 := kid_at (ks := ks) 0
      rw [List.drop_zero] at hok k0
      have k0' : rd ks 0 = ks.headD 0 := k0
      rw [k0']
      refine ev_pos (by omega) (ev_bind (rbig4 _ hok.1 hok.2) (ev_pos (by simp [b16, b32]) (ev_succ ?_)))
      simp only [munimentref09_Write.j1]
      have := rwrite_loop S F l [] ([] ++ [t] ++ b16 (l.length : Int) ++ b32 (ks.headD 0)) rfl (by
        rw [ent_len]
        unfold sizeN at hs
        rw [if_neg h] at hs
        simp [b16, b32]
        omega)
      rw [ht, if_neg h] at this ⊢
      unfold bodyN headN
      rw [if_neg h, if_neg h]
      simpa [List.drop_one] using this
  exact ev_ite (fun h => ev_pos (by simp) (key 1 (by rw [if_pos h]))) (fun h => ev_pos (by simp) (key 2 (by rw [if_neg h])))
end
end Go.Proofs.Ytmkcmfamdnjmdaa.Pl
