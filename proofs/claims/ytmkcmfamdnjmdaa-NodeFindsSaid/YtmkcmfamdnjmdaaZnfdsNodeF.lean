import Derived.Test.YtmkcmfamdnjmdaaZnfdsBytesE
import Derived.Test.YtmkcmfamdnjmdaaZnfdsBytesF
import Derived.Test.YtmkcmfamdnjmdaaZnfdsNodeOpen
import Derived.Test.YtmkcmfamdnjmdaaZnfdsPNx10
import Derived.Test.YtmkcmfamdnjmdaaZnfdsPNx2
import Derived.Test.YtmkcmfamdnjmdaaZnfdsPNx3
import Derived.Test.YtmkcmfamdnjmdaaZnfdsPNx4
import Derived.Test.YtmkcmfamdnjmdaaZnfdsPNx7
set_option linter.unusedSimpArgs false
set_option linter.unusedVariables false
set_option linter.unusedSectionVars false
namespace Go.Proofs.Ytmkcmfamdnjmdaa.Pl
open Go.RowKit Go.Proofs.YtmkcmfamdnjmdaaW.PrintWords Go.Proofs.YtmkcmfamdnjmdaaW.PrintMore Go.Proofs.Ytmkcmfamdnjmdaa.PN
theorem wrapN {n : Nat} (h : n + 1 ≤ maxLen) : wrap64 ((n : Int) + 1) = ((n + 1 : Nat) : Int) := by
  unfold maxLen at h
  rw [wrap64_id (by omega) (by omega)]
  omega
theorem rdL_get (l : List (List Int)) (i : Nat) (h : i < l.length) : rd_L1 l (i : Int) = l[i] := by
  unfold rd_L1
  rw [Int.toNat_natCast, List.getD_eq_getElem?_getD, List.getElem?_eq_getElem h]
  rfl
theorem rdL_mid (p r : List (List Int)) (x : List Int) : rd_L1 (p ++ x :: r) (p.length : Int) = x := by
  rw [rdL_get _ _ (by simp)]
  simp
/-- Rows of bytes. -/
def BB (l : List (List Int)) : Prop := ∀ x ∈ l, Bytes x
theorem bb_of {l : List (List Int)} (h : Op.Rows8 l) : BB l := fun x hx => bytes_of_wf (h.2 x hx).2
theorem cmp_lt {a b : List Int} (ha : Bytes a) (hb : Bytes b) : ∃ c, bytes_Compare.f a b = some c ∧ (c < 0 ↔ ltL a b = true) ∧ (c ≥ 0 ↔ ltL a b = false) := by
  refine ⟨_, rfl, ?_⟩
  rw [compareBytes_eq a b ha hb]
  by_cases h : ltL a b = true
  · simp [h]
  · simp only [Bool.not_eq_true] at h
    rw [h]
    simp only [if_false, Bool.false_eq_true]
    split <;> simp
def cnt (key : List Int) (l : List (List Int)) : Nat := (l.filter fun x => ltL x key).length
theorem cnt_cons (key x : List Int) (l : List (List Int)) : cnt key (x :: l) = (if ltL x key = true then 1 else 0) + cnt key l := by
  unfold cnt
  rw [List.filter_cons]
  split
  · rw [List.length_cons]; omega
  · omega
theorem cnt_le (key : List Int) (l : List (List Int)) : cnt key l ≤ l.length := List.length_filter_le _ _
theorem cnt_append (key : List Int) (a b : List (List Int)) : cnt key (a ++ b) = cnt key a + cnt key b := by
  unfold cnt
  rw [List.filter_append, List.length_append]
theorem cnt_all {key : List Int} : ∀ {l : List (List Int)}, (∀ x ∈ l, ltL x key = true) → cnt key l = l.length
  | [], _ => rfl
  | x :: l, h => by
    rw [cnt_cons, if_pos (h x (by simp)), cnt_all (fun y hy => h y (by simp [hy])), List.length_cons]
    omega
theorem cnt_none {key : List Int} : ∀ {l : List (List Int)}, (∀ x ∈ l, ltL x key = false) → cnt key l = 0
  | [], _ => rfl
  | x :: l, h => by
    rw [cnt_cons, if_neg (by rw [h x (by simp)]; simp), cnt_none (fun y hy => h y (by simp [hy]))]
/-- The place, and whether the key stands there. -/
def findV (l : List (List Int)) (key : List Int) : Int × Bool := ((cnt key l : Int), decide (l[cnt key l]? = some key))
section
variable (l : List (List Int)) (key : List Int) (a : Bool) (vs : List (List Int)) (ks : List Int) (hl : l.length ≤ maxLen) (hb : BB l) (hk : Bytes key) (hkl : key.length ≤ maxLen) (hm : ∀ x ∈ l, x.length ≤ maxLen)
include hl hb hk
theorem find_end : Ev (fun k => if ((cnt key l : Nat) : Int) < (l.length : Int) then (if 0 ≤ ((cnt key l : Nat) : Int) then ((bytes_Equal.f (rd_L1 l ((cnt key l : Nat) : Int)) key).bind fun t => (some (((cnt key l : Nat) : Int), t))) else none) else some (((cnt key l : Nat) : Int), false)) (findV l key) := by
  by_cases c : cnt key l < l.length
  · refine ev_pos (by omega) (ev_pos (by omega) ?_)
    rw [rdL_get _ _ c]
    refine ev_bind0 (equal_eq (hb _ (List.getElem_mem c)) hk) (ev_some ?_)
    unfold findV
    rw [List.getElem?_eq_getElem c]
    simp
  · refine ev_neg (by omega) (ev_some ?_)
    unfold findV
    rw [List.getElem?_eq_none (by omega)]
    simp
theorem find_loop : ∀ (r p : List (List Int)), l = p ++ r → Ev (fun k => node_Find.l0 k ((cnt key p : Nat) : Int) l (l.length : Int) (p.length : Int) a l vs ks key) (findV l key)
  | [], p, e => by
    have ep : l = p := by rw [e]; simp
    refine ev_succ ?_
    simp only [node_Find.l0]
    refine ev_neg (by rw [ep]; omega) ?_
    rw [← ep]
    exact find_end l key hl hb hk
  | x :: r, p, e => by
    have hlen : l.length = p.length + (r.length + 1) := by rw [e, List.length_append, List.length_cons]
    have hx : rd_L1 l (p.length : Int) = x := by rw [e]; exact rdL_mid _ _ _
    have ih := find_loop r (p ++ [x]) (by rw [e]; simp)
    rw [cnt_append, cnt_cons, List.length_append] at ih
    have hc := cnt_le key p
    obtain ⟨c, ec, c1, c2⟩ := cmp_lt (hb x (by rw [e]; simp)) hk
    refine ev_succ ?_
    simp only [node_Find.l0]
    rw [hx, wrapN (n := p.length) (by omega), wrapN (n := cnt key p) (by omega)]
    refine ev_pos (by omega) (ev_pos (by omega) (ev_pos (by omega) (ev_bind0 ec (ev_ite (fun h => ?_) (fun h => ?_)))))
    · rw [if_pos (c1.1 h)] at ih
      simpa [cnt] using ih
    · have : ltL x key = false := c2.1 (by omega)
      rw [this] at ih
      simpa [cnt] using ih
theorem sorted_loop : ∀ (j : Nat), j < l.length → ∃ b, Ev (fun k => slices_IsSortedFunc_byte_byte.l0 k l (j : Int)) b ∧ (b = true → ∀ i, i < j → ∀ (h : i + 1 < l.length), ltL l[i + 1] l[i] = false)
  | 0, _ => by
    refine ⟨true, ev_succ ?_, fun _ i hi => absurd hi (by omega)⟩
    simp only [slices_IsSortedFunc_byte_byte.l0]
    exact ev_neg (by omega) (ev_some rfl)
  | j + 1, hj => by
    obtain ⟨b, ih, eb⟩ := sorted_loop j (by omega)
    have w1 : wrap64 (((j + 1 : Nat) : Int) - 1) = (j : Int) := by
      unfold maxLen at hl
      rw [wrap64_id (by omega) (by omega)]
      omega
    obtain ⟨c, ec, c1, c2⟩ := cmp_lt (hb l[j + 1] (List.getElem_mem hj)) (hb (l[j]'(by omega)) (List.getElem_mem _))
    by_cases h : c < 0
    · refine ⟨false, ev_succ ?_, fun h => absurd h (by simp)⟩
      simp only [slices_IsSortedFunc_byte_byte.l0]
      rw [w1, rdL_get _ _ hj, rdL_get _ _ (by omega)]
      exact ev_pos (by omega) (ev_pos (by omega) (ev_pos (by omega) (ev_pos (by omega) (ev_pos (by omega) (ev_bind0 ec (ev_pos h (ev_some rfl)))))))
    · refine ⟨b, ev_succ ?_, fun hb' i hi hi2 => ?_⟩
      · simp only [slices_IsSortedFunc_byte_byte.l0]
        rw [w1, rdL_get _ _ hj, rdL_get _ _ (by omega)]
        exact ev_pos (by omega) (ev_pos (by omega) (ev_pos (by omega) (ev_pos (by omega) (ev_pos (by omega) (ev_bind0 ec (ev_neg h ih))))))
      · by_cases he : i = j
        · subst he
          exact c2.1 (by omega)
        · exact eb hb' i (by omega) hi2
theorem sorted_ev : ∃ b, Ev (fun k => slices_IsSortedFunc_byte_byte.f k l) b ∧ (b = true → ∀ i, ∀ (h : i + 1 < l.length), ltL l[i + 1] l[i] = false) := by
  unfold slices_IsSortedFunc_byte_byte.f
  by_cases h0 : l.length = 0
  · refine ⟨true, ev_succ ?_, fun _ i h => absurd h (by omega)⟩
    simp only [slices_IsSortedFunc_byte_byte.l0]
    rw [h0, wrap64_id (by omega) (by omega)]
    exact ev_neg (by omega) (ev_some rfl)
  · obtain ⟨b, h, e⟩ := sorted_loop l key hl hb hk (l.length - 1) (by omega)
    have w1 : wrap64 ((l.length : Int) - 1) = ((l.length - 1 : Nat) : Int) := by
      unfold maxLen at hl
      rw [wrap64_id (by omega) (by omega)]
      omega
    rw [w1]
    exact ⟨b, h, fun hb' i hi => e hb' i (by omega) hi⟩
omit hl hb hk in
theorem sorted_far (hs : ∀ i, ∀ (h : i + 1 < l.length), ltL l[i + 1] l[i] = false) : ∀ (d i : Nat) (h : i + d < l.length), ltL l[i + d] (l[i]'(by omega)) = false
  | 0, i, h => ltL_irrefl _
  | d + 1, i, h => by
    have h1 := sorted_far hs d i (by omega)
    have h2 := hs (i + d) (by omega)
    exact ltL_ge h2 h1
theorem search_p (i : Nat) (h : i < l.length) : sort_Search.p l key (i : Int) = some (!ltL l[i] key) := by
  unfold sort_Search.p
  rw [if_pos (by omega), if_pos (by omega), rdL_get _ _ h]
  obtain ⟨c, ec, c1, c2⟩ := cmp_lt (hb l[i] (List.getElem_mem h)) hk
  rw [ec]
  show some (decide (c ≥ 0)) = _
  congr 1
  cases e : ltL l[i] key with
  | true => have := c1.2 e; simp; omega
  | false => have := c2.2 e; simp; omega
theorem search_loop (hs : ∀ i, ∀ (h : i + 1 < l.length), ltL l[i + 1] l[i] = false) : ∀ (d i j : Nat), j ≤ i + d → i ≤ j → j ≤ l.length → (∀ m (h : m < l.length), m < i → ltL l[m] key = true) → (∀ m (h : m < l.length), j ≤ m → ltL l[m] key = false) →
    Ev (fun k => sort_Search.l0 k l key i j) ((cnt key l : Nat) : Int) := by
  intro d
  induction d with
  | zero =>
    intro i j h1 h2 h3 hi hj
    have e : i = j := by omega
    subst e
    refine ev_succ ?_
    simp only [sort_Search.l0]
    refine ev_neg (by omega) (ev_some ?_)
    have e1 : l = l.take i ++ l.drop i := (List.take_append_drop i l).symm
    have e2 : cnt key (l.take i) = i := by
      rw [cnt_all (fun x hx => ?_), List.length_take, Nat.min_eq_left h3]
      obtain ⟨m, hm, rfl⟩ := List.mem_iff_getElem.1 hx
      rw [List.length_take] at hm
      rw [List.getElem_take]
      exact hi m (by omega) (by omega)
    have e3 : cnt key (l.drop i) = 0 := by
      refine cnt_none (fun x hx => ?_)
      obtain ⟨m, hm, rfl⟩ := List.mem_iff_getElem.1 hx
      rw [List.length_drop] at hm
      rw [List.getElem_drop]
      exact hj (i + m) (by omega) (by omega)
    rw [e1, cnt_append, e2, e3]
    rfl
  | succ d ih =>
    intro i j h1 h2 h3 hi hj
    by_cases c : i < j
    · obtain ⟨m, hm⟩ : ∃ m, m = (i + j) / 2 := ⟨_, rfl⟩
      have hmj : m < j := by omega
      have him : i ≤ m := by omega
      have hml : m < l.length := by omega
      refine ev_succ ?_
      simp only [sort_Search.l0]
      rw [← hm]
      refine ev_pos c (ev_bind0 (search_p l key hl hb hk m hml) (ev_ite (fun h => ?_) (fun h => ?_)))
      · have hf : ltL l[m] key = false := by simpa using h
        refine ih i m (by omega) him (by omega) hi (fun q hq hmq => ?_)
        obtain ⟨z, rfl⟩ : ∃ z, q = m + z := ⟨q - m, by omega⟩
        exact ltL_ge (sorted_far l key hs z m hq) hf
      · have hf : ltL l[m] key = true := by simpa using h
        refine ih (m + 1) j (by omega) (by omega) h3 (fun q hq hmq => ?_) hj
        obtain ⟨z, rfl⟩ : ∃ z, m = q + z := ⟨m - q, by omega⟩
        exact ltL_le (sorted_far l key hs z q hml) hf
    · have e : i = j := by omega
      subst e
      have := ih i i (by omega) (by omega) h3 hi hj
      exact this
theorem find_ev (hq : l.length ≤ 140737488355328) : Ev (fun k => node_Find.f k a l vs ks key) (findV l key) := by
  unfold node_Find.f
  obtain ⟨b, hs, es⟩ := sorted_ev l key hl hb hk
  refine ev_bind hs (ev_ite (fun h => ?_) (fun h => find_loop l key a vs ks hl hb hk l [] rfl))
  have hS := search_loop l key hl hb hk (es h) l.length 0 l.length (by omega) (by omega) (by omega) (fun m _ h => absurd h (by omega)) (fun m h h' => absurd h (by omega))
  have hF : Ev (fun k => sort_Search.f k (l.length : Int) a l vs ks key) ((cnt key l : Nat) : Int) := by
    unfold sort_Search.f
    exact ev_pos rfl (ev_pos hq hS)
  exact ev_bind hF (find_end l key hl hb hk)
include hkl hm
theorem rfind_loop : ∀ (r p : List (List Int)), l = p ++ r → Ev (fun k => munimentref09_Find.l0 k key ((cnt key p : Nat) : Int) (p.length : Int) a l vs ks) (findV l key)
  | [], p, e => by
    have ep : l = p := by rw [e]; simp
    refine ev_succ ?_
    simp only [munimentref09_Find.l0]
    refine ev_neg (by rw [ep]; omega) ?_
    rw [← ep]
    by_cases c : cnt key l < l.length
    · refine ev_pos (by omega) (ev_pos (by omega) ?_)
      rw [rdL_get _ _ c]
      have hx := hm _ (List.getElem_mem c)
      unfold maxLen at hx
      refine ev_bind (bsame_ev _ _ (by omega)) (ev_some ?_)
      unfold findV
      rw [List.getElem?_eq_getElem c]
      simp
    · refine ev_neg (by omega) (ev_some ?_)
      unfold findV
      rw [List.getElem?_eq_none (by omega)]
      simp
  | x :: r, p, e => by
    have hlen : l.length = p.length + (r.length + 1) := by rw [e, List.length_append, List.length_cons]
    have hx : rd_L1 l (p.length : Int) = x := by rw [e]; exact rdL_mid _ _ _
    have ih := rfind_loop r (p ++ [x]) (by rw [e]; simp)
    rw [cnt_append, cnt_cons, List.length_append] at ih
    have hc := cnt_le key p
    have hxl := hm x (by rw [e]; simp)
    unfold maxLen at hxl
    refine ev_succ ?_
    simp only [munimentref09_Find.l0]
    rw [hx, wrapN (n := p.length) (by omega), wrapN (n := cnt key p) (by omega)]
    refine ev_pos (by omega) (ev_pos (by omega) (ev_bind (bless_ev _ _ (by omega)) (ev_ite (fun h => ?_) (fun h => ?_))))
    · rw [if_pos h] at ih
      simpa [cnt] using ih
    · rw [if_neg h] at ih
      simpa [cnt] using ih
theorem rfind_ev : Ev (fun k => munimentref09_Find.f k a l vs ks key) (findV l key) := by
  unfold munimentref09_Find.f
  exact rfind_loop l key a vs ks hl hb hk hkl hm l [] rfl
end
theorem nfew_v (a : Bool) (l vs : List (List Int)) (ks : List Int) (hv : vs.length ≤ maxLen) : ∀ (d i : Nat), i + d = vs.length → ∃ b, Ev (fun k => munimentref09_Few.l1 k (i : Int) a l vs ks) b
  | 0, i, h => by
    refine ⟨true, ev_succ ?_⟩
    simp only [munimentref09_Few.l1]
    exact ev_neg (by omega) (ev_some rfl)
  | d + 1, i, h => by
    obtain ⟨b, ih⟩ := nfew_v a l vs ks hv d (i + 1) (by omega)
    by_cases c : ((rd_L1 vs (i : Int)).length : Int) > 300
    · refine ⟨false, ev_succ ?_⟩
      simp only [munimentref09_Few.l1]
      exact ev_pos (by omega) (ev_pos (by omega) (ev_pos c (ev_some rfl)))
    · refine ⟨b, ev_succ ?_⟩
      simp only [munimentref09_Few.l1]
      rw [wrapN (n := i) (by omega)]
      exact ev_pos (by omega) (ev_pos (by omega) (ev_neg c ih))
theorem nfew_k (a : Bool) (l vs : List (List Int)) (ks : List Int) (hl : l.length ≤ maxLen) (hv : vs.length ≤ maxLen) : ∀ (d i : Nat), i + d = l.length → ∃ b, Ev (fun k => munimentref09_Few.l0 k (i : Int) a l vs ks) b
  | 0, i, h => by
    obtain ⟨b, hb⟩ := nfew_v a l vs ks hv vs.length 0 (by omega)
    refine ⟨b, ev_succ ?_⟩
    simp only [munimentref09_Few.l0]
    exact ev_neg (by omega) hb
  | d + 1, i, h => by
    obtain ⟨b, ih⟩ := nfew_k a l vs ks hl hv d (i + 1) (by omega)
    by_cases c : ((rd_L1 l (i : Int)).length : Int) > 300
    · refine ⟨false, ev_succ ?_⟩
      simp only [munimentref09_Few.l0]
      exact ev_pos (by omega) (ev_pos (by omega) (ev_pos c (ev_some rfl)))
    · refine ⟨b, ev_succ ?_⟩
      simp only [munimentref09_Few.l0]
      rw [wrapN (n := i) (by omega)]
      exact ev_pos (by omega) (ev_pos (by omega) (ev_neg c ih))
theorem nfew_ev (a : Bool) (l vs : List (List Int)) (ks : List Int) (hl : l.length ≤ maxLen) (hv : vs.length ≤ maxLen) : ∃ b, Ev (fun k => munimentref09_Few.f k a l vs ks) b ∧ (b = true → l.length ≤ 120 ∧ vs.length ≤ 120 ∧ ks.length ≤ 120) := by
  have no : Ev (fun k => munimentref09_Few.j0 k true a l vs ks) false := by
    refine ev_succ ?_
    simp only [munimentref09_Few.j0]
    exact ev_pos trivial (ev_some rfl)
  by_cases h1 : (l.length : Int) > 120
  · refine ⟨false, ?_, fun h => absurd h (by simp)⟩
    unfold munimentref09_Few.f
    exact ev_pos h1 no
  · by_cases h2 : (vs.length : Int) > 120
    · refine ⟨false, ?_, fun h => absurd h (by simp)⟩
      unfold munimentref09_Few.f
      exact ev_neg h1 (ev_pos h2 no)
    · by_cases h3 : (ks.length : Int) > 120
      · refine ⟨false, ?_, fun h => absurd h (by simp)⟩
        unfold munimentref09_Few.f
        refine ev_neg h1 (ev_neg h2 ?_)
        rw [show decide ((ks.length : Int) > 120) = true by simpa using h3]
        exact no
      · obtain ⟨b, hb⟩ := nfew_k a l vs ks hl hv l.length 0 (by omega)
        refine ⟨b, ?_, fun _ => by omega⟩
        unfold munimentref09_Few.f
        refine ev_neg h1 (ev_neg h2 ?_)
        rw [show decide ((ks.length : Int) > 120) = false by simpa using h3]
        refine ev_succ ?_
        simp only [munimentref09_Few.j0]
        exact ev_neg (by simp) hb
theorem nawake_ev : Ev (fun k => munimentlaw09_awake.f k) true := by
  have e0 : rd_L1 ([([1] : List Int)]) 0 = [1] := rfl
  have e1 : rd_L1 ([([2] : List Int)]) 0 = [2] := rfl
  have w1 : wrap64 (wrap64 (3 + (([1] : List Int).length : Int)) + (([2] : List Int).length : Int)) = 5 := by
    simp only [List.length_singleton]
    rw [wrap64_id (x := 3 + ((1 : Nat) : Int)) (by omega) (by omega), wrap64_id (by omega) (by omega)]
    rfl
  have w2 : wrap64 (3 + 5) = 8 := wrap64_id (by omega) (by omega)
  have w3 : wrap64 (0 + 1) = 1 := wrap64_id (by omega) (by omega)
  unfold munimentlaw09_awake.f node_Size.f
  refine ev_bind (b := 8) (ev_pos rfl (ev_succ ?_)) (ev_some rfl)
  simp only [node_Size.j0]
  refine ev_succ ?_
  simp only [node_Size.l0]
  refine ev_pos (by decide) (ev_bind0 (b := 5) ?_ (ev_succ ?_))
  · unfold node_entry.f
    rw [if_pos rfl, if_pos (by decide), if_pos (by decide), if_pos (by decide), e0, e1, w1]
  · simp only [node_Size.l0]
    rw [w2, w3]
    exact ev_neg (by decide) (ev_some rfl)
end Go.Proofs.Ytmkcmfamdnjmdaa.Pl
