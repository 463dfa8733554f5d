import Derived.Test.YtegcbfgoomopdaaDoorZocOrder
import Derived.Test.YtegcbfgoomopdaaDoorZocPOx15
import Derived.Test.YtegcbfgoomopdaaDoorZocPOx5
import Derived.Test.YtegcbfgoomopdaaDoorZocPOx7
set_option linter.unusedSimpArgs false
set_option linter.unusedVariables false
namespace Go.Proofs.YtegcbfgoomopdaaDoor.Pl
open Go.RowKit Go.Proofs.YtegcbfgoomopdaaDoorW.PrintWords Go.Proofs.YtegcbfgoomopdaaDoorW.PrintMore Go.Proofs.YtegcbfgoomopdaaDoor.PO
theorem toList_len (a : ByteArray) : a.toList.length = a.size := by rw [ByteArray.toList_eq, Array.length_toList]; rfl
theorem bt_get (a : ByteArray) (i : Nat) (h : i < a.size) : ∃ u : UInt8, a.toList[i]? = some u ∧ bt a (i : Int) = (u.toNat : Int) := by
  refine ⟨a[i]'h, ?_, ?_⟩
  · rw [ByteArray.toList_eq, Array.getElem?_toList]
    exact Array.getElem?_eq_getElem h
  · unfold bt
    simp only [Int.toNat_natCast]
    rw [dif_pos h]
theorem lens_eq (a b : Int) : munimentref03_lengths.f a b = some (cmpI a b) := by
  unfold munimentref03_lengths.f cmpI
  split
  · rfl
  · split <;> rfl
theorem texts_loop (a b : ByteArray) (ha : a.size ≤ maxLen) : ∀ (j i : Nat), i + j = min a.size b.size → Ev (fun k => munimentref03_texts.l0 k a b (i : Int)) (lexL cmpB (a.toList.drop i) (b.toList.drop i)) := by
  have base : ∀ i : Nat, i = min a.size b.size → Ev (fun k => munimentref03_texts.j1 k a b (i : Int) false) (lexL cmpB (a.toList.drop i) (b.toList.drop i)) := by
    intro i hi
    refine ev_succ ?_
    simp only [munimentref03_texts.j1]
    refine ev_neg (by simp) (ev_bind0 (lens_eq _ _) (ev_some ?_))
    rw [lex_end _ _ _ i (by rw [toList_len, toList_len]; omega), toList_len, toList_len]
  intro j
  induction j with
  | zero =>
    intro i hi
    refine ev_succ ?_
    simp only [munimentref03_texts.l0]
    refine ev_ite (fun h => ?_) (fun h => base i (by omega))
    rw [show decide ((i : Int) < (b.size : Int)) = false by simp; omega]
    exact base i (by omega)
  | succ j ih =>
    intro i hi
    unfold maxLen at ha
    obtain ⟨u, hu, bu⟩ := bt_get a i (by omega)
    obtain ⟨v, hv, bv⟩ := bt_get b i (by omega)
    refine ev_succ ?_
    simp only [munimentref03_texts.l0]
    refine ev_pos (by omega) ?_
    rw [show decide ((i : Int) < (b.size : Int)) = true by simp; omega]
    refine ev_succ ?_
    simp only [munimentref03_texts.j1, bu, bv]
    rw [drop_get hu, drop_get hv]
    have e := cmpB_nat u v
    have w1 : i + 1 ≤ maxLen := by unfold maxLen; omega
    simp only [lexL, e]
    rw [wrapN w1]
    refine ev_pos (by simp) (ev_pos (by omega) (ev_pos (by omega) (ev_pos (by omega) ?_)))
    refine ev_ite (fun h1 => ev_some (by simp [cmpI, h1, or2])) (fun h1 => ev_ite (fun h2 => ev_some (by simp [cmpI, h1, h2, or2])) (fun h2 => ?_))
    have hz : cmpI (u.toNat : Int) (v.toNat : Int) = 0 := by unfold cmpI; omega
    rw [hz]
    exact ih (i + 1) (by omega)
theorem texts_ev (a b : ByteArray) (ha : a.size ≤ maxLen) : Ev (fun k => munimentref03_texts.f k a b) (cmpS a b) := by
  unfold munimentref03_texts.f
  have := texts_loop a b ha (min a.size b.size) 0 (by omega)
  exact this
theorem names_text : ∀ (l : List ByteArray) (p : Option ByteArray), namesFrom p l = true → ∀ s ∈ l, textB s = true
  | [], _, _, s, hs => by simp at hs
  | a :: r, p, h, s, hs => by
    simp only [namesFrom, Bool.and_eq_true] at h
    rcases List.mem_cons.1 hs with rfl | hs
    · exact h.1.1
    · exact names_text r _ h.2 s hs
theorem text_size {s : ByteArray} (h : textB s = true) : s.size ≤ 60 := by
  unfold textB at h
  simp only [Bool.and_eq_true, decide_eq_true_eq] at h
  exact h.1
theorem shallow_text {v : V} (h : shallow v = true) : v.f2.size ≤ 60 := by
  unfold shallow at h
  simp only [Bool.and_eq_true] at h
  exact text_size h.1.2
theorem shallow_names {v : V} (h : shallow v = true) (i : Nat) (hi : i < v.f3.length) : (rdOf ByteArray.empty v.f3 (i : Int)).size ≤ 60 := by
  have e : rdOf ByteArray.empty v.f3 (i : Int) = v.f3[i] := by
    unfold rdOf
    rw [Int.toNat_natCast, List.getD_eq_getElem?_getD, List.getElem?_eq_getElem hi]
    rfl
  rw [e]
  have hl := shallow_len h
  unfold shallow at h
  simp only [Bool.and_eq_true] at h
  obtain ⟨_, h⟩ := h
  split at h
  · simp only [Bool.and_eq_true, decide_eq_true_eq] at h
    omega
  · simp only [Bool.and_eq_true, decide_eq_true_eq] at h
    exact text_size (names_text _ _ h.2 _ (List.getElem_mem hi))
theorem plain_loop (n : Nat) (h : ∀ a b : V, fm n a = true → fm n b = true → Ev (fun k => munimentref03_Plain.f k a.f0 a.f1 a.f2 a.f3 a.f4 b.f0 b.f1 b.f2 b.f3 b.f4) (cmpV n a b))
    (a b : V) (ha : fm (n + 1) a = true) (hb : fm (n + 1) b = true) (h0 : a.f0 = b.f0) :
    ∀ (j i : Nat), i + j = min a.f4.length b.f4.length → Ev (fun k => munimentref03_Plain.l0 k (i : Int) a.f0 a.f1 a.f2 a.f3 a.f4 b.f0 b.f1 b.f2 b.f3 b.f4) (lexL (cmpP (cmpV n)) ((mem a).drop i) ((mem b).drop i)) := by
  obtain ⟨sa, fa⟩ := fm_succ ha
  obtain ⟨sb, fb⟩ := fm_succ hb
  have la := shallow_len sa
  have lb := shallow_len sb
  have base : ∀ i : Nat, i = min a.f4.length b.f4.length → Ev (fun k => munimentref03_Plain.j2 k (i : Int) false a.f0 a.f1 a.f2 a.f3 a.f4 b.f0 b.f1 b.f2 b.f3 b.f4) (lexL (cmpP (cmpV n)) ((mem a).drop i) ((mem b).drop i)) := by
    intro i hi
    refine ev_succ ?_
    simp only [munimentref03_Plain.j2]
    refine ev_neg (by simp) (ev_bind0 (lens_eq _ _) (ev_some ?_))
    rw [lex_end _ _ _ i (by rw [mem_len sa, mem_len sb]; omega), mem_len sa, mem_len sb]
  intro j
  induction j with
  | zero =>
    intro i hi
    refine ev_succ ?_
    simp only [munimentref03_Plain.l0]
    refine ev_ite (fun h => ?_) (fun h => base i (by omega))
    rw [show decide ((i : Int) < (b.f4.length : Int)) = false by simp; omega]
    exact base i (by omega)
  | succ j ih =>
    intro i hi
    have ga := mem_get sa i (by omega)
    have gb := mem_get sb i (by omega)
    have w1 : i + 1 ≤ maxLen := by unfold maxLen; omega
    have hfa : fm n (rd_T30 a.f4 (i : Int)) = true := mem_fm ha _ (List.mem_of_getElem? ga)
    have hfb : fm n (rd_T30 b.f4 (i : Int)) = true := mem_fm hb _ (List.mem_of_getElem? gb)
    rw [drop_get ga, drop_get gb]
    simp only [lexL, cmpP]
    have next := ih (i + 1) (by omega)
    refine ev_succ ?_
    simp only [munimentref03_Plain.l0]
    refine ev_pos (by omega) ?_
    rw [show decide ((i : Int) < (b.f4.length : Int)) = true by simp; omega]
    refine ev_succ ?_
    simp only [munimentref03_Plain.j2]
    rw [wrapN w1]
    refine ev_pos (by simp) (ev_ite (fun h6 => ?_) (fun h6 => ?_))
    · have h6' : b.f0 = 6 := h0.symm.trans h6
      rw [if_pos h6] at la
      rw [if_pos h6'] at lb
      have hs := shallow_names sa i (by omega)
      rw [if_pos h6, if_pos h6']
      refine ev_pos (by omega) (ev_pos (by omega) (ev_pos (by omega) (ev_bind (texts_ev _ _ (by unfold maxLen; omega)) (ev_ite (fun hc => ?_) (fun hc => ev_some (by simp [or2, hc]))))))
      refine ev_pos (by omega) (ev_pos (by omega) (ev_bind (h _ _ hfa hfb) (ev_ite (fun hz => ?_) (fun hz => ev_some (by simp [or2, hc, hz])))))
      rw [hz, hc]
      exact next
    · have h6' : ¬ b.f0 = 6 := fun h => h6 (h0.trans h)
      rw [if_neg h6, if_neg h6', cmpS_self]
      refine ev_pos (by omega) (ev_pos (by omega) (ev_pos (by omega) (ev_bind (h _ _ hfa hfb) (ev_ite (fun hz => ?_) (fun hz => ev_some (by simp [or2, hz]))))))
      rw [hz]
      exact next
theorem mem_nil {v : V} (h : v.f4 = []) : mem v = [] := by
  unfold mem
  rw [h]
  simp
theorem plain_ev : ∀ (n : Nat) (a b : V), fm n a = true → fm n b = true → Ev (fun k => munimentref03_Plain.f k a.f0 a.f1 a.f2 a.f3 a.f4 b.f0 b.f1 b.f2 b.f3 b.f4) (cmpV n a b)
  | 0, _, _, h, _ => by simp [fm] at h
  | n + 1, a, b, ha, hb => by
    obtain ⟨sa, fa⟩ := fm_succ ha
    obtain ⟨sb, fb⟩ := fm_succ hb
    obtain ⟨a0, a6, a1, a2, a4⟩ := shallow_kind sa
    obtain ⟨b0, b6, b1, b2, b4⟩ := shallow_kind sb
    have ta := shallow_text sa
    have zI : ∀ x : Int, cmpI x x = 0 := fun x => (good_cmpI.zero x x trivial trivial).2 rfl
    have hS : a.f0 = b.f0 → a.f0 ≠ 4 → cmpS a.f2 b.f2 = 0 := by
      intro h0 h4
      have e1 := a2.resolve_left h4
      have e2 := b2.resolve_left (fun h => h4 (h0.trans h))
      unfold cmpS
      rw [e1, e2]
      rfl
    have hN : a.f0 = b.f0 → a.f0 ≠ 3 → cmpI a.f1 b.f1 = 0 := by
      intro h0 h3
      rw [a1.resolve_left h3, b1.resolve_left (fun h => h3 (h0.trans h))]
      rfl
    have hM : a.f0 = b.f0 → a.f0 < 5 → lexL (cmpP (cmpV n)) (mem a) (mem b) = 0 := by
      intro h0 h5
      rw [mem_nil (a4 h5), mem_nil (b4 (by omega))]
      rfl
    refine ev_succ ?_
    simp only [munimentref03_Plain.f, cmpV, cmpT, cmpR]
    refine ev_ite (fun h0 => ?_) (fun h0 => ev_bind0 (lens_eq _ _) (ev_some ?_))
    · have c0 : cmpI a.f0 b.f0 = 0 := by rw [h0]; exact zI _
      rw [c0]
      refine ev_ite (fun h3 => ?_) (fun h3 => ?_)
      · rw [hS h0 (by omega), hM h0 (by omega)]
        refine ev_ite (fun h => ev_some (by simp [or2, cmpI, h])) (fun h => ev_ite (fun h' => ev_some (by simp [or2, cmpI, h, h'])) (fun h' => ev_some (by simp [or2, cmpI, h, h'])))
      · rw [hN h0 h3]
        refine ev_ite (fun h4 => ev_bind (texts_ev _ _ (by unfold maxLen; omega)) (ev_some ?_)) (fun h4 => ?_)
        · rw [hM h0 (by omega), or2_zero]
          simp [or2]
        · rw [hS h0 h4]
          have loop : Ev (fun k => munimentref03_Plain.j0 k true a.f0 a.f1 a.f2 a.f3 a.f4 b.f0 b.f1 b.f2 b.f3 b.f4) (or2 0 (or2 0 (or2 0 (lexL (cmpP (cmpV n)) (mem a) (mem b))))) := by
            refine ev_succ ?_
            simp only [munimentref03_Plain.j0]
            exact ev_pos (by simp) (plain_loop n (plain_ev n) a b ha hb h0 (min a.f4.length b.f4.length) 0 (by omega))
          refine ev_ite (fun h5 => ?_) (fun h5 => ?_)
          · rw [show (a.f0 == 5) = true by simp [h5]]
            exact loop
          · by_cases h6 : a.f0 = 6
            · rw [show (a.f0 == 6) = true by simp [h6]]
              exact loop
            · rw [show (a.f0 == 6) = false by simp [h6], hM h0 (by omega)]
              refine ev_succ ?_
              simp only [munimentref03_Plain.j0]
              exact ev_neg (by simp) (ev_some rfl)
    · have : cmpI a.f0 b.f0 ≠ 0 := fun h => h0 ((good_cmpI.zero _ _ trivial trivial).1 h)
      simp [or2, this]
theorem RCompare_ev {n m : Nat} {a b : V} (ha : FineN n a) (hb : FineN m b) : Ev (fun k => munimentref03_Compare.f k a.f0 a.f1 a.f2 a.f3 a.f4 b.f0 b.f1 b.f2 b.f3 b.f4) (cmpF a b) := by
  unfold munimentref03_Compare.f cmpF
  refine ev_bind (rFormed_ev ha) (ev_ite (fun h1 => ?_) (fun h1 => ev_some (by rw [if_neg (fun h => h1 h.1)])))
  refine ev_bind (rFormed_ev hb) (ev_ite (fun h2 => ?_) (fun h2 => ev_some (by rw [if_neg (fun h => h2 h.2)])))
  rw [if_pos ⟨h1, h2⟩]
  exact ev_bind (plain_ev 6 a b h1 h2) (ev_some rfl)
theorem few3_loop (n : Nat) (l : List V) (hl : l.length ≤ maxLen) (hf : ∀ x ∈ l, FineN n x) : ∀ (r p : List V) (acc : Int), l = p ++ r → 0 ≤ acc → acc ≤ 1601 → ∃ b, Ev (fun k => munimentlaw03_few.l0 k l acc (p.length : Int)) b := by
  have stop : ∀ (acc i : Int), ∃ b, Ev (fun k => munimentlaw03_few.j1 k l acc i false) b := by
    intro acc i
    refine ⟨decide (acc ≤ 600), ev_succ ?_⟩
    simp only [munimentlaw03_few.j1]
    exact ev_neg (by simp) (ev_some rfl)
  intro r
  induction r with
  | nil =>
    intro p acc e a0 a1
    obtain ⟨b, hb⟩ := stop acc p.length
    refine ⟨b, ev_succ ?_⟩
    simp only [munimentlaw03_few.l0]
    exact ev_neg (by rw [e]; simp) hb
  | cons x r ih =>
    intro p acc e a0 a1
    have hlen : l.length = p.length + (r.length + 1) := by rw [e, List.length_append, List.length_cons]
    have hx : rd_T30 l (p.length : Int) = x := by rw [e]; exact rdV_mid _ _ _
    have fx := hf x (by rw [e]; simp)
    by_cases h6 : acc ≤ 600
    · obtain ⟨q, q1, q2, hq⟩ := Nodes_ev fx
      obtain ⟨c, hc⟩ := few_ev n x fx
      obtain ⟨b, hb⟩ := ih (p ++ [x]) (acc + q) (by rw [e]; simp) (by omega) (by omega)
      refine ⟨if c = true then b else false, ev_succ ?_⟩
      simp only [munimentlaw03_few.l0]
      refine ev_pos (by omega) ?_
      rw [show decide (acc ≤ 600) = true by simp [h6]]
      refine ev_succ ?_
      simp only [munimentlaw03_few.j1]
      rw [hx, wrapN (by omega)]
      refine ev_pos (by simp) (ev_pos (by omega) (ev_pos (by omega) (ev_bind hq (ev_bind hc (ev_ite (fun d => ?_) (fun d => ev_some (by rw [if_neg d])))))))
      rw [if_pos d, wrap64_id (by omega) (by omega)]
      simpa using hb
    · obtain ⟨b, hb⟩ := stop acc p.length
      refine ⟨b, ev_succ ?_⟩
      simp only [munimentlaw03_few.l0]
      refine ev_pos (by omega) ?_
      rw [show decide (acc ≤ 600) = false by simp [h6]]
      exact hb
theorem few3_ev {n : Nat} {l : List V} (hl : l.length ≤ maxLen) (hf : ∀ x ∈ l, FineN n x) : ∃ b, Ev (fun k => munimentlaw03_few.f k l) b := by
  unfold munimentlaw03_few.f
  exact few3_loop n l hl hf l [] 0 rfl (by omega) (by omega)
theorem fm_leaf (i x : Int) (h0 : 0 ≤ i) (h5 : i < 5) (h3 : i = 3 ∨ x = 0) (n : Nat) : fm (n + 1) ⟨i, x, ⟨#[]⟩, [], []⟩ = true := by
  have e : textB ⟨#[]⟩ = true := by
    unfold textB
    rfl
  have e2 : (⟨#[]⟩ : ByteArray).toList = [] := by rw [ByteArray.toList_eq]
  have e3 : (decide (i = 3) || decide (x = 0)) = true := by simpa using h3
  simp only [fm, shallow, e, e2, e3, List.all_nil, Bool.and_true]
  simp [h5]
  omega
theorem fine_leaf (i x : Int) (hi : (Lit.int .i64 i).wf = true) (hx : (Lit.int .i64 x).wf = true) : FineN 1 ⟨i, x, ⟨#[]⟩, [], []⟩ :=
  ⟨hi, hx, Nat.zero_le _, Nat.zero_le _, fun _ h => by simp at h, Nat.zero_le _, fun _ h => by simp at h⟩
theorem awake3_ev : Ev (fun k => munimentlaw03_awake.f k) true := by
  unfold munimentlaw03_awake.f
  have f2 := fine_leaf 2 0 (by decide) (by decide)
  have f3 := fine_leaf 3 0 (by decide) (by decide)
  refine ev_bind (Compare_ev f2 f3) (ev_some ?_)
  unfold cmpF
  rw [if_pos ⟨fm_leaf 2 0 (by omega) (by omega) (by omega) 5, fm_leaf 3 0 (by omega) (by omega) (by omega) 5⟩]
  rfl
end Go.Proofs.YtegcbfgoomopdaaDoor.Pl
