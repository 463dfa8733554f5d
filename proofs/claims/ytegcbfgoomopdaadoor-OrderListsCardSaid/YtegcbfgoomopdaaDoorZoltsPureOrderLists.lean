import Derived.Test.YtegcbfgoomopdaaDoorZoltsOrderR
import Derived.Test.YtegcbfgoomopdaaDoorZoltsPOx27
set_option linter.unusedSimpArgs false
set_option linter.unusedVariables false
namespace Go.Proofs.YtegcbfgoomopdaaDoor.Pl
open Go.RowKit Go.Proofs.YtegcbfgoomopdaaDoorW.PrintWords Go.Proofs.YtegcbfgoomopdaaDoorW.PrintMore Go.Proofs.YtegcbfgoomopdaaDoor.PO
def leaf (x : Int) : V := ⟨3, x, ⟨#[]⟩, [], []⟩
def arr (l : List V) : V := ⟨5, 0, ⟨#[]⟩, [], l⟩
theorem cmpI_self (x : Int) : cmpI x x = 0 := (good_cmpI.zero x x trivial trivial).2 rfl
theorem lex_leaf : ∀ a b : List Int, lexL (cmpP (cmpV 5)) ((a.map leaf).map fun x => (ByteArray.empty, x)) ((b.map leaf).map fun x => (ByteArray.empty, x)) = lexL cmpI a b
  | [], [] => rfl
  | [], _ :: _ => rfl
  | _ :: _, [] => rfl
  | x :: a, y :: b => by
    have ih := lex_leaf a b
    have e : cmpP (cmpV 5) (ByteArray.empty, leaf x) (ByteArray.empty, leaf y) = cmpI x y := by
      have hm : ∀ z, mem (leaf z) = [] := fun z => mem_nil rfl
      simp only [cmpP, cmpV, cmpT, cmpR, cmpS_self, hm]
      have : cmpI (leaf x).f0 (leaf y).f0 = 0 := cmpI_self 3
      rw [this]
      have h2 : cmpS (leaf x).f2 (leaf y).f2 = 0 := cmpS_self _
      rw [h2]
      show or2 0 (or2 0 (or2 (cmpI x y) (or2 0 (lexL (cmpP (cmpV 4)) [] [])))) = cmpI x y
      have h3 : lexL (cmpP (cmpV 4)) [] [] = 0 := rfl
      have h4 : ∀ z, or2 0 z = z := fun z => by simp [or2]
      rw [h3, h4, h4, h4, or2_zero]
    simp only [List.map_cons, lexL, e, ih]
theorem fm_arr (l : List Int) (hl : l.length ≤ 24) : fm 6 (arr (l.map leaf)) = true := by
  have e : textB ⟨#[]⟩ = true := rfl
  have e2 : (⟨#[]⟩ : ByteArray).toList = [] := by rw [ByteArray.toList_eq]
  have h4 : (l.map leaf).all (fm 5) = true := by
    rw [List.all_eq_true]
    intro x hx
    obtain ⟨z, _, rfl⟩ := List.mem_map.1 hx
    exact fm_leaf 3 z (by omega) (by omega) (by omega) 4
  unfold fm
  rw [show (arr (l.map leaf)).f4 = l.map leaf from rfl, h4, Bool.and_true]
  unfold shallow arr
  simp only [e, e2, List.length_map, namesFrom]
  simp [hl]
theorem cmp_arr (a b : List Int) (ha : a.length ≤ 24) (hb : b.length ≤ 24) : cmpF (arr (a.map leaf)) (arr (b.map leaf)) = lexL cmpI a b := by
  unfold cmpF
  rw [if_pos ⟨fm_arr a ha, fm_arr b hb⟩, ← lex_leaf]
  have hm : ∀ l : List V, mem (arr l) = l.map fun x => (ByteArray.empty, x) := fun l => by
    show (if (5 : Int) = 6 then _ else _) = _
    rw [if_neg (by omega)]
    rfl
  have h4 : ∀ z, or2 0 z = z := fun z => by simp [or2]
  rw [← hm, ← hm]
  show or2 (cmpI 5 5) (or2 (cmpI 0 0) (or2 (cmpS ⟨#[]⟩ ⟨#[]⟩) _)) = _
  rw [cmpI_self, cmpI_self, cmpS_self, h4, h4, h4]
theorem fine_arr (l : List Int) (hl : l.length ≤ 24) (hw : ∀ x ∈ l, (Lit.int .i64 x).wf = true) : FineN 2 (arr (l.map leaf)) :=
  ⟨show (Lit.int .i64 5).wf = true by decide, show (Lit.int .i64 0).wf = true by decide, Nat.zero_le _, Nat.zero_le _, fun _ h => by simp [arr] at h, by simp [arr, maxLen]; omega, fun x hx => by
    obtain ⟨z, hz, rfl⟩ := List.mem_map.1 (show x ∈ l.map leaf from hx)
    exact fine_leaf 3 z (by decide) (hw z hz)⟩
section
variable (a b : List Int) (ha : a.length ≤ 24) (hb : b.length ≤ 24) (wa : ∀ x ∈ a, (Lit.int .i64 x).wf = true) (wb : ∀ x ∈ b, (Lit.int .i64 x).wf = true)
include ha hb wa wb
theorem lists_cmp : Ev (fun k => order_Compare.f k 5 0 (⟨#[]⟩ : ByteArray) ([] : List ByteArray) (a.map leaf) 5 0 (⟨#[]⟩ : ByteArray) ([] : List ByteArray) (b.map leaf)) (lexL cmpI a b) := by
  have := Compare_ev (fine_arr a ha wa) (fine_arr b hb wb)
  rw [cmp_arr a b ha hb] at this
  exact this
theorem lists_done (c : Int) (hc : c ≠ 0) (hR : lexL cmpI a b = c) (i : Int) (h0 : 0 ≤ i) : Ev (fun k => munimentlaw03_OrderLists.l2 k a b c i 5 0 (⟨#[]⟩ : ByteArray) (a.map leaf) 5 0 (⟨#[]⟩ : ByteArray) (b.map leaf)) true := by
  have h4 : Ev (fun k => munimentlaw03_OrderLists.j4 k a b c i false 5 0 (⟨#[]⟩ : ByteArray) (a.map leaf) 5 0 (⟨#[]⟩ : ByteArray) (b.map leaf)) true := by
    refine ev_succ ?_
    simp only [munimentlaw03_OrderLists.j4]
    refine ev_neg (by simp) (ev_neg hc (ev_succ ?_))
    simp only [munimentlaw03_OrderLists.j5]
    exact ev_neg (by simp) (ev_neg hc (ev_bind (lists_cmp a b ha hb wa wb) (ev_some (by simp [hR]))))
  refine ev_succ ?_
  simp only [munimentlaw03_OrderLists.l2]
  rw [show (c == 0) = false by simp [hc]]
  exact ev_ite (fun _ => ev_ite (fun _ => h4) (fun _ => h4)) (fun _ => h4)
theorem lists_loop : ∀ (j i : Nat), i + j = min a.length b.length → lexL cmpI (a.drop i) (b.drop i) = lexL cmpI a b →
    Ev (fun k => munimentlaw03_OrderLists.l2 k a b 0 (i : Int) 5 0 (⟨#[]⟩ : ByteArray) (a.map leaf) 5 0 (⟨#[]⟩ : ByteArray) (b.map leaf)) true := by
  intro j
  induction j with
  | zero =>
    intro i hi hR
    rw [lex_end _ _ _ i (by omega)] at hR
    have h4 : Ev (fun k => munimentlaw03_OrderLists.j4 k a b 0 (i : Int) false 5 0 (⟨#[]⟩ : ByteArray) (a.map leaf) 5 0 (⟨#[]⟩ : ByteArray) (b.map leaf)) true := by
      refine ev_succ ?_
      simp only [munimentlaw03_OrderLists.j4]
      refine ev_neg (by simp) (ev_pos (by simp) (ev_succ ?_))
      simp only [munimentlaw03_OrderLists.j5]
      refine ev_ite (fun h => ?_) (fun h => ?_)
      · have h' : (a.length : Int) < (b.length : Int) := by simpa using h
        refine ev_bind (lists_cmp a b ha hb wa wb) (ev_some ?_)
        rw [← hR]
        simp [cmpI, h']
      · have h' : ¬ (a.length : Int) < (b.length : Int) := by simpa using h
        refine ev_pos (by simp) (ev_ite (fun g => ?_) (fun g => ?_))
        · refine ev_bind (lists_cmp a b ha hb wa wb) (ev_some ?_)
          rw [← hR]
          unfold cmpI
          rw [if_neg h', if_pos g]
          rfl
        · refine ev_bind (lists_cmp a b ha hb wa wb) (ev_some ?_)
          rw [← hR]
          unfold cmpI
          rw [if_neg h', if_neg g]
          rfl
    refine ev_succ ?_
    simp only [munimentlaw03_OrderLists.l2]
    exact ev_ite (fun _ => ev_neg (by omega) h4) (fun _ => h4)
  | succ j ih =>
    intro i hi hR
    have ga : a[i]? = some a[i] := List.getElem?_eq_getElem (by omega)
    have gb : b[i]? = some b[i] := List.getElem?_eq_getElem (by omega)
    rw [drop_get ga, drop_get gb] at hR
    have ra : rd a (i : Int) = a[i] := by rw [rd_nat, List.getD_eq_getElem?_getD, ga]; rfl
    have rb : rd b (i : Int) = b[i] := by rw [rd_nat, List.getD_eq_getElem?_getD, gb]; rfl
    have w1 : i + 1 ≤ maxLen := by unfold maxLen; omega
    simp only [lexL] at hR
    refine ev_succ ?_
    simp only [munimentlaw03_OrderLists.l2]
    refine ev_pos (by omega) (ev_pos (by omega) ?_)
    rw [show ((0 : Int) == 0) = true from rfl]
    refine ev_succ ?_
    simp only [munimentlaw03_OrderLists.j4, ra, rb]
    rw [wrapN w1]
    refine ev_pos (by simp) (ev_pos (by omega) (ev_pos (by omega) (ev_pos (by omega) ?_)))
    refine ev_ite (fun h => ?_) (fun h => ev_ite (fun h' => ?_) (fun h' => ?_))
    · refine lists_done a b ha hb wa wb (-1) (by omega) ?_ _ (by omega)
      rw [← hR]
      simp [cmpI, h, or2]
    · refine lists_done a b ha hb wa wb 1 (by omega) ?_ _ (by omega)
      rw [← hR]
      simp [cmpI, h, h', or2]
    · refine ih (i + 1) (by omega) ?_
      rw [← hR]
      simp [cmpI, h, h', or2]
theorem lists_b : ∀ (r p : List Int), b = p ++ r → Ev (fun k => munimentlaw03_OrderLists.l1 k a b (p.length : Int) 5 0 (⟨#[]⟩ : ByteArray) (a.map leaf) 5 0 (⟨#[]⟩ : ByteArray) (p.map leaf)) true
  | [], p, e => by
    refine ev_succ ?_
    simp only [munimentlaw03_OrderLists.l1]
    have eb : b = p := by rw [e]; simp
    refine ev_neg (by rw [eb]; simp) ?_
    rw [← eb]
    exact lists_loop a b ha hb wa wb (min a.length b.length) 0 (by omega) rfl
  | x :: r, p, e => by
    have ih := lists_b r (p ++ [x]) (by rw [e]; simp)
    have hl : b.length = p.length + (r.length + 1) := by rw [e, List.length_append, List.length_cons]
    have hx : rd b (p.length : Int) = x := by rw [e]; exact rd_mid _ _ _
    refine ev_succ ?_
    simp only [munimentlaw03_OrderLists.l1]
    rw [hx, wrapN (by unfold maxLen; omega)]
    refine ev_pos (by omega) (ev_pos (by omega) (ev_pos (by rw [List.length_map]; omega) ?_))
    simpa [leaf] using ih
theorem lists_a : ∀ (r p : List Int), a = p ++ r → Ev (fun k => munimentlaw03_OrderLists.l0 k a b (p.length : Int) 5 0 (⟨#[]⟩ : ByteArray) (p.map leaf) 5 0 (⟨#[]⟩ : ByteArray)) true
  | [], p, e => by
    refine ev_succ ?_
    simp only [munimentlaw03_OrderLists.l0]
    have ea : a = p := by rw [e]; simp
    refine ev_neg (by rw [ea]; simp) ?_
    rw [← ea]
    exact lists_b a b ha hb wa wb b [] rfl
  | x :: r, p, e => by
    have ih := lists_a r (p ++ [x]) (by rw [e]; simp)
    have hl : a.length = p.length + (r.length + 1) := by rw [e, List.length_append, List.length_cons]
    have hx : rd a (p.length : Int) = x := by rw [e]; exact rd_mid _ _ _
    refine ev_succ ?_
    simp only [munimentlaw03_OrderLists.l0]
    rw [hx, wrapN (by unfold maxLen; omega)]
    refine ev_pos (by omega) (ev_pos (by omega) (ev_pos (by rw [List.length_map]; omega) ?_))
    simpa [leaf] using ih
end
theorem orderLists_ev (a b : List Int) (wa : ∀ x ∈ a, (Lit.int .i64 x).wf = true) (wb : ∀ x ∈ b, (Lit.int .i64 x).wf = true) : Ev (fun k => munimentlaw03_OrderLists.f k a b) true := by
  have hno : Ev (fun k => munimentlaw03_OrderLists.j0 k a b true) true := by
    refine ev_succ ?_
    simp only [munimentlaw03_OrderLists.j0]
    exact ev_pos (by simp) (ev_bind awake3_ev (ev_some rfl))
  unfold munimentlaw03_OrderLists.f
  refine ev_bind awake3_ev (ev_pos rfl (ev_ite (fun _ => hno) (fun h1 => ?_)))
  by_cases h2 : (b.length : Int) > 24
  · rw [show decide ((b.length : Int) > 24) = true by simpa using h2]
    exact hno
  · rw [show decide ((b.length : Int) > 24) = false by simpa using h2]
    refine ev_succ ?_
    simp only [munimentlaw03_OrderLists.j0]
    exact ev_neg (by simp) (lists_a a b (by omega) (by omega) wa wb a [] rfl)
end Go.Proofs.YtegcbfgoomopdaaDoor.Pl
