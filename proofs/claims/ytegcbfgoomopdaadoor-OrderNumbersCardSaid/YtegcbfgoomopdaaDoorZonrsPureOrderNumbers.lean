import Derived.Test.YtegcbfgoomopdaaDoorZonrsOrderR
import Derived.Test.YtegcbfgoomopdaaDoorZonrsPOx27
set_option linter.unusedSimpArgs false
set_option linter.unusedVariables false
namespace Go.Proofs.YtegcbfgoomopdaaDoor.Pl
open Go.RowKit Go.Proofs.YtegcbfgoomopdaaDoorW.PrintWords Go.Proofs.YtegcbfgoomopdaaDoorW.PrintMore Go.Proofs.YtegcbfgoomopdaaDoor.PO
theorem valid_small : ∀ l : List Int, (∀ x ∈ l, 0 ≤ x ∧ x < 128) → Lib.validD (l.map fun n => UInt8.ofNat n.toNat) = true
  | [], _ => rfl
  | x :: l, h => by
    have hx := h x (by simp)
    rw [List.map_cons, Lib.validD_cons _ _ (by rw [UInt8.toNat_ofNat']; omega)]
    exact valid_small l (fun y hy => h y (by simp [hy]))
theorem text_small (l : List Int) (hl : l.length ≤ 60) (h : ∀ x ∈ l, 0 ≤ x ∧ x < 128) : textB (strOfNums l) = true := by
  unfold textB
  have e : (strOfNums l).data.toList = l.map fun n => UInt8.ofNat n.toNat := by simp [strOfNums]
  have e2 : (strOfNums l).size = l.length := by
    show (strOfNums l).data.size = _
    rw [← Array.length_toList, e, List.length_map]
  rw [e, valid_small l h, e2]
  simp [hl]
theorem one_small (x : Int) (h0 : 0 ≤ x) : ∀ y ∈ munimentlaw03_letters.one x, 0 ≤ y ∧ y < 128 := by
  intro y hy
  unfold munimentlaw03_letters.one at hy
  have e : Int.tmod x 5 = x % 5 := Int.tmod_eq_emod_of_nonneg h0
  rw [e] at hy
  split at hy
  · simp only [List.mem_singleton] at hy
    subst hy
    omega
  · simp at hy
theorem pre_text (a b c : Int) (ha : 0 ≤ a) (hb : 0 ≤ b) (hc : 0 ≤ c) : textB (strOfNums (munimentlaw03_letters.pre a b c 3)) = true := by
  refine text_small _ ?_ ?_
  · have := munimentlaw03_letters.short a b c 3 (by omega)
    omega
  · intro y hy
    simp only [munimentlaw03_letters.pre, List.nil_append, List.mem_append] at hy
    rcases hy with (hy | hy) | hy
    · exact one_small a ha y hy
    · exact one_small b hb y hy
    · exact one_small c hc y hy
def txt (p : ByteArray) : V := ⟨4, 0, p, [], []⟩
def numb (i x : Int) : V := ⟨i, x, ⟨#[]⟩, [], []⟩
theorem fm_txt {p : ByteArray} (h : textB p = true) : fm 6 (txt p) = true := by
  simp [fm, shallow, txt, h]
theorem fine_txt {p : ByteArray} (h : textB p = true) : FineN 1 (txt p) := by
  have := text_size h
  exact ⟨show (Lit.int .i64 4).wf = true by decide, show (Lit.int .i64 0).wf = true by decide, by show p.size ≤ maxLen; unfold maxLen; omega, Nat.zero_le _, fun _ h => by simp [txt] at h, Nat.zero_le _, fun _ h => by simp [txt] at h⟩
theorem or2_nil (c : Int) : or2 0 c = c := by simp [or2]
theorem cmp_num (x y : Int) : cmpV 6 (numb 3 x) (numb 3 y) = cmpI x y := by
  have hm : ∀ z, mem (numb 3 z) = [] := fun z => mem_nil rfl
  have z1 : cmpI 3 3 = 0 := by decide
  show or2 (cmpI 3 3) (or2 (cmpI x y) (or2 (cmpS ⟨#[]⟩ ⟨#[]⟩) (lexL (cmpP (cmpV 5)) (mem (numb 3 x)) (mem (numb 3 y))))) = _
  rw [hm, hm, z1, cmpS_self, or2_nil, or2_nil]
  exact or2_zero _
theorem cmp_txt (p q : ByteArray) : cmpV 6 (txt p) (txt q) = cmpS p q := by
  have hm : ∀ z, mem (txt z) = [] := fun z => mem_nil rfl
  have z1 : cmpI 4 4 = 0 := by decide
  have z2 : cmpI 0 0 = 0 := by decide
  show or2 (cmpI 4 4) (or2 (cmpI 0 0) (or2 (cmpS p q) (lexL (cmpP (cmpV 5)) (mem (txt p)) (mem (txt q))))) = _
  rw [hm, hm, z1, z2, or2_nil, or2_nil]
  exact or2_zero _
theorem cmp_kind {n : Nat} {v w : V} (h : v.f0 < w.f0) : cmpV (n + 1) v w = -1 := by
  unfold cmpV or2 cmpI
  rw [if_pos h]
  rfl
theorem less_kind {v w : V} (hv : fm 6 v = true) (hw : fm 6 w = true) (h : v.f0 < w.f0) : cmpF v w = -1 := by
  unfold cmpF
  rw [if_pos ⟨hv, hw⟩]
  exact cmp_kind h
theorem orderNumbers_ev (a b : Int) (x0 x1 x2 y0 y1 y2 : Int) (ha : (Lit.int .i64 a).wf = true) (hb : (Lit.int .i64 b).wf = true) (hx0 : 0 ≤ x0) (hx1 : 0 ≤ x1) (hx2 : 0 ≤ x2) (hy0 : 0 ≤ y0) (hy1 : 0 ≤ y1) (hy2 : 0 ≤ y2) :
    Ev (fun k => munimentlaw03_OrderNumbers.f k a b x0 x1 x2 y0 y1 y2) true := by
  have tp := pre_text x0 x1 x2 hx0 hx1 hx2
  have tq := pre_text y0 y1 y2 hy0 hy1 hy2
  obtain ⟨p, hp⟩ : ∃ p, p = strOfNums (munimentlaw03_letters.pre x0 x1 x2 3) := ⟨_, rfl⟩
  obtain ⟨q, hq⟩ : ∃ q, q = strOfNums (munimentlaw03_letters.pre y0 y1 y2 3) := ⟨_, rfl⟩
  rw [← hp] at tp
  rw [← hq] at tq
  have fa := fm_leaf 3 a (by omega) (by omega) (by omega) 5
  have fb := fm_leaf 3 b (by omega) (by omega) (by omega) 5
  have na := fine_leaf 3 a (by decide) ha
  have nb := fine_leaf 3 b (by decide) hb
  have fp := fm_txt tp
  have fq := fm_txt tq
  have np := fine_txt tp
  have nq := fine_txt tq
  have c1 := Compare_ev na nb
  have c2 := Compare_ev np nq
  have c3 := Compare_ev na np
  have f0 := fm_leaf 0 0 (by omega) (by omega) (by omega) 5
  have f1 := fm_leaf 1 0 (by omega) (by omega) (by omega) 5
  have f2 := fm_leaf 2 0 (by omega) (by omega) (by omega) 5
  have c4 := Compare_ev (fine_leaf 0 0 (by decide) (by decide)) na
  have c5 := Compare_ev (fine_leaf 1 0 (by decide) (by decide)) na
  have c6 := Compare_ev (fine_leaf 2 0 (by decide) (by decide)) np
  rw [less_kind fa fp (show (3 : Int) < 4 by omega)] at c3
  rw [less_kind f0 fa (show (0 : Int) < 3 by omega)] at c4
  rw [less_kind f1 fa (show (1 : Int) < 3 by omega)] at c5
  rw [less_kind f2 fp (show (2 : Int) < 4 by omega)] at c6
  unfold cmpF at c1 c2
  rw [if_pos ⟨fa, fb⟩] at c1
  rw [if_pos ⟨fp, fq⟩, cmp_txt] at c2
  have e1 : cmpV 6 ⟨3, a, ⟨#[]⟩, [], []⟩ ⟨3, b, ⟨#[]⟩, [], []⟩ = cmpI a b := cmp_num a b
  rw [e1] at c1
  unfold munimentlaw03_OrderNumbers.f
  refine ev_bind awake3_ev (ev_pos rfl (ev_bind0 (b := p) (by rw [hp]; rfl) (ev_bind0 (b := q) (by rw [hq]; rfl) (ev_bind c1 (ev_neg ?_ (ev_bind c2 (ev_neg ?_ (ev_bind c3 (ev_succ ?_)))))))))
  · have : (cmpI a b < 0) ↔ a < b := by unfold cmpI; split <;> (try split) <;> omega
    simp [this]
  · have : (cmpS p q < 0) ↔ Op.bytesLess p.toList q.toList = true := (cmpS_lt p q).symm
    by_cases h : Op.bytesLess p.toList q.toList = true
    · simp [this, h]
    · simp only [this, h]
      simp
  · simp only [munimentlaw03_OrderNumbers.j0]
    exact ev_neg (by simp) (ev_bind c4 (ev_pos rfl (ev_bind c5 (ev_pos rfl (ev_bind c6 (ev_some rfl))))))
end Go.Proofs.YtegcbfgoomopdaaDoor.Pl
