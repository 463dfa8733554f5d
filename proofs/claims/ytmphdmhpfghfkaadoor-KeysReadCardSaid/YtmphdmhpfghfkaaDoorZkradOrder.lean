import Derived.Test.YtmphdmhpfghfkaaDoorZkradValueR
import Derived.Test.YtmphdmhpfghfkaaDoorZkradCmp
import Derived.Test.YtmphdmhpfghfkaaDoorZkradPre
import Derived.Test.YtmphdmhpfghfkaaDoorZkradPKx0
import Derived.Test.YtmphdmhpfghfkaaDoorZkradPKx3
set_option linter.unusedSimpArgs false
set_option linter.unusedVariables false
namespace Go.Proofs.YtmphdmhpfghfkaaDoor.Pl
open Go.RowKit Go.Proofs.YtmphdmhpfghfkaaDoorW.PrintWords Go.Proofs.YtmphdmhpfghfkaaDoorW.PrintMore Go.Proofs.YtmphdmhpfghfkaaDoor.PK
/-- A value's members: each one's name (none in an array) and itself. -/
def mem (v : V) : List (ByteArray × V) := if v.f0 = 6 then v.f3.zip v.f4 else v.f4.map fun x => (ByteArray.empty, x)
theorem fm_succ {n : Nat} {v : V} (h : fm (n + 1) v = true) : shallow v = true ∧ ∀ x ∈ v.f4, fm n x = true := by
  simp only [fm, Bool.and_eq_true, List.all_eq_true] at h
  exact h
theorem shallow_len {v : V} (h : shallow v = true) : v.f4.length ≤ 24 ∧ v.f3.length = if v.f0 = 6 then v.f4.length else 0 := by
  unfold shallow at h
  simp only [Bool.and_eq_true] at h
  obtain ⟨_, h⟩ := h
  split at h
  · simp only [Bool.and_eq_true, decide_eq_true_eq] at h
    rw [if_neg (by omega)]
    omega
  · simp only [Bool.and_eq_true, decide_eq_true_eq] at h
    exact ⟨h.1.1, h.1.2⟩
theorem shallow_kind {v : V} (h : shallow v = true) : 0 ≤ v.f0 ∧ v.f0 ≤ 6 ∧ (v.f0 = 3 ∨ v.f1 = 0) ∧ (v.f0 = 4 ∨ v.f2.toList = []) ∧ (v.f0 < 5 → v.f4 = []) := by
  unfold shallow at h
  simp only [Bool.and_eq_true, Bool.or_eq_true, decide_eq_true_eq] at h
  obtain ⟨⟨⟨⟨⟨h0, h1⟩, h2⟩, h3⟩, _⟩, h4⟩ := h
  refine ⟨h0, h1, h2, h3, fun h5 => ?_⟩
  rw [if_pos h5] at h4
  simp only [Bool.and_eq_true, decide_eq_true_eq] at h4
  exact List.length_eq_zero_iff.1 h4.1
theorem mem_len {v : V} (h : shallow v = true) : (mem v).length = v.f4.length := by
  have := shallow_len h
  unfold mem
  split
  · next h6 => rw [if_pos h6] at this; rw [List.length_zip]; omega
  · simp
theorem mem_get {v : V} (h : shallow v = true) (i : Nat) (hi : i < v.f4.length) : (mem v)[i]? = some (if v.f0 = 6 then rdOf ByteArray.empty v.f3 (i : Int) else ByteArray.empty, rd_T25 v.f4 (i : Int)) := by
  have hl := shallow_len h
  rw [rdV_get _ _ hi]
  unfold mem
  split
  · next h6 =>
    rw [if_pos h6] at hl
    have e : rdOf ByteArray.empty v.f3 (i : Int) = v.f3[i] := by
      unfold rdOf
      rw [Int.toNat_natCast, List.getD_eq_getElem?_getD, List.getElem?_eq_getElem (by omega)]
      rfl
    rw [e, List.getElem?_eq_getElem (by rw [List.length_zip]; omega)]
    simp
  · rw [List.getElem?_map, List.getElem?_eq_getElem hi]
    rfl
theorem mem_fm {n : Nat} {v : V} (h : fm (n + 1) v = true) : ∀ p ∈ mem v, fm n p.2 = true := by
  obtain ⟨hs, ha⟩ := fm_succ h
  intro p hp
  unfold mem at hp
  split at hp
  · exact ha _ (List.of_mem_zip hp).2
  · obtain ⟨x, hx, rfl⟩ := List.mem_map.1 hp
    exact ha _ hx
theorem toList_len (a : ByteArray) : a.toList.length = a.size := by rw [ByteArray.toList_eq, Array.length_toList]; rfl
theorem bt_get (a : ByteArray) (i : Nat) (h : i < a.size) : ∃ u : UInt8, a.toList[i]? = some u ∧ bt a (i : Int) = (u.toNat : Int) := by
  refine ⟨a[i]'h, ?_, ?_⟩
  · rw [ByteArray.toList_eq, Array.getElem?_toList]
    exact Array.getElem?_eq_getElem h
  · unfold bt
    simp only [Int.toNat_natCast]
    rw [dif_pos h]
theorem names_text : ∀ (l : List ByteArray) (p : Option ByteArray), namesFrom p l = true → ∀ s ∈ l, textB s = true
  | [], _, _, s, hs => by simp at hs
  | a :: r, p, h, s, hs => by
    simp only [namesFrom, Bool.and_eq_true] at h
    rcases List.mem_cons.1 hs with rfl | hs
    · exact h.1.1
    · exact names_text r _ h.2 s hs
theorem text_size {s : ByteArray} (h : textB s = true) : s.size ≤ 60 := by
  unfold textB at h
  simp only [Bool.and_eq_true, decide_eq_true_eq] at h
  exact h.1
theorem shallow_text {v : V} (h : shallow v = true) : v.f2.size ≤ 60 := by
  unfold shallow at h
  simp only [Bool.and_eq_true] at h
  exact text_size h.1.2
theorem shallow_names {v : V} (h : shallow v = true) (i : Nat) (hi : i < v.f3.length) : (rdOf ByteArray.empty v.f3 (i : Int)).size ≤ 60 := by
  have e : rdOf ByteArray.empty v.f3 (i : Int) = v.f3[i] := by
    unfold rdOf
    rw [Int.toNat_natCast, List.getD_eq_getElem?_getD, List.getElem?_eq_getElem hi]
    rfl
  rw [e]
  have hl := shallow_len h
  unfold shallow at h
  simp only [Bool.and_eq_true] at h
  obtain ⟨_, h⟩ := h
  split at h
  · simp only [Bool.and_eq_true, decide_eq_true_eq] at h
    omega
  · simp only [Bool.and_eq_true, decide_eq_true_eq] at h
    exact text_size (names_text _ _ h.2 _ (List.getElem_mem hi))
theorem cmpS_self (a : ByteArray) : cmpS a a = 0 := (good_cmpS.zero a a trivial trivial).2 rfl
theorem drop_get {α : Type} {l : List α} {i : Nat} {x : α} (h : l[i]? = some x) : l.drop i = x :: l.drop (i + 1) := by
  have hi := (List.getElem?_eq_some_iff.1 h).1
  rw [List.drop_eq_getElem_cons hi]
  rw [List.getElem?_eq_getElem hi] at h
  rw [Option.some.inj h]
end Go.Proofs.YtmphdmhpfghfkaaDoor.Pl
