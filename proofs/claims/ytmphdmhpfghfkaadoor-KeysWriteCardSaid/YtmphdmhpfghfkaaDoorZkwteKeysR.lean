import Derived.Test.YtmphdmhpfghfkaaDoorZkwteKeysF
import Derived.Test.YtmphdmhpfghfkaaDoorZkwteFewL
import Derived.Test.YtmphdmhpfghfkaaDoorZkwtePKx16
import Derived.Test.YtmphdmhpfghfkaaDoorZkwtePKx6
set_option linter.unusedSimpArgs false
set_option linter.unusedVariables false
namespace Go.Proofs.YtmphdmhpfghfkaaDoor.Pl
open Go.RowKit Go.Proofs.YtmphdmhpfghfkaaDoorW.PrintWords Go.Proofs.YtmphdmhpfghfkaaDoorW.PrintMore Go.Proofs.YtmphdmhpfghfkaaDoor.PK
theorem rplain_a (n : Nat) (ih : ∀ v : V, fm n v = true → FineN n v → Ev (fun k => munimentref04_Plain.f k v.f0 v.f1 v.f2 v.f3 v.f4) (keyV n v)) (v : V) (hv : fm (n + 1) v = true) (hf : FineN (n + 1) v) (h5 : v.f0 = 5) :
    ∀ (j i : Nat) (acc : List Int), i + j = v.f4.length → acc.length + j * (123 + bnd n) + 300 < 140737488355328 →
    Ev (fun k => munimentref04_Plain.l0 k acc (i : Int) v.f0 v.f1 v.f2 v.f3 v.f4) (acc ++ (((mem v).drop i).map (itemB (keyV n) v.f0)).flatten ++ [0]) := by
  have hs := (fm_succ hv).1
  have hl := shallow_len hs
  have hml := mem_len hs
  intro j
  induction j with
  | zero =>
    intro i acc hi ha
    rw [List.drop_eq_nil_of_le (by omega)]
    refine ev_succ ?_
    simp only [munimentref04_Plain.l0]
    exact ev_neg (by omega) (ev_pos (by omega) (ev_some (by simp)))
  | succ j jh =>
    intro i acc hi ha
    have hi' : i < v.f4.length := by omega
    rw [Nat.add_mul] at ha
    rw [drop_get (mem_get hs i hi')]
    have hx : rd_T25 v.f4 (i : Int) = v.f4[i] := rdV_get _ _ hi'
    have hmem : v.f4[i] ∈ v.f4 := List.getElem_mem hi'
    have hfx : fm n v.f4[i] = true := (fm_succ hv).2 _ hmem
    have hfin : FineN n v.f4[i] := hf.2.2.2.2.2.2 _ hmem
    have hk := keyV_len n _ hfx
    have hg := bnd_ge n
    have h6 : ¬ v.f0 = 6 := by omega
    refine ev_succ ?_
    simp only [munimentref04_Plain.l0]
    rw [hx, wrapN (n := i) (by unfold maxLen; omega)]
    refine ev_pos (by omega) (ev_pos (by omega) (ev_bind (ih _ hfx hfin) (ev_pos (by omega) ?_)))
    have := jh (i + 1) (acc ++ keyV n v.f4[i]) (by omega) (by rw [List.length_append]; omega)
    rw [List.map_cons, List.flatten_cons, if_neg h6]
    simpa [itemB, nameB, h6] using this
theorem rplain_o (n : Nat) (ih : ∀ v : V, fm n v = true → FineN n v → Ev (fun k => munimentref04_Plain.f k v.f0 v.f1 v.f2 v.f3 v.f4) (keyV n v)) (v : V) (hv : fm (n + 1) v = true) (hf : FineN (n + 1) v) (h6 : v.f0 = 6) :
    ∀ (j i : Nat) (acc : List Int), i + j = v.f4.length → acc.length + j * (123 + bnd n) + 300 < 140737488355328 →
    Ev (fun k => munimentref04_Plain.l1 k acc (i : Int) v.f0 v.f1 v.f2 v.f3 v.f4) (acc ++ (((mem v).drop i).map (itemB (keyV n) v.f0)).flatten ++ [0]) := by
  have hs := (fm_succ hv).1
  have hl := shallow_len hs
  have hml := mem_len hs
  rw [if_pos h6] at hl
  intro j
  induction j with
  | zero =>
    intro i acc hi ha
    rw [List.drop_eq_nil_of_le (by omega)]
    refine ev_succ ?_
    simp only [munimentref04_Plain.l1]
    exact ev_neg (by omega) (ev_pos (by omega) (ev_some (by simp)))
  | succ j jh =>
    intro i acc hi ha
    have hi' : i < v.f4.length := by omega
    rw [Nat.add_mul] at ha
    rw [drop_get (mem_get hs i hi')]
    have hx : rd_T25 v.f4 (i : Int) = v.f4[i] := rdV_get _ _ hi'
    have hmem : v.f4[i] ∈ v.f4 := List.getElem_mem hi'
    have hfx : fm n v.f4[i] = true := (fm_succ hv).2 _ hmem
    have hfin : FineN n v.f4[i] := hf.2.2.2.2.2.2 _ hmem
    have hk := keyV_len n _ hfx
    have hg := bnd_ge n
    have hsz := shallow_names hs i (by omega)
    have hnl := tb_esc hsz
    refine ev_succ ?_
    simp only [munimentref04_Plain.l1]
    rw [hx, wrapN (n := i) (by unfold maxLen; omega)]
    refine ev_pos (by omega) (ev_pos (by omega) (ev_let (ev_pos (by omega) (ev_pos (by omega) (ev_bind (rktext_ev _ hsz) (ev_pos (by simp; omega) (ev_let (ev_bind (ih _ hfx hfin) (ev_pos (by simp; omega) ?_)))))))))
    have := jh (i + 1) (acc ++ [1] ++ (esc (tb (rdOf ByteArray.empty v.f3 (i : Int))) ++ [0, 0]) ++ keyV n v.f4[i]) (by omega) (by simp; omega)
    rw [List.map_cons, List.flatten_cons, if_pos h6]
    simpa [itemB, nameB, h6] using this
theorem rplain_ev : ∀ (n : Nat) (v : V), n ≤ 6 → fm n v = true → FineN n v → Ev (fun k => munimentref04_Plain.f k v.f0 v.f1 v.f2 v.f3 v.f4) (keyV n v)
  | 0, v, _, h, _ => by simp [fm] at h
  | n + 1, v, h6n, h, hf => by
    have hs := (fm_succ h).1
    have hk := shallow_kind hs
    have hx := bounds_i64 hf.2.1
    have h24 := (shallow_len hs).1
    have hg := bnd_ge n
    have hb : v.f4.length * (123 + bnd n) ≤ 24 * (123 + bnd n) := Nat.mul_le_mul_right (123 + bnd n) h24
    have hn : bnd n ≤ 39062500000 := by
      unfold bnd
      have := Nat.pow_le_pow_right (n := 25) (by omega) (show n ≤ 5 by omega)
      omega
    refine ev_succ ?_
    simp only [munimentref04_Plain.f]
    rw [kind_byte hk.1 hk.2.1]
    refine ev_let ?_
    unfold keyV
    by_cases h3 : v.f0 = 3
    · rw [if_pos h3, (top_int v.f1 (by omega) (by omega)).2]
      refine ev_pos h3 (ev_bind (big_ev _ (by omega) (by omega)) (ev_pos (by simp [b8_length]) (ev_some (by simp))))
    · rw [if_neg h3]
      refine ev_neg h3 ?_
      by_cases h4 : v.f0 = 4
      · rw [if_pos h4]
        have := tb_esc (shallow_text hs)
        exact ev_pos h4 (ev_bind (rktext_ev _ (shallow_text hs)) (ev_pos (by simp; omega) (ev_some (by simp))))
      · rw [if_neg h4]
        refine ev_neg h4 (ev_ite (fun h5 => ?_) (fun h5 => ev_ite (fun h6 => ?_) (fun h6 => ?_)))
        · rw [if_neg (by omega)]
          have := rplain_a n (fun x => rplain_ev n x (by omega)) v h hf h5 v.f4.length 0 [v.f0 + 1] (by omega) (by simp; omega)
          simpa using this
        · rw [if_neg (by omega)]
          have := rplain_o n (fun x => rplain_ev n x (by omega)) v h hf h6 v.f4.length 0 [v.f0 + 1] (by omega) (by simp; omega)
          simpa using this
        · rw [if_pos (by omega)]
          exact ev_some rfl
theorem RKey_ev {n : Nat} {v : V} (hv : FineN n v) : Ev (fun k => munimentref04_Key.f k v.f0 v.f1 v.f2 v.f3 v.f4) (if fm 6 v = true then (keyV 6 v, 0) else ([], 2)) := by
  unfold munimentref04_Key.f
  refine ev_bind (rFormed_ev hv) (ev_ite (fun h => ?_) (fun h => ev_some (by rw [if_neg h])))
  rw [if_pos h]
  exact ev_bind (rplain_ev 6 v (by omega) h (fine_fm hv h)) (ev_some rfl)
theorem awake4_ev : Ev (fun k => munimentlaw04_awake.f k) true := by
  unfold munimentlaw04_awake.f
  have hf : FineN 1 ⟨4, 0, ⟨#[97]⟩, [], []⟩ := ⟨show (Lit.int .i64 4).wf = true by decide, show (Lit.int .i64 0).wf = true by decide, by show (1 : Nat) ≤ maxLen; unfold maxLen; omega, Nat.zero_le _, fun _ h => by simp at h, Nat.zero_le _, fun _ h => by simp at h⟩
  have hfm : fm 6 ⟨4, 0, ⟨#[97]⟩, [], []⟩ = true := rfl
  have hk := Key_ev hf
  rw [if_pos hfm] at hk
  refine ev_bind hk (ev_pos rfl ?_)
  have e : keyV 6 ⟨4, 0, ⟨#[97]⟩, [], []⟩ = [5, 97, 0, 0] := by
    have : (⟨#[97]⟩ : ByteArray).toList = [97] := by rw [ByteArray.toList_eq]
    simp [keyV, tb, this, esc]
  rw [e]
  exact ev_pos rfl (ev_pos (by simp) (ev_some rfl))
end Go.Proofs.YtmphdmhpfghfkaaDoor.Pl
