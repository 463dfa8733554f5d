import Derived.Test.YtmphdmhpfghfkaaDoorZkradOrder
import Derived.Test.YtmphdmhpfghfkaaDoorZkradBig
import Derived.Test.YtmphdmhpfghfkaaDoorZkradPKx13
import Derived.Test.YtmphdmhpfghfkaaDoorZkradPre
import Derived.Test.YtmphdmhpfghfkaaDoorZkradPKx0
import Derived.Test.YtmphdmhpfghfkaaDoorZkradPKx6
set_option linter.unusedSimpArgs false
set_option linter.unusedVariables false
namespace Go.Proofs.YtmphdmhpfghfkaaDoor.Pl
open Go.RowKit Go.Proofs.YtmphdmhpfghfkaaDoorW.PrintWords Go.Proofs.YtmphdmhpfghfkaaDoorW.PrintMore Go.Proofs.YtmphdmhpfghfkaaDoor.PK
/-- A text's bytes. -/
def tb (s : ByteArray) : List Int := s.toList.map fun u => (u.toNat : Int)
theorem tb_len (s : ByteArray) : (tb s).length = s.size := by rw [tb, List.length_map, toList_len]
theorem tb_get (s : ByteArray) (i : Nat) (h : i < s.size) : (tb s)[i]? = some (Go.Proofs.YtmphdmhpfghfkaaDoorW.PrintWords.bt s (i : Int)) := by
  obtain ⟨u, hu, hb⟩ := bt_get s i h
  rw [tb, List.getElem?_map, hu, hb]
  rfl
theorem ktext_loop (s : ByteArray) (hs : s.size ≤ 60) : ∀ (j i : Nat) (acc : List Int), i + j = s.size → acc.length + 2 * j + 2 < 140737488355328 →
    Ev (fun k => keys_text.l0 k acc s (s.size : Int) (i : Int)) (acc ++ esc ((tb s).drop i) ++ [0, 0])
  | 0, i, acc, hi, ha => by
    refine ev_succ ?_
    simp only [keys_text.l0]
    rw [List.drop_eq_nil_of_le (by rw [tb_len]; omega)]
    refine ev_neg (by omega) (ev_let (ev_pos (by simp; omega) (ev_some (by simp [esc]))))
  | j + 1, i, acc, hi, ha => by
    have hg := tb_get s i (by omega)
    rw [drop_get hg]
    refine ev_succ ?_
    simp only [keys_text.l0]
    rw [wrapN (n := i) (by unfold maxLen; omega)]
    refine ev_pos (by omega) (ev_pos (by omega) (ev_pos (by omega) (ev_pos (by omega) (ev_let ?_))))
    generalize Go.Proofs.YtmphdmhpfghfkaaDoorW.PrintWords.bt s (i : Int) = c
    by_cases e : c = 0
    · subst e
      refine ev_pos rfl (ev_pos (by simp; omega) ?_)
      have ih := ktext_loop s hs j (i + 1) (acc ++ [0] ++ [255]) (by omega) (by simp; omega)
      simpa [esc] using ih
    · refine ev_neg e ?_
      have ih := ktext_loop s hs j (i + 1) (acc ++ [c]) (by omega) (by simp; omega)
      simpa [esc, e] using ih
theorem ktext_ev (s : ByteArray) (b : List Int) (hs : s.size ≤ 60) (hb : b.length + 200 < 140737488355328) : Ev (fun k => keys_text.f k b s) (b ++ esc (tb s) ++ [0, 0]) := by
  have := ktext_loop s hs s.size 0 b (by omega) (by omega)
  exact this
theorem kapp64_loop (x : Int) : ∀ (j : Nat) (acc : List Int), j ≤ 8 → acc.length + j < 140737488355328 → Ev (fun k => keys_append64.l0 k acc x (8 * (j : Int) - 8)) (acc ++ bt x j)
  | 0, acc, _, _ => by
    refine ev_succ ?_
    simp only [keys_append64.l0]
    exact ev_neg (by omega) (ev_some (by simp [bt]))
  | j + 1, acc, hj, hl => by
    have ih := kapp64_loop x j (acc ++ [x / 256 ^ j % 256]) (by omega) (by simp; omega)
    refine ev_succ ?_
    simp only [keys_append64.l0]
    have e1 : 8 * ((j + 1 : Nat) : Int) - 8 = 8 * (j : Int) := by omega
    have e2 : IntKind.u64.wrap (8 * (j : Int)) = 8 * (j : Int) := wrapU64_id (by omega) (by omega)
    have e3 : wrap64 (8 * (j : Int) - 8) = 8 * (j : Int) - 8 := wrap64_id (by omega) (by omega)
    rw [e1, e2, e3, shr_bytes x j (by omega)]
    refine ev_pos (by omega) (ev_pos (by omega) (ev_pos (by omega) ?_))
    simpa [bt] using ih
theorem kapp64_ev (b : List Int) (x : Int) (h : b.length + 8 < 140737488355328) : Ev (fun k => keys_append64.f k b x) (b ++ b8 x) := by
  have := kapp64_loop x 8 b (by omega) h
  rw [bt_8] at this
  exact this
/-- A name's bytes ahead of a member's. -/
def nameB (k : Int) (s : ByteArray) : List Int := if k = 6 then 1 :: (esc (tb s) ++ [0, 0]) else []
def itemB (f : V → List Int) (k : Int) (p : ByteArray × V) : List Int := nameB k p.1 ++ f p.2
def keyV : Nat → V → List Int
  | 0, _ => []
  | n + 1, v => (v.f0 + 1) :: (if v.f0 = 3 then b8 (v.f1 + 9223372036854775808) else if v.f0 = 4 then esc (tb v.f2) ++ [0, 0] else if v.f0 < 5 then [] else ((mem v).map (itemB (keyV n) v.f0)).flatten ++ [0])
/-- A bound on its length. -/
def bnd (n : Nat) : Nat := 4000 * 25 ^ n
theorem bnd_succ (n : Nat) : bnd (n + 1) = 25 * bnd n := by unfold bnd; rw [Nat.pow_succ]; omega
theorem bnd_ge (n : Nat) : 4000 ≤ bnd n := by unfold bnd; have := Nat.one_le_pow n 25 (by omega); omega
theorem tb_esc {s : ByteArray} (h : s.size ≤ 60) : (esc (tb s)).length ≤ 120 := by
  have := (esc_length (tb s)).2
  rw [tb_len] at this
  omega
theorem nameB_len {k : Int} {s : ByteArray} (h : s.size ≤ 60) : (nameB k s).length ≤ 123 := by
  unfold nameB
  split
  · have := tb_esc h
    simp
    omega
  · simp
theorem flat_len {α : Type} (f : α → List Int) (b : Nat) : ∀ l : List α, (∀ x ∈ l, (f x).length ≤ b) → (l.map f).flatten.length ≤ l.length * b
  | [], _ => by simp
  | x :: l, h => by
    have h1 := h x (by simp)
    have h2 := flat_len f b l (fun y hy => h y (by simp [hy]))
    simp only [List.map_cons, List.flatten_cons, List.length_append, List.length_cons]
    rw [Nat.add_mul]
    omega
theorem mem_text {v : V} (h : shallow v = true) : ∀ p ∈ mem v, p.1.size ≤ 60 := by
  intro p hp
  obtain ⟨i, hi, rfl⟩ := List.mem_iff_getElem.1 hp
  have hl := mem_len h
  have hg := mem_get h i (by omega)
  rw [List.getElem?_eq_getElem hi] at hg
  have hg := Option.some.inj hg
  rw [hg]
  show (if v.f0 = 6 then rdOf ByteArray.empty v.f3 (i : Int) else ByteArray.empty).size ≤ 60
  have hs := shallow_len h
  split
  · next h6 =>
    rw [if_pos h6] at hs
    exact shallow_names h i (by omega)
  · exact Nat.zero_le _
theorem keyV_len : ∀ (n : Nat) (v : V), fm n v = true → (keyV n v).length ≤ bnd n
  | 0, v, h => by simp [fm] at h
  | n + 1, v, h => by
    have hs := (fm_succ h).1
    have hm := mem_fm h
    have ih := keyV_len n
    have hg := bnd_ge n
    rw [bnd_succ]
    unfold keyV
    rw [List.length_cons]
    split
    · rw [b8_length]; omega
    · split
      · have := tb_esc (shallow_text hs)
        simp
        omega
      · split
        · simp
          omega
        · have := flat_len (itemB (keyV n) v.f0) (123 + bnd n) (mem v) (fun p hp => by
            have := nameB_len (k := v.f0) (mem_text hs p hp)
            have := ih p.2 (hm p hp)
            unfold itemB
            rw [List.length_append]
            omega)
          have h24 := (shallow_len hs).1
          rw [← mem_len hs] at h24
          have := Nat.mul_le_mul_right (123 + bnd n) h24
          rw [List.length_append, List.length_singleton]
          omega
theorem kind_byte {k : Int} (h0 : 0 ≤ k) (h1 : k ≤ 6) : wrap64 (k + 1) % 256 = k + 1 := by
  rw [wrap64_id (by omega) (by omega)]
  omega
theorem fine_fm : ∀ {n m : Nat} {v : V}, FineN m v → fm n v = true → FineN n v
  | 0, _, _, _, h => by simp [fm] at h
  | n + 1, 0, _, h, _ => h.elim
  | n + 1, m + 1, v, ⟨h0, h1, h2, h3, h4, h5, h6⟩, h => ⟨h0, h1, h2, h3, h4, h5, fun x hx => fine_fm (h6 x hx) ((fm_succ h).2 x hx)⟩
theorem put_items (n : Nat) (ih : ∀ (v : V) (b : List Int), fm n v = true → (Lit.int .i64 v.f1).wf = true → FineN n v → b.length + bnd n < 140737488355328 → Ev (fun k => keys_put.f k b v.f0 v.f1 v.f2 v.f3 v.f4) (b ++ keyV n v))
    (v : V) (hv : fm (n + 1) v = true) (hf : FineN (n + 1) v) (h5 : ¬ v.f0 < 5) : ∀ (j i : Nat) (acc : List Int), i + j = v.f4.length → acc.length + j * (123 + bnd n) + 300 < 140737488355328 →
    Ev (fun k => keys_put.l0 k acc v.f4 (v.f4.length : Int) (i : Int) v.f0 v.f1 v.f2 v.f3 v.f4) (acc ++ (((mem v).drop i).map (itemB (keyV n) v.f0)).flatten ++ [0]) := by
  have hs := (fm_succ hv).1
  have hl := shallow_len hs
  have hml := mem_len hs
  intro j
  induction j with
  | zero =>
    intro i acc hi ha
    rw [List.drop_eq_nil_of_le (by omega)]
    refine ev_succ ?_
    simp only [keys_put.l0]
    exact ev_neg (by omega) (ev_pos (by omega) (ev_some (by simp)))
  | succ j jh =>
    intro i acc hi ha
    have hi' : i < v.f4.length := by omega
    rw [Nat.add_mul] at ha
    rw [drop_get (mem_get hs i hi')]
    have hx : rd_T25 v.f4 (i : Int) = v.f4[i] := rdV_get _ _ hi'
    have hmem : v.f4[i] ∈ v.f4 := List.getElem_mem hi'
    have hfx : fm n v.f4[i] = true := (fm_succ hv).2 _ hmem
    have hfin : FineN n v.f4[i] := hf.2.2.2.2.2.2 _ hmem
    have hk := keyV_len n _ hfx
    have hg := bnd_ge n
    have hw : (Lit.int .i64 v.f4[i].f1).wf = true := by
      cases n with
      | zero => exact hfin.elim
      | succ n => exact hfin.2.1
    refine ev_succ ?_
    simp only [keys_put.l0]
    rw [hx, wrapN (n := i) (by unfold maxLen; omega)]
    refine ev_pos (by omega) (ev_pos (by omega) (ev_pos (by omega) ?_))
    rw [List.map_cons, List.flatten_cons]
    by_cases h6 : v.f0 = 6
    · rw [if_pos h6] at hl
      have hsz := shallow_names hs i (by omega)
      have hnl := nameB_len (k := 6) hsz
      rw [if_pos h6]
      refine ev_pos h6 (ev_pos (by omega) (ev_pos (by omega) (ev_bind (ktext_ev _ _ hsz (by simp; omega)) ?_)))
      have hL : (acc ++ [1] ++ esc (tb (rdOf ByteArray.empty v.f3 (i : Int))) ++ [0, 0]).length = acc.length + (nameB 6 (rdOf ByteArray.empty v.f3 (i : Int))).length := by
        unfold nameB
        rw [if_pos rfl]
        simp
      refine ev_bind (ih _ _ hfx hw hfin (by omega)) ?_
      have := jh (i + 1) (acc ++ [1] ++ esc (tb (rdOf ByteArray.empty v.f3 (i : Int))) ++ [0, 0] ++ keyV n v.f4[i]) (by omega) (by rw [List.length_append]; omega)
      simpa [itemB, nameB, h6] using this
    · rw [if_neg h6]
      refine ev_neg h6 (ev_bind (ih _ _ hfx hw hfin (by omega)) ?_)
      have := jh (i + 1) (acc ++ keyV n v.f4[i]) (by omega) (by rw [List.length_append]; omega)
      simpa [itemB, nameB, h6] using this
theorem put_ev : ∀ (n : Nat) (v : V) (b : List Int), fm n v = true → (Lit.int .i64 v.f1).wf = true → FineN n v → b.length + bnd n < 140737488355328 → Ev (fun k => keys_put.f k b v.f0 v.f1 v.f2 v.f3 v.f4) (b ++ keyV n v)
  | 0, v, b, h, _, _, _ => by simp [fm] at h
  | n + 1, v, b, h, hw, hf, hb => by
    have hs := (fm_succ h).1
    have hk := shallow_kind hs
    have hx := bounds_i64 hw
    have hg := bnd_ge n
    rw [bnd_succ] at hb
    refine ev_succ ?_
    simp only [keys_put.f]
    rw [kind_byte hk.1 hk.2.1]
    refine ev_pos (by omega) (ev_let ?_)
    unfold keyV
    by_cases h3 : v.f0 = 3
    · rw [if_pos h3, (top_int v.f1 (by omega) (by omega)).1]
      refine ev_pos h3 (ev_bind (kapp64_ev _ _ (by simp; omega)) (ev_some (by simp)))
    · rw [if_neg h3]
      refine ev_neg h3 ?_
      by_cases h4 : v.f0 = 4
      · rw [if_pos h4]
        exact ev_pos h4 (ev_bind (ktext_ev _ _ (shallow_text hs) (by simp; omega)) (ev_some (by simp)))
      · rw [if_neg h4]
        refine ev_neg h4 ?_
        have leaf : v.f0 < 5 → ∀ q, q = false → Ev (fun k => keys_put.j0 k (b ++ [v.f0 + 1]) q v.f0 v.f1 v.f2 v.f3 v.f4) (b ++ (v.f0 + 1) :: (if v.f0 < 5 then [] else ((mem v).map (itemB (keyV n) v.f0)).flatten ++ [0])) := by
          rintro h5 q rfl
          refine ev_succ ?_
          simp only [keys_put.j0]
          exact ev_neg (by simp) (ev_some (by rw [if_pos h5]))
        have node : ¬ v.f0 < 5 → ∀ q, q = true → Ev (fun k => keys_put.j0 k (b ++ [v.f0 + 1]) q v.f0 v.f1 v.f2 v.f3 v.f4) (b ++ (v.f0 + 1) :: (if v.f0 < 5 then [] else ((mem v).map (itemB (keyV n) v.f0)).flatten ++ [0])) := by
          rintro h5 q rfl
          refine ev_succ ?_
          simp only [keys_put.j0]
          refine ev_pos trivial ?_
          rw [if_neg h5]
          have h24 := (shallow_len hs).1
          have := Nat.mul_le_mul_right (123 + bnd n) h24
          have := put_items n (put_ev n) v h hf h5 v.f4.length 0 (b ++ [v.f0 + 1]) (by omega) (by simp; omega)
          simpa using this
        by_cases h5 : v.f0 < 5
        · by_cases h5' : v.f0 = 5
          · omega
          · exact ev_neg h5' (leaf h5 _ (by simp; omega))
        · refine ev_ite (fun h5' => node h5 _ (by simp [h5'])) (fun h5' => node h5 _ (by simp; omega))
theorem Key_ev {n : Nat} {v : V} (hv : FineN n v) : Ev (fun k => keys_Key.f k v.f0 v.f1 v.f2 v.f3 v.f4) (if fm 6 v = true then (keyV 6 v, 0) else ([], 2)) := by
  unfold keys_Key.f
  refine ev_bind (Formed_ev hv) (ev_ite (fun h => ?_) (fun h => ev_some (by rw [if_neg h])))
  rw [if_pos h]
  have hw : (Lit.int .i64 v.f1).wf = true := by
    cases n with
    | zero => exact hv.elim
    | succ n => exact hv.2.1
  have := put_ev 6 v [] h hw (fine_fm hv h) (by unfold bnd; simp)
  exact ev_bind this (ev_some (by simp))
end Go.Proofs.YtmphdmhpfghfkaaDoor.Pl
