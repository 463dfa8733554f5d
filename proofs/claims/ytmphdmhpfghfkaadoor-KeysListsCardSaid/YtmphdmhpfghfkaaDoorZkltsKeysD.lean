import Derived.Test.YtmphdmhpfghfkaaDoorZkltsKeysO
import Derived.Test.YtmphdmhpfghfkaaDoorZkltsPKx29
set_option linter.unusedSimpArgs false
set_option linter.unusedVariables false
namespace Go.Proofs.YtmphdmhpfghfkaaDoor.Pl
open Go.RowKit Go.Proofs.YtmphdmhpfghfkaaDoorW.PrintWords Go.Proofs.YtmphdmhpfghfkaaDoorW.PrintMore Go.Proofs.YtmphdmhpfghfkaaDoor.PK
theorem drop_step {s : List Int} {p : Nat} {c : Int} {r : List Int} (h : s.drop p = c :: r) : s.drop (p + 1) = r := by
  have := congrArg List.tail h
  rw [List.tail_drop] at this
  exact this
theorem drop_more {s : List Int} {p : Nat} {a r : List Int} (h : s.drop p = a ++ r) : s.drop (p + a.length) = r := by
  rw [← List.drop_drop, h, List.drop_left]
theorem drop_lt {s : List Int} {p : Nat} {c : Int} {r : List Int} (h : s.drop p = c :: r) : p < s.length := by
  have := congrArg List.length h
  rw [List.length_drop, List.length_cons] at this
  omega
/-- A list not too long to be read. -/
def Fit (s : List Int) : Prop := s.length < 4611686018427387904
theorem next_ev {s : List Int} {p : Nat} {c : Int} {r : List Int} {b : Bool} (h : s.drop p = c :: r) (hl : Fit s) : keys_reader_next.f s (p : Int) b = some (c, ((p + 1 : Nat) : Int), b) := by
  have hp := drop_lt h
  unfold Fit at hl
  have e1 : wrap64 ((p : Int) + 1) = (p : Int) + 1 := wrap64_id (by omega) (by omega)
  have e2 : wrap64 ((p : Int) + 1 - 1) = (p : Int) := by rw [wrap64_id (by omega) (by omega)]; omega
  have hg : rd s (p : Int) = c := by
    have := List.getElem?_drop (xs := s) (i := p) (j := 0)
    rw [h] at this
    rw [rd_nat, List.getD_eq_getElem?_getD]
    simp at this
    rw [← this]
    rfl
  unfold keys_reader_next.f
  rw [if_neg (by omega), e1, e2, if_pos (by omega), if_pos (by omega), hg]
  rfl
theorem dtext_loop {s : List Int} (hl : Fit s) : ∀ (t : List Int) (p : Nat) (acc post : List Int), s.drop p = esc t ++ 0 :: 0 :: post → acc.length + t.length ≤ 60 →
    Ev (fun k => keys_reader_text.l0 k acc s (p : Int) false) (strOfNums (acc ++ t), ((p + (esc t).length + 2 : Nat) : Int), false)
  | [], p, acc, post, hd, hn => by
    have h1 := drop_step hd
    refine ev_succ ?_
    simp only [keys_reader_text.l0]
    refine ev_neg (by simp) (ev_bind0 (next_ev hd hl) (ev_pos rfl (ev_bind0 (next_ev h1 hl) (ev_pos rfl (ev_some ?_)))))
    simp [esc]
    omega
  | c :: t, p, acc, post, hd, hn => by
    rw [List.length_cons] at hn
    by_cases e : c = 0
    · subst e
      have ee : esc (0 :: t) = 0 :: 255 :: esc t := by simp [esc]
      rw [ee] at hd ⊢
      have h1 := drop_step hd
      have h2 := drop_step h1
      have ih := dtext_loop hl t (p + 1 + 1) (acc ++ [0]) post h2 (by simp; omega)
      have q : decide (((acc ++ [(0 : Int)]).length : Int) > 60) = false := by simp; omega
      refine ev_succ ?_
      simp only [keys_reader_text.l0]
      refine ev_neg (by simp) (ev_bind0 (next_ev hd hl) (ev_pos rfl (ev_bind0 (next_ev h1 hl) (ev_neg (by simp) (ev_pos rfl (ev_pos (by omega) (ev_let (ev_neg (by simp) ?_))))))))
      show Ev (fun k => keys_reader_text.l0 k (acc ++ [0]) s ((p + 1 + 1 : Nat) : Int) (decide (((acc ++ [(0 : Int)]).length : Int) > 60))) _
      rw [q]
      have e2 : p + (0 :: 255 :: esc t).length + 2 = p + 1 + 1 + (esc t).length + 2 := by simp; omega
      rw [e2]
      simpa using ih
    · have ee : esc (c :: t) = c :: esc t := by simp [esc, e]
      rw [ee] at hd ⊢
      have h1 := drop_step hd
      have ih := dtext_loop hl t (p + 1) (acc ++ [c]) post h1 (by simp; omega)
      have q : decide (((acc ++ [c]).length : Int) > 60) = false := by simp; omega
      refine ev_succ ?_
      simp only [keys_reader_text.l0]
      refine ev_neg (by simp) (ev_bind0 (next_ev hd hl) (ev_neg e (ev_pos (by omega) (ev_let (ev_neg (by simp) ?_)))))
      show Ev (fun k => keys_reader_text.l0 k (acc ++ [c]) s ((p + 1 : Nat) : Int) (decide (((acc ++ [c]).length : Int) > 60))) _
      rw [q]
      have e2 : p + (c :: esc t).length + 2 = p + 1 + (esc t).length + 2 := by simp; omega
      rw [e2]
      simpa using ih
theorem strOf_tb (x : ByteArray) : strOfNums (tb x) = x := by
  apply toList_inj
  have e : (strOfNums (tb x)).toList = (tb x).map fun n => UInt8.ofNat n.toNat := by
    rw [ByteArray.toList_eq]
    simp [strOfNums]
  rw [e, tb, List.map_map]
  conv => rhs; rw [← List.map_id x.toList]
  apply List.map_congr_left
  intro u _
  simp
theorem dtext_ev {s : List Int} (hl : Fit s) {x : ByteArray} (hx : x.size ≤ 60) {p : Nat} {post : List Int} (hd : s.drop p = esc (tb x) ++ 0 :: 0 :: post) :
    Ev (fun k => keys_reader_text.f k s (p : Int) false) (x, ((p + (esc (tb x)).length + 2 : Nat) : Int), false) := by
  have := dtext_loop hl (tb x) p [] post hd (by rw [tb_len]; simpa using hx)
  rw [List.nil_append, strOf_tb] at this
  exact this
theorem kget64_loop : ∀ (r p : List Int), (p ++ r).length ≤ 8 → Bytes (p ++ r) → Ev (fun k => keys_get64.l0 k (num p) (p ++ r) ((p ++ r).length : Int) p.length) (num (p ++ r))
  | [], p, _, _ => by
    refine ev_succ ?_
    simp only [keys_get64.l0]
    exact ev_neg (by simp) (ev_some (by simp))
  | x :: r, p, hl, hb => by
    have hl' := hl
    rw [List.length_append, List.length_cons] at hl'
    have hp := num_bound hb.left
    have hp2 : (256 : Int) ^ p.length ≤ 256 ^ 7 := by
      have : (256 : Int) ^ 7 = 256 ^ p.length * 256 ^ (7 - p.length) := by rw [← Int.pow_add]; congr 1; omega
      rw [this]
      have h1 : (1 : Int) ≤ 256 ^ (7 - p.length) := Int.pow_pos (by omega)
      have h2 : (0 : Int) < 256 ^ p.length := Int.pow_pos (by omega)
      have := Int.mul_le_mul_of_nonneg_left h1 (Int.le_of_lt h2)
      omega
    have w : wrap64 ((p.length : Int) + 1) = ((p ++ [x]).length : Int) := by rw [wrap64_id (by omega) (by omega)]; simp
    have hx : Byte x := hb.right.head
    refine ev_succ ?_
    simp only [keys_get64.l0]
    refine ev_pos (by simp; omega) (ev_pos (by omega) (ev_pos (by simp; omega) ?_))
    rw [rd_mid, w, or_byte _ _ hp.1 (by omega) hx, ← num_append]
    have ih := kget64_loop r (p ++ [x]) (by simpa using hl) (by simpa using hb)
    simpa using ih
theorem kget64_ev (l : List Int) (hl : l.length = 8) (hb : Bytes l) : Ev (fun k => keys_get64.f k l) (num l) := by
  unfold keys_get64.f
  have e : l.take 8 = l := List.take_of_length_le (by omega)
  rw [e]
  exact ev_pos (by omega) (kget64_loop l [] (by simp; omega) (by simpa using hb))
theorem eight_n {s : List Int} (hl : Fit s) (b : Bool) : ∀ (t acc : List Int) (p : Nat) (post : List Int), s.drop p = t ++ post → keys_eight.n t.length acc s (p : Int) b = some (acc ++ t, ((p + t.length : Nat) : Int), b)
  | [], acc, p, post, hd => by simp [keys_eight.n]
  | c :: t, acc, p, post, hd => by
    have h1 := drop_step hd
    have ih := eight_n hl b t (acc ++ [c]) (p + 1) post h1
    rw [List.length_cons, keys_eight.n, next_ev hd hl, Option.bind_some, ih]
    simp
    omega
theorem eight_ev {s : List Int} (hl : Fit s) {x : Int} (h0 : 0 ≤ x) (h1 : x < 18446744073709551616) {p : Nat} {post : List Int} (hd : s.drop p = b8 x ++ post) :
    Ev (fun k => keys_eight.f k s (p : Int) false) (x, ((p + 8 : Nat) : Int), false) := by
  unfold keys_eight.f
  have e := eight_n hl false (b8 x) [] p post hd
  rw [b8_length] at e
  refine ev_bind0 e (ev_bind (kget64_ev _ (by rw [List.nil_append, b8_length]) (by rw [List.nil_append]; exact b8_bytes x)) (ev_some ?_))
  rw [List.nil_append, num_b8 h0 h1]
theorem v_eta (x : V) : (⟨x.f0, x.f1, x.f2, x.f3, x.f4⟩ : V) = x := by cases x; rfl
theorem take_next {α : Type} {l : List α} {i : Nat} {x : α} (h : l[i]? = some x) : l.take i ++ [x] = l.take (i + 1) := by
  rw [List.take_add_one, h]
  rfl
theorem empty_eq {x : ByteArray} (h : x.toList = []) : x = (⟨#[]⟩ : ByteArray) := toList_inj (by rw [h, ByteArray.toList_eq])
theorem kind_back {c : Int} (h0 : 0 ≤ c) (h1 : c ≤ 6) : wrap64 (wrap64 (c + 1) - 1) = c := by
  rw [wrap64_id (x := c + 1) (by omega) (by omega), wrap64_id (by omega) (by omega)]
  omega
theorem depth_down {d : Nat} (h : d ≤ 6) : wrap64 (((d + 1 : Nat) : Int) - 1) = (d : Int) := by
  rw [wrap64_id (by omega) (by omega)]
  omega
theorem ditems {s : List Int} (hl : Fit s) (n d : Nat) (hd6 : d ≤ 6)
    (ih : ∀ (v : V) (p : Nat) (post : List Int), fm n v = true → FineN n v → s.drop p = keyV n v ++ post → Ev (fun k => keys_reader_value.f k s (p : Int) false (d : Int)) (v.f0, v.f1, v.f2, v.f3, v.f4, ((p + (keyV n v).length : Nat) : Int), false))
    (v : V) (hv : fm (n + 1) v = true) (hf : FineN (n + 1) v) (h5 : ¬ v.f0 < 5) (post : List Int) : ∀ (j i p : Nat), i + j = v.f4.length →
    s.drop p = (((mem v).drop i).map (itemB (keyV n) v.f0)).flatten ++ 0 :: post →
    Ev (fun k => keys_reader_value.l0 k ((d + 1 : Nat) : Int) s (p : Int) false v.f0 0 (⟨#[]⟩ : ByteArray) (v.f3.take i) (v.f4.take i))
      (v.f0, 0, (⟨#[]⟩ : ByteArray), v.f3, v.f4, ((p + (((mem v).drop i).map (itemB (keyV n) v.f0)).flatten.length + 1 : Nat) : Int), false) := by
  have hs := (fm_succ hv).1
  have hln := shallow_len hs
  have hml := mem_len hs
  have hk := shallow_kind hs
  have h3l : v.f3.length ≤ v.f4.length := by have := hln.2; split at this <;> omega
  intro j
  induction j with
  | zero =>
    intro i p hi hd
    have e0 : (((mem v).drop i).map (itemB (keyV n) v.f0)).flatten = [] := by rw [List.drop_eq_nil_of_le (by omega)]; rfl
    rw [e0] at hd ⊢
    have q : decide (((v.f4.take i).length : Int) ≤ 24) = true := by rw [List.length_take]; exact decide_eq_true (by omega)
    refine ev_succ ?_
    simp only [keys_reader_value.l0]
    rw [q]
    refine ev_neg (by simp) (ev_succ ?_)
    simp only [keys_reader_value.j4]
    refine ev_pos trivial (ev_bind0 (next_ev hd hl) (ev_pos rfl (ev_some ?_)))
    rw [List.take_of_length_le (l := v.f4) (by omega), List.take_of_length_le (l := v.f3) (by omega)]
    simp
  | succ j jh =>
    intro i p hi hd
    have hi' : i < v.f4.length := by omega
    have q : decide (((v.f4.take i).length : Int) ≤ 24) = true := by rw [List.length_take]; exact decide_eq_true (by omega)
    rw [drop_get (mem_get hs i hi')] at hd ⊢
    have hx : rd_T25 v.f4 (i : Int) = v.f4[i] := rdV_get _ _ hi'
    have hmem : v.f4[i] ∈ v.f4 := List.getElem_mem hi'
    have hfx : fm n v.f4[i] = true := (fm_succ hv).2 _ hmem
    have hfin : FineN n v.f4[i] := hf.2.2.2.2.2.2 _ hmem
    have ht4 : v.f4.take i ++ [v.f4[i]] = v.f4.take (i + 1) := take_next (List.getElem?_eq_getElem hi')
    rw [hx, List.map_cons, List.flatten_cons] at hd ⊢
    refine ev_succ ?_
    simp only [keys_reader_value.l0]
    rw [q]
    refine ev_neg (by simp) (ev_succ ?_)
    simp only [keys_reader_value.j4]
    by_cases h6 : v.f0 = 6
    · have h3 : i < v.f3.length := by have := hln.2; rw [if_pos h6] at this; omega
      have hsz := shallow_names hs i h3
      have hnm : rdOf ByteArray.empty v.f3 (i : Int) = v.f3[i] := by
        unfold rdOf
        rw [Int.toNat_natCast, List.getD_eq_getElem?_getD, List.getElem?_eq_getElem h3]
        rfl
      rw [hnm] at hsz
      have ht3 : v.f3.take i ++ [v.f3[i]] = v.f3.take (i + 1) := take_next (List.getElem?_eq_getElem h3)
      have eB : itemB (keyV n) v.f0 (if v.f0 = 6 then rdOf ByteArray.empty v.f3 (i : Int) else ByteArray.empty, v.f4[i]) = 1 :: (esc (tb v.f3[i]) ++ 0 :: 0 :: keyV n v.f4[i]) := by
        rw [if_pos h6, hnm]
        simp [itemB, nameB, h6]
      rw [eB] at hd ⊢
      have hd' : s.drop p = 1 :: (esc (tb v.f3[i]) ++ 0 :: 0 :: (keyV n v.f4[i] ++ (((mem v).drop (i + 1)).map (itemB (keyV n) v.f0)).flatten ++ 0 :: post)) := by rw [hd]; simp
      have h1 := drop_step hd'
      have h2 := drop_more h1
      have h3' := drop_step (drop_step h2)
      have e4 : p + 1 + (esc (tb v.f3[i])).length + 1 + 1 = p + 1 + (esc (tb v.f3[i])).length + 2 := by omega
      rw [e4, List.append_assoc] at h3'
      have h4 := drop_more h3'
      refine ev_pos trivial (ev_bind0 (next_ev hd' hl) (ev_neg (by simp) (ev_pos h6 (ev_neg (by simp) (ev_succ ?_)))))
      simp only [keys_reader_value.j5]
      refine ev_bind (dtext_ev hl hsz h1) (ev_pos (by rw [List.length_take]; omega) (ev_let (ev_neg (by simp) ?_)))
      rw [depth_down hd6]
      refine ev_bind (ih _ _ _ hfx hfin h3') (ev_pos (by rw [List.length_take]; omega) ?_)
      have jj := jh (i + 1) _ (by omega) h4
      simp only [v_eta]
      rw [ht3, ht4]
      have e5 : p + ((1 :: (esc (tb v.f3[i]) ++ 0 :: 0 :: keyV n v.f4[i])) ++ (((mem v).drop (i + 1)).map (itemB (keyV n) v.f0)).flatten).length + 1 =
          p + 1 + (esc (tb v.f3[i])).length + 2 + (keyV n v.f4[i]).length + (((mem v).drop (i + 1)).map (itemB (keyV n) v.f0)).flatten.length + 1 := by simp; omega
      rw [e5]
      exact jj
    · have eB : itemB (keyV n) v.f0 (if v.f0 = 6 then rdOf ByteArray.empty v.f3 (i : Int) else ByteArray.empty, v.f4[i]) = keyV n v.f4[i] := by
        rw [if_neg h6]
        simp [itemB, nameB, h6]
      have h3n : v.f3 = [] := by have := hln.2; rw [if_neg h6] at this; exact List.length_eq_zero_iff.1 this
      rw [eB] at hd ⊢
      rw [List.append_assoc] at hd
      obtain ⟨c, r, hc, hc0⟩ := keyV_head hfx
      have hd' : s.drop p = c :: (r ++ ((((mem v).drop (i + 1)).map (itemB (keyV n) v.f0)).flatten ++ 0 :: post)) := by rw [hd, hc]; simp
      have h4 := drop_more hd
      have hp := drop_lt hd'
      have eback : wrap64 (((p + 1 : Nat) : Int) - 1) = (p : Int) := by unfold Fit at hl; rw [wrap64_id (by omega) (by omega)]; omega
      refine ev_pos trivial (ev_bind0 (next_ev hd' hl) (ev_neg (by show ¬ c = 0; omega) (ev_neg h6 (ev_neg (by simp) ?_))))
      rw [depth_down hd6]
      show Ev (fun k => (keys_reader_value.f k s (wrap64 (((p + 1 : Nat) : Int) - 1)) false (d : Int)).bind _) _
      rw [eback]
      refine ev_bind (ih _ _ _ hfx hfin hd) (ev_pos (by rw [List.length_take]; omega) ?_)
      have jj := jh (i + 1) _ (by omega) h4
      simp only [v_eta]
      rw [ht4]
      rw [h3n] at jj ⊢
      have e5 : p + (keyV n v.f4[i] ++ (((mem v).drop (i + 1)).map (itemB (keyV n) v.f0)).flatten).length + 1 =
          p + (keyV n v.f4[i]).length + (((mem v).drop (i + 1)).map (itemB (keyV n) v.f0)).flatten.length + 1 := by simp; omega
      rw [e5]
      simpa using jj
theorem value_ev {s : List Int} (hl : Fit s) : ∀ (n d : Nat) (v : V) (p : Nat) (post : List Int), n ≤ d → d ≤ 6 → fm n v = true → FineN n v → s.drop p = keyV n v ++ post →
    Ev (fun k => keys_reader_value.f k s (p : Int) false (d : Int)) (v.f0, v.f1, v.f2, v.f3, v.f4, ((p + (keyV n v).length : Nat) : Int), false)
  | 0, _, v, _, _, _, _, h, _, _ => by simp [fm] at h
  | n + 1, 0, _, _, _, h, _, _, _, _ => absurd h (by omega)
  | n + 1, d + 1, v, p, post, hnd, hd6, h, hf, hd => by
    have hs := (fm_succ h).1
    have hk := shallow_kind hs
    have hln := shallow_len hs
    have hw : (Lit.int .i64 v.f1).wf = true := hf.2.1
    have hx := bounds_i64 hw
    rw [keyV_tail] at hd ⊢
    have hd' : s.drop p = (v.f0 + 1) :: (tailV n v ++ post) := by rw [hd]; simp
    have h1 := drop_step hd'
    have hlen : p + ([v.f0 + 1] ++ tailV n v).length = p + 1 + (tailV n v).length := by simp; omega
    rw [hlen]
    have q : decide (v.f0 > 6) = false := decide_eq_false (by omega)
    refine ev_succ ?_
    simp only [keys_reader_value.f]
    refine ev_bind0 (next_ev hd' hl) ?_
    simp only [kind_back hk.1 hk.2.1]
    refine ev_neg (by omega) (ev_neg (by omega) (ev_succ ?_))
    rw [q]
    simp only [keys_reader_value.j0]
    refine ev_neg (by simp) (ev_succ ?_)
    simp only [keys_reader_value.j1]
    have h3e : v.f0 < 6 → v.f3 = [] := fun h6 => by have := hln.2; rw [if_neg (by omega)] at this; exact List.length_eq_zero_iff.1 this
    by_cases h3 : v.f0 = 3
    · have et : tailV n v = b8 (v.f1 + 9223372036854775808) := by unfold tailV; rw [if_pos h3]
      rw [et] at h1 ⊢
      refine ev_pos h3 (ev_bind (eight_ev hl (by omega) (by omega) h1) (ev_some ?_))
      have e2 : v.f2 = (⟨#[]⟩ : ByteArray) := empty_eq (hk.2.2.2.1.resolve_left (by omega))
      rw [h3e (by omega), hk.2.2.2.2 (by omega), e2, u64_top _ (by omega) (by omega), b8_length]
      have : wrap64 ((v.f1 + 9223372036854775808 + 9223372036854775808) % 18446744073709551616) = v.f1 := by unfold wrap64; omega
      rw [this]
    · refine ev_neg h3 ?_
      have hf1 : v.f1 = 0 := by have := hk.2.2.1; omega
      by_cases h4 : v.f0 = 4
      · have et : tailV n v = esc (tb v.f2) ++ [0, 0] := by unfold tailV; rw [if_neg h3, if_pos h4]
        rw [et] at h1 ⊢
        refine ev_pos h4 (ev_bind (dtext_ev hl (shallow_text hs) (by simpa using h1)) (ev_some ?_))
        rw [h3e (by omega), hk.2.2.2.2 (by omega), hf1]
        simp
        omega
      · refine ev_neg h4 ?_
        have e2 : v.f2 = (⟨#[]⟩ : ByteArray) := empty_eq (hk.2.2.2.1.resolve_left (by omega))
        by_cases h5 : v.f0 < 5
        · have et : tailV n v = [] := by unfold tailV; rw [if_neg h3, if_neg h4, if_pos h5]
          rw [et]
          have q6 : (v.f0 == 6) = false := by simp; omega
          refine ev_neg (by omega) (ev_succ ?_)
          rw [q6]
          simp only [keys_reader_value.j2]
          refine ev_neg (by simp) (ev_some ?_)
          rw [h3e (by omega), hk.2.2.2.2 (by omega), hf1, e2]
          simp
        · have et : tailV n v = ((mem v).map (itemB (keyV n) v.f0)).flatten ++ [0] := by unfold tailV; rw [if_neg h3, if_neg h4, if_neg h5]
          rw [et] at h1 ⊢
          have main := ditems hl n d (by omega) (fun v p post => value_ev hl n d v p post (by omega) (by omega)) v h hf h5 post v.f4.length 0 (p + 1) (by omega) (by simpa using h1)
          have go : ∀ b, b = true → Ev (fun k => keys_reader_value.j2 k ((d + 1 : Nat) : Int) b s ((p + 1 : Nat) : Int) false v.f0 0 (⟨#[]⟩ : ByteArray))
              (v.f0, v.f1, v.f2, v.f3, v.f4, ((p + 1 + (((mem v).map (itemB (keyV n) v.f0)).flatten ++ [0]).length : Nat) : Int), false) := by
            rintro b rfl
            refine ev_succ ?_
            simp only [keys_reader_value.j2]
            refine ev_pos trivial ?_
            rw [hf1, e2]
            have e5 : p + 1 + (((mem v).map (itemB (keyV n) v.f0)).flatten ++ [0]).length = p + 1 + (((mem v).drop 0).map (itemB (keyV n) v.f0)).flatten.length + 1 := by simp; omega
            rw [e5]
            simpa using main
          exact ev_ite (fun h5' => go _ (by simp [h5'])) (fun h5' => go _ (by simp; omega))
theorem read_ev {n : Nat} {v : V} (hv : FineN n v) (hf : fm 6 v = true) (post : List Int) (hl : Fit (keyV 6 v ++ post)) :
    Ev (fun k => keys_Read.f k (keyV 6 v ++ post)) (v.f0, v.f1, v.f2, v.f3, v.f4, ((keyV 6 v).length : Int), 0) := by
  have h := value_ev hl 6 6 v 0 post (by omega) (by omega) hf (fine_fm hv hf) rfl
  rw [Nat.zero_add] at h
  unfold keys_Read.f keys_reader_read.f
  refine ev_bind (ev_bind h (ev_neg (by simp) (ev_bind (Formed_ev hv) (ev_some rfl)))) (ev_neg (by simp [hf]) (ev_some rfl))
end Go.Proofs.YtmphdmhpfghfkaaDoor.Pl
