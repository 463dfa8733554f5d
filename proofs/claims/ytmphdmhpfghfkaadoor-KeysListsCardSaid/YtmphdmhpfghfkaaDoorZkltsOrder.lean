import Derived.Test.YtmphdmhpfghfkaaDoorZkltsValueR
import Derived.Test.YtmphdmhpfghfkaaDoorZkltsCmp
import Derived.Test.YtmphdmhpfghfkaaDoorZkltsPKx23
set_option linter.unusedSimpArgs false
set_option linter.unusedVariables false
namespace Go.Proofs.YtmphdmhpfghfkaaDoor.Pl
open Go.RowKit Go.Proofs.YtmphdmhpfghfkaaDoorW.PrintWords Go.Proofs.YtmphdmhpfghfkaaDoorW.PrintMore Go.Proofs.YtmphdmhpfghfkaaDoor.PK
/-- A value's members: each one's name (none in an array) and itself. -/
def mem (v : V) : List (ByteArray × V) := if v.f0 = 6 then v.f3.zip v.f4 else v.f4.map fun x => (ByteArray.empty, x)
def cmpP (f : V → V → Int) (x y : ByteArray × V) : Int := or2 (cmpS x.1 y.1) (f x.2 y.2)
def cmpR (f : V → V → Int) (x y : ByteArray × List (ByteArray × V)) : Int := or2 (cmpS x.1 y.1) (lexL (cmpP f) x.2 y.2)
def cmpT (f : V → V → Int) (x y : Int × ByteArray × List (ByteArray × V)) : Int := or2 (cmpI x.1 y.1) (cmpR f x.2 y.2)
def cmpV : Nat → V → V → Int
  | 0, _, _ => 0
  | n + 1, a, b => or2 (cmpI a.f0 b.f0) (cmpT (cmpV n) (a.f1, a.f2, mem a) (b.f1, b.f2, mem b))
theorem fm_succ {n : Nat} {v : V} (h : fm (n + 1) v = true) : shallow v = true ∧ ∀ x ∈ v.f4, fm n x = true := by
  simp only [fm, Bool.and_eq_true, List.all_eq_true] at h
  exact h
theorem shallow_len {v : V} (h : shallow v = true) : v.f4.length ≤ 24 ∧ v.f3.length = if v.f0 = 6 then v.f4.length else 0 := by
  unfold shallow at h
  simp only [Bool.and_eq_true] at h
  obtain ⟨_, h⟩ := h
  split at h
  · simp only [Bool.and_eq_true, decide_eq_true_eq] at h
    rw [if_neg (by omega)]
    omega
  · simp only [Bool.and_eq_true, decide_eq_true_eq] at h
    exact ⟨h.1.1, h.1.2⟩
theorem shallow_kind {v : V} (h : shallow v = true) : 0 ≤ v.f0 ∧ v.f0 ≤ 6 ∧ (v.f0 = 3 ∨ v.f1 = 0) ∧ (v.f0 = 4 ∨ v.f2.toList = []) ∧ (v.f0 < 5 → v.f4 = []) := by
  unfold shallow at h
  simp only [Bool.and_eq_true, Bool.or_eq_true, decide_eq_true_eq] at h
  obtain ⟨⟨⟨⟨⟨h0, h1⟩, h2⟩, h3⟩, _⟩, h4⟩ := h
  refine ⟨h0, h1, h2, h3, fun h5 => ?_⟩
  rw [if_pos h5] at h4
  simp only [Bool.and_eq_true, decide_eq_true_eq] at h4
  exact List.length_eq_zero_iff.1 h4.1
theorem mem_len {v : V} (h : shallow v = true) : (mem v).length = v.f4.length := by
  have := shallow_len h
  unfold mem
  split
  · next h6 => rw [if_pos h6] at this; rw [List.length_zip]; omega
  · simp
theorem mem_get {v : V} (h : shallow v = true) (i : Nat) (hi : i < v.f4.length) : (mem v)[i]? = some (if v.f0 = 6 then rdOf ByteArray.empty v.f3 (i : Int) else ByteArray.empty, rd_T25 v.f4 (i : Int)) := by
  have hl := shallow_len h
  rw [rdV_get _ _ hi]
  unfold mem
  split
  · next h6 =>
    rw [if_pos h6] at hl
    have e : rdOf ByteArray.empty v.f3 (i : Int) = v.f3[i] := by
      unfold rdOf
      rw [Int.toNat_natCast, List.getD_eq_getElem?_getD, List.getElem?_eq_getElem (by omega)]
      rfl
    rw [e, List.getElem?_eq_getElem (by rw [List.length_zip]; omega)]
    simp
  · rw [List.getElem?_map, List.getElem?_eq_getElem hi]
    rfl
theorem mem_fm {n : Nat} {v : V} (h : fm (n + 1) v = true) : ∀ p ∈ mem v, fm n p.2 = true := by
  obtain ⟨hs, ha⟩ := fm_succ h
  intro p hp
  unfold mem at hp
  split at hp
  · exact ha _ (List.of_mem_zip hp).2
  · obtain ⟨x, hx, rfl⟩ := List.mem_map.1 hp
    exact ha _ hx
theorem mem_inj {a b : V} (ha : shallow a = true) (hb : shallow b = true) (h0 : a.f0 = b.f0) (h1 : a.f1 = b.f1) (h2 : a.f2 = b.f2) (hm : mem a = mem b) : a = b := by
  have la := shallow_len ha
  have lb := shallow_len hb
  have ma := mem_len ha
  have mb := mem_len hb
  have e4 : a.f4 = b.f4 := by
    apply List.ext_getElem (by rw [← ma, ← mb, hm])
    intro i h h'
    have q := mem_get ha i h
    rw [hm, mem_get hb i h'] at q
    have q2 := congrArg Prod.snd (Option.some.inj q)
    simp only [rdV_get _ _ h, rdV_get _ _ h'] at q2
    exact q2.symm
  have e3 : a.f3 = b.f3 := by
    by_cases h6 : a.f0 = 6
    · have h6' : b.f0 = 6 := h0 ▸ h6
      rw [if_pos h6] at la
      rw [if_pos h6'] at lb
      apply List.ext_getElem (by rw [la.2, lb.2, e4])
      intro i h h'
      have q := mem_get ha i (by omega)
      rw [hm, mem_get hb i (by omega)] at q
      have q1 := congrArg Prod.fst (Option.some.inj q)
      simp only [if_pos h6, if_pos h6'] at q1
      unfold rdOf at q1
      rw [Int.toNat_natCast, List.getD_eq_getElem?_getD, List.getD_eq_getElem?_getD, List.getElem?_eq_getElem h, List.getElem?_eq_getElem h'] at q1
      exact q1.symm
    · have h6' : ¬ b.f0 = 6 := h0 ▸ h6
      rw [if_neg h6] at la
      rw [if_neg h6'] at lb
      rw [List.length_eq_zero_iff.1 la.2, List.length_eq_zero_iff.1 lb.2]
  obtain ⟨a0, a1, a2, a3, a4⟩ := a
  obtain ⟨b0, b1, b2, b3, b4⟩ := b
  simp only at h0 h1 h2 e3 e4
  rw [h0, h1, h2, e3, e4]
theorem good_cmpV : ∀ n, Good (fun v => fm n v = true) (cmpV n)
  | 0 => ⟨fun _ _ h => by simp [fm] at h, fun _ _ h => by simp [fm] at h, fun _ _ _ h => by simp [fm] at h, fun _ _ h => by simp [fm] at h⟩
  | n + 1 => by
    have gP : Good (fun p : ByteArray × V => fm n p.2 = true) (cmpP (cmpV n)) :=
      Good.or2 good_cmpS (good_cmpV n) Prod.fst Prod.snd (fun _ _ => trivial) (fun _ h => h) (fun _ _ _ _ h1 h2 => Prod.ext h1 h2)
    have gR : Good (fun p : ByteArray × List (ByteArray × V) => ∀ q ∈ p.2, fm n q.2 = true) (cmpR (cmpV n)) :=
      Good.or2 good_cmpS gP.lexL Prod.fst Prod.snd (fun _ _ => trivial) (fun _ h => h) (fun _ _ _ _ h1 h2 => Prod.ext h1 h2)
    have gT : Good (fun p : Int × ByteArray × List (ByteArray × V) => ∀ q ∈ p.2.2, fm n q.2 = true) (cmpT (cmpV n)) :=
      Good.or2 good_cmpI gR Prod.fst Prod.snd (fun _ _ => trivial) (fun _ h => h) (fun _ _ _ _ h1 h2 => Prod.ext h1 h2)
    exact Good.or2 good_cmpI gT (fun v : V => v.f0) (fun v : V => (v.f1, v.f2, mem v)) (fun _ _ => trivial) (fun v h => mem_fm h) (fun x y hx hy h0 h1 => by
      simp only [Prod.mk.injEq] at h1
      exact mem_inj (fm_succ hx).1 (fm_succ hy).1 h0 h1.1 h1.2.1 h1.2.2)
theorem toList_len (a : ByteArray) : a.toList.length = a.size := by rw [ByteArray.toList_eq, Array.length_toList]; rfl
theorem bt_get (a : ByteArray) (i : Nat) (h : i < a.size) : ∃ u : UInt8, a.toList[i]? = some u ∧ bt a (i : Int) = (u.toNat : Int) := by
  refine ⟨a[i]'h, ?_, ?_⟩
  · rw [ByteArray.toList_eq, Array.getElem?_toList]
    exact Array.getElem?_eq_getElem h
  · unfold bt
    simp only [Int.toNat_natCast]
    rw [dif_pos h]
theorem names_text : ∀ (l : List ByteArray) (p : Option ByteArray), namesFrom p l = true → ∀ s ∈ l, textB s = true
  | [], _, _, s, hs => by simp at hs
  | a :: r, p, h, s, hs => by
    simp only [namesFrom, Bool.and_eq_true] at h
    rcases List.mem_cons.1 hs with rfl | hs
    · exact h.1.1
    · exact names_text r _ h.2 s hs
theorem text_size {s : ByteArray} (h : textB s = true) : s.size ≤ 60 := by
  unfold textB at h
  simp only [Bool.and_eq_true, decide_eq_true_eq] at h
  exact h.1
theorem shallow_text {v : V} (h : shallow v = true) : v.f2.size ≤ 60 := by
  unfold shallow at h
  simp only [Bool.and_eq_true] at h
  exact text_size h.1.2
theorem shallow_names {v : V} (h : shallow v = true) (i : Nat) (hi : i < v.f3.length) : (rdOf ByteArray.empty v.f3 (i : Int)).size ≤ 60 := by
  have e : rdOf ByteArray.empty v.f3 (i : Int) = v.f3[i] := by
    unfold rdOf
    rw [Int.toNat_natCast, List.getD_eq_getElem?_getD, List.getElem?_eq_getElem hi]
    rfl
  rw [e]
  have hl := shallow_len h
  unfold shallow at h
  simp only [Bool.and_eq_true] at h
  obtain ⟨_, h⟩ := h
  split at h
  · simp only [Bool.and_eq_true, decide_eq_true_eq] at h
    omega
  · simp only [Bool.and_eq_true, decide_eq_true_eq] at h
    exact text_size (names_text _ _ h.2 _ (List.getElem_mem hi))
theorem mem_nil {v : V} (h : v.f4 = []) : mem v = [] := by
  unfold mem
  rw [h]
  simp
theorem cint_eq (a b : Int) : cmp_Compare_int.f a b = some (cmpI a b) := by
  unfold cmp_Compare_int.f cmp_isNaN_int.f cmpI
  simp only [bne_self_eq_false, Option.bind_some, Bool.false_eq_true, if_false]
  split
  · rfl
  · split <;> rfl
theorem cint64_eq (a b : Int) : cmp_Compare_int64.f a b = some (cmpI a b) := by
  unfold cmp_Compare_int64.f cmp_isNaN_int64.f cmpI
  simp only [bne_self_eq_false, Option.bind_some, Bool.false_eq_true, if_false]
  split
  · rfl
  · split <;> rfl
theorem cstr_eq (a b : ByteArray) : cmp_Compare_string.f a b = some (cmpS a b) := by
  unfold cmp_Compare_string.f cmp_isNaN_string.f
  simp only [bne_self_eq_false, Option.bind_some, Bool.false_eq_true, if_false]
  have g := good_cmpS
  have h1 := cmpS_lt a b
  have h2 := cmpS_lt b a
  have h3 := g.anti a b trivial trivial
  have h4 := g.small a b trivial trivial
  split
  · next h => have := h1.1 h; congr 1; omega
  · next h =>
    have n1 : ¬ cmpS a b < 0 := fun k => h (h1.2 k)
    split
    · next h' => have := h2.1 h'; congr 1; omega
    · next h' => have n2 : ¬ cmpS b a < 0 := fun k => h' (h2.2 k)
                 congr 1; omega
theorem or3_ev (x y z : Int) : Ev (fun k => cmp_Or_int.f k [x, y, z]) (or2 x (or2 y z)) := by
  unfold cmp_Or_int.f
  have e1 : wrap64 (0 + 1) = 1 := by rw [wrap64_id (by omega) (by omega)]; rfl
  have e2 : wrap64 (1 + 1) = 2 := by rw [wrap64_id (by omega) (by omega)]; rfl
  have e3 : wrap64 (2 + 1) = 3 := by rw [wrap64_id (by omega) (by omega)]; rfl
  have r0 : rd [x, y, z] 0 = x := rfl
  have r1 : rd [x, y, z] 1 = y := rfl
  have r2 : rd [x, y, z] 2 = z := rfl
  refine ev_succ ?_
  simp only [cmp_Or_int.l0, r0, e1]
  refine ev_pos (by simp) (ev_pos (by omega) (ev_pos (by simp) (ev_ite (fun hx => ?_) (fun hx => ev_some (by simp [or2, hx])))))
  refine ev_succ ?_
  simp only [cmp_Or_int.l0, r1, e2]
  refine ev_pos (by simp) (ev_pos (by omega) (ev_pos (by simp) (ev_ite (fun hy => ?_) (fun hy => ev_some (by simp [or2, hx, hy])))))
  refine ev_succ ?_
  simp only [cmp_Or_int.l0, r2, e3]
  refine ev_pos (by simp) (ev_pos (by omega) (ev_pos (by simp) (ev_ite (fun hz => ?_) (fun hz => ev_some (by simp [or2, hx, hy])))))
  refine ev_succ ?_
  simp only [cmp_Or_int.l0]
  exact ev_neg (by simp) (ev_some (by simp [or2, hx, hy, hz]))
theorem or2_assoc (a b c : Int) : or2 (or2 a b) c = or2 a (or2 b c) := by
  unfold or2
  split <;> simp_all
theorem or2_four (x y z r : Int) : or2 x (or2 y (or2 z r)) = or2 (or2 x (or2 y z)) r := by rw [or2_assoc, or2_assoc]
theorem or2_zero (a : Int) : or2 a 0 = a := by
  unfold or2
  split <;> simp_all
theorem cmpS_self (a : ByteArray) : cmpS a a = 0 := (good_cmpS.zero a a trivial trivial).2 rfl
theorem drop_get {α : Type} {l : List α} {i : Nat} {x : α} (h : l[i]? = some x) : l.drop i = x :: l.drop (i + 1) := by
  have hi := (List.getElem?_eq_some_iff.1 h).1
  rw [List.drop_eq_getElem_cons hi]
  rw [List.getElem?_eq_getElem hi] at h
  rw [Option.some.inj h]
theorem lex_end {α : Type} (c : α → α → Int) (x y : List α) (i : Nat) (hi : i = min x.length y.length) : lexL c (x.drop i) (y.drop i) = cmpI x.length y.length := by
  unfold cmpI
  rcases Nat.lt_trichotomy x.length y.length with h | h | h
  · rw [List.drop_eq_nil_of_le (by omega), if_pos (by omega), List.drop_eq_getElem_cons (show i < y.length by omega)]
    rfl
  · rw [List.drop_eq_nil_of_le (by omega), List.drop_eq_nil_of_le (by omega), if_neg (by omega), if_neg (by omega)]
    rfl
  · rw [List.drop_eq_nil_of_le (show y.length ≤ i by omega), if_neg (by omega), if_pos (by omega), List.drop_eq_getElem_cons (show i < x.length by omega)]
    rfl
theorem mn_nat (a b : Nat) : mn (a : Int) (b : Int) = ((min a b : Nat) : Int) := by unfold mn; omega
theorem compare_loop (n : Nat) (h : ∀ a b : V, fm n a = true → fm n b = true → Ev (fun k => order_compare.f k a.f0 a.f1 a.f2 a.f3 a.f4 b.f0 b.f1 b.f2 b.f3 b.f4) (cmpV n a b))
    (a b : V) (ha : fm (n + 1) a = true) (hb : fm (n + 1) b = true) (h0 : a.f0 = b.f0) :
    ∀ (j i : Nat), i + j = min a.f4.length b.f4.length → Ev (fun k => order_compare.l0 k ((min a.f4.length b.f4.length : Nat) : Int) (i : Int) a.f0 a.f1 a.f2 a.f3 a.f4 b.f0 b.f1 b.f2 b.f3 b.f4) (lexL (cmpP (cmpV n)) ((mem a).drop i) ((mem b).drop i)) := by
  obtain ⟨sa, fa⟩ := fm_succ ha
  obtain ⟨sb, fb⟩ := fm_succ hb
  have la := shallow_len sa
  have lb := shallow_len sb
  intro j
  induction j with
  | zero =>
    intro i hi
    refine ev_succ ?_
    simp only [order_compare.l0]
    refine ev_neg (by omega) (ev_bind0 (cint_eq _ _) (ev_some ?_))
    rw [lex_end _ _ _ i (by rw [mem_len sa, mem_len sb]; omega), mem_len sa, mem_len sb]
  | succ j ih =>
    intro i hi
    have ga := mem_get sa i (by omega)
    have gb := mem_get sb i (by omega)
    have w1 : i + 1 ≤ maxLen := by unfold maxLen; omega
    have hfa : fm n (rd_T25 a.f4 (i : Int)) = true := mem_fm ha _ (List.mem_of_getElem? ga)
    have hfb : fm n (rd_T25 b.f4 (i : Int)) = true := mem_fm hb _ (List.mem_of_getElem? gb)
    rw [drop_get ga, drop_get gb]
    simp only [lexL, cmpP]
    have key : ∀ c : Int, Ev (fun k => order_compare.j1 k (i : Int) c ((min a.f4.length b.f4.length : Nat) : Int) (i : Int) a.f0 a.f1 a.f2 a.f3 a.f4 b.f0 b.f1 b.f2 b.f3 b.f4)
        (or2 (or2 c (cmpV n (rd_T25 a.f4 (i : Int)) (rd_T25 b.f4 (i : Int)))) (lexL (cmpP (cmpV n)) ((mem a).drop (i + 1)) ((mem b).drop (i + 1)))) := by
      intro c
      refine ev_succ ?_
      simp only [order_compare.j1]
      rw [wrapN w1]
      refine ev_ite (fun hc => ?_) (fun hc => ev_some (by simp [or2, hc]))
      refine ev_pos (by omega) (ev_pos (by omega) (ev_pos (by omega) (ev_bind (h _ _ hfa hfb) (ev_ite (fun hz => ?_) (fun hz => ev_some (by simp [or2, hc, hz]))))))
      have := ih (i + 1) (by omega)
      rw [hz, hc]
      exact this
    refine ev_succ ?_
    simp only [order_compare.l0]
    refine ev_pos (by omega) (ev_ite (fun h6 => ?_) (fun h6 => ?_))
    · have h6' : b.f0 = 6 := h0.symm.trans h6
      rw [if_pos h6] at la
      rw [if_pos h6'] at lb
      refine ev_pos (by omega) (ev_pos (by omega) (ev_pos (by omega) (ev_bind0 (cstr_eq _ _) ?_)))
      rw [if_pos h6, if_pos h6']
      exact key _
    · have h6' : ¬ b.f0 = 6 := fun h => h6 (h0.trans h)
      rw [if_neg h6, if_neg h6', cmpS_self]
      exact key 0
theorem compare_ev : ∀ (n : Nat) (a b : V), fm n a = true → fm n b = true → Ev (fun k => order_compare.f k a.f0 a.f1 a.f2 a.f3 a.f4 b.f0 b.f1 b.f2 b.f3 b.f4) (cmpV n a b)
  | 0, _, _, h, _ => by simp [fm] at h
  | n + 1, a, b, ha, hb => by
    refine ev_succ ?_
    simp only [order_compare.f]
    refine ev_bind0 (cint_eq _ _) (ev_bind0 (cint64_eq _ _) (ev_bind0 (cstr_eq _ _) (ev_bind (or3_ev _ _ _) (ev_ite (fun hz => ?_) (fun hz => ev_some ?_)))))
    · have h0 : a.f0 = b.f0 := by
        have : cmpI a.f0 b.f0 = 0 := by
          unfold or2 at hz
          split at hz
          · assumption
          · next hn => exact absurd hz hn
        exact (good_cmpI.zero _ _ trivial trivial).1 this
      have := compare_loop n (compare_ev n) a b ha hb h0 (min a.f4.length b.f4.length) 0 (by omega)
      rw [mn_nat]
      simp only [cmpV, cmpT, cmpR]
      rw [or2_four, hz]
      exact this
    · simp only [cmpV, cmpT, cmpR]
      rw [or2_four]
      generalize or2 (cmpI a.f0 b.f0) (or2 (cmpI a.f1 b.f1) (cmpS a.f2 b.f2)) = t at hz ⊢
      simp [or2, hz]
def cmpF (a b : V) : Int := if fm 6 a = true ∧ fm 6 b = true then cmpV 6 a b else 0
theorem Compare_ev {n m : Nat} {a b : V} (ha : FineN n a) (hb : FineN m b) : Ev (fun k => order_Compare.f k a.f0 a.f1 a.f2 a.f3 a.f4 b.f0 b.f1 b.f2 b.f3 b.f4) (cmpF a b) := by
  unfold order_Compare.f cmpF
  refine ev_bind (Formed_ev ha) (ev_ite (fun h1 => ?_) (fun h1 => ev_some (by rw [if_neg (fun h => h1 h.1)])))
  refine ev_bind (Formed_ev hb) (ev_ite (fun h2 => ?_) (fun h2 => ev_some (by rw [if_neg (fun h => h2 h.2)])))
  rw [if_pos ⟨h1, h2⟩]
  exact ev_bind (compare_ev 6 a b h1 h2) (ev_some rfl)
end Go.Proofs.YtmphdmhpfghfkaaDoor.Pl
