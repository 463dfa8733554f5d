import Derived.Test.YtmkcmfamdnjmdaaZnpesPre
namespace Go.Proofs.YtmkcmfamdnjmdaaW.PrintWords
open Go.RowKit Go.Proofs.YtmkcmfamdnjmdaaW.PrintMore
/-- The room behind a row's n bytes holds zeros. -/
def Zt (e : TypeId) (w : World) (v : Value) (n : Nat) : Prop :=
  ∃ (g : Nat) (cur : Array Value), v = .slice (some ⟨g, 0, none⟩) n 1024 ∧ w.heap[g]? = some (.cells cur e (0, 0)) ∧ cur.size = 1024 ∧ n ≤ 1024 ∧ cur.toList.drop n = List.replicate (1024 - n) (.int .u8 0)
theorem Zt.below {e : TypeId} {w w1 : World} {v : Value} {n : Nat} (h : Zt e w v n) (hb : Below w.heap.size w w1) : Zt e w1 v n := by
  obtain ⟨g, cur, h1, h2, h3⟩ := h
  exact ⟨g, cur, h1, blk_below h2 hb, h3⟩
/-- Bytes appended where there is room. -/
theorem Zt.room {P : Program} {W : World} {base : Nat} {t ty e : TypeId} {i : TypeInfo} {v : Value} {n : Nat} {inner : List Value} (ht : P.underlying t = some (.slice e)) (hi : P.info? e = some i) (hsz : i.size = 1)
    (hown : W.ownsRow base e 1 v n inner) (hz : Zt e W v n) (ad : Addr) (m c : Nat) (news : List Value) (hl : news.length = m) (hnews : ∀ j u, news[j]? = some u → W.cell? (ad.add j) = some u) (h1 : ∀ u ∈ news, u.oneCell' = true) (hr : n + m ≤ 1024) :
    ∃ v1 w1, (Builtin.append_ #[t, t] ty #[v, .slice (some ad) m c]).run P W = .ok v1 w1 ∧ w1.ownsRow base e 1 v1 (n + m) (inner ++ news) ∧ W.grownBy w1 v.ownBlock ∧ v1.ownBlock = v.ownBlock ∧ Zt e w1 v1 (n + m) := by
  obtain ⟨g, cur, rfl, hg, hs, hn, hd⟩ := hz
  have hlen : (inner ++ news).length = (n + m) * 1 := by rw [List.length_append, hown.1, hl]; omega
  have hr' := run_append_room (P := P) W t ty e i ht hi g n 1024 cur hg ad m c news (by rw [hl, hsz]; omega) hnews h1 hr (by rw [hsz, hl, hs]; omega)
  rw [hsz, Nat.mul_one, hl] at hr'
  rcases hown.2 with ⟨h, _⟩ | ⟨g', cap', cur', h, hbg, hg', hnc, hcm, hcs, htake⟩
  · cases h
  · cases h
    rw [hg] at hg'
    injection hg' with hg'
    injection hg' with hg'
    subst hg'
    rw [Nat.mul_one] at htake
    have hcl : cur.toList.length = 1024 := by rw [Array.length_toList]; exact hs
    have hsize : (cur.toList.take n ++ news ++ cur.toList.drop (n + m)).toArray.size = 1024 := by
      simp only [List.size_toArray, List.length_append, List.length_take, List.length_drop, hcl]
      omega
    refine ⟨_, _, hr', ⟨hlen, .inr ⟨g, 1024, _, rfl, hbg, setRow_heap W g cur _ e _ hg, hr, hcm, by rw [hsize], ?_⟩⟩, ⟨rfl, rfl, rfl, by simp, fun k _ hk => setRow_other W g k _ (fun e => hk (by simp [Value.ownBlock, e]))⟩, rfl, g, _, rfl, setRow_heap W g cur _ e _ hg, hsize, hr, ?_⟩
    · rw [htake, ← hlen]
      exact List.take_left
    · have e1 : (cur.toList.take n ++ news).length = n + m := by rw [List.length_append, List.length_take, hcl, hl]; omega
      rw [show (cur.toList.take n ++ news ++ cur.toList.drop (n + m)).toArray.toList = cur.toList.take n ++ news ++ cur.toList.drop (n + m) from rfl]
      rw [← e1, List.drop_left, e1, ← List.drop_drop, hd, List.drop_replicate]
      congr 1
      omega
namespace Bd
/-- A row of bytes of the call's own, with zeros behind it. -/
def R (d : Kd Int) (e : Nat) (w : World) (base : Nat) (ok : Nat → Prop) (v : Value) (xs : List Int) : Prop := Kd.R d e w base ok v xs ∧ Zt e w v xs.length
section
variable {d : Kd Int} {e : Nat} {w w1 : World} {base : Nat} {ok ok' : Nat → Prop} {v : Value} {xs : List Int}
theorem R_below (h : R d e w base ok v xs) (hb : Below w.heap.size w w1) : R d e w1 base ok v xs := ⟨Kd.R_below h.1 hb, h.2.below hb⟩
theorem R_alloc (h : R d e w base ok v xs) (o : Obj) : R d e (w.alloc o) base ok v xs := R_below h (below_alloc (Below.refl _ _) o)
theorem R_drew (h : R d e w base ok v xs) : R d e w.drew base ok v xs := R_below h (below_drew (Below.refl _ _))
theorem R_drewN (h : R d e w base ok v xs) (m : Nat) : R d e (w.drewN m) base ok v xs := R_below h (pw_below_drewN (Below.refl _ _) m)
theorem R_ne (h : R d e w base ok v xs) {g t : Nat} {cells : Array Value} (hb : w.heap[g]? = some (.cells cells t (0, 0))) (ht : e ≠ t) : some g ≠ v.ownBlock := Kd.R_ne h.1 hb ht
theorem R_slice (h : R d e w base ok v xs) : ∃ A c, v = .slice A xs.length c := Kd.R_slice h.1
theorem R_mono (h : R d e w base ok v xs) (hok : ∀ k, ok k → ok' k) : R d e w base ok' v xs := ⟨Kd.R_mono h.1 hok, h.2⟩
theorem R_tight (hE : d.E = []) (h : R d e w base ok v xs) : R d e w base (fun k => some k = v.ownBlock) v xs := ⟨Kd.R_tight hE h.1, h.2⟩
theorem R_elder' {u : Value} (h : R d e w base ok v xs) (hbase : ∀ k, u.ownBlock = some k → w.heap.size ≤ k) (hb : Below w.heap.size w w1) : R d e w1 base (fun k => ok k ∧ some k ≠ u.ownBlock) v xs := ⟨Kd.R_elder' h.1 hbase hb, h.2.below hb⟩
end
section
variable {P : Program} {ops : Array Oper} {rest : List Oper} {o : Oper} {a : Act} {Q : Exit → Act → World → Prop} {K : Act → World → Prop}
/-- What an append of a read row comes to. -/
theorem rows_run {t ty e : TypeId} {z : Value} {bytes base : Nat} {W : World} (ht : P.underlying t = some (.slice e)) (hinfo : (P.info? e).map (fun i => (i.zero, i.size, i.bytes)) = some (some z, 1, bytes))
    {v : Value} {xs ys : List Int} {A : Option Addr} {m c : Nat} {ok : Nat → Prop} (HO : R (Kd.int .u8) e W base ok v xs) (HR : (Kd.int .u8).C W A m ys) (hl : xs.length + m ≤ 1024) :
    ∃ v1 w1, (Builtin.append_ #[t, t] ty #[v, .slice A m c]).run P W = .ok v1 w1 ∧ R (Kd.int .u8) e w1 base ok v1 (xs ++ ys) ∧ W.grownBy w1 v.ownBlock ∧ v1.ownBlock = v.ownBlock := by
  obtain ⟨i0, hi, hzz⟩ := Option.map_eq_some_iff.1 hinfo
  simp only [Prod.mk.injEq] at hzz
  obtain ⟨hz0, hz1, hz2⟩ := hzz
  obtain ⟨HR0, HZ⟩ := HO
  have hown := Kd.own_of_R HR0
  have hm : ys.length = m := HR.1
  rcases A with _ | ad
  · have h0 : m = 0 := by
      rcases Nat.eq_zero_or_pos m with h0 | h0
      · exact h0
      · obtain ⟨ad, h, _⟩ := HR.2.2 h0
        cases h
    subst h0
    obtain rfl : ys = [] := List.eq_nil_of_length_eq_zero hm
    refine ⟨v, W, ?_, by rw [List.append_nil]; exact ⟨HR0, HZ⟩, World.grownBy.refl W _, rfl⟩
    obtain ⟨g, cur, rfl, hg, hs, hn, hd⟩ := HZ
    simp [Builtin.append_, run_underlying ht, sizeOf, typeInfo, hi, Builtin.lenOf, Builtin.firstCells, hn, storeCells]
  · obtain ⟨news, hnr, hnc⟩ := ReadsRow.inner_ HR
    replace hnr : Reps (fun (x : Int) (cs : List Value) => cs = [Value.int .u8 x]) 1 ys news := hnr
    have hne : news = encs (Value.int .u8) ys := by
      apply List.ext_getElem?
      intro j
      by_cases hj : j < ys.length
      · have := hnr.2 j _ (List.getElem?_eq_getElem hj)
        rw [Nat.mul_one] at this
        have h2 : (news.drop j).take 1 = [Value.int .u8 ys[j]] := this
        have h3 : (news.drop j)[0]? = some (Value.int .u8 ys[j]) := by
          have := congrArg (fun l => l[0]?) h2
          simpa using this
        rw [List.getElem?_drop] at h3
        rw [show j + 0 = j from rfl] at h3
        rw [h3]
        simp [encs, hj]
      · rw [List.getElem?_eq_none (by have := hnr.1; rw [Nat.mul_one] at this; omega), List.getElem?_eq_none (by rw [encs_length]; omega)]
    subst hne
    obtain ⟨v1, w1, hr, h2, hg, hat, hz⟩ := Zt.room (P := P) (ty := ty) ht hi hz1 hown HZ ad m c (encs (Value.int .u8) ys) (by rw [encs_length, hm]) hnc (fun u hu => by
      obtain ⟨x, _, rfl⟩ := List.mem_map.1 hu
      rfl) hl
    refine ⟨v1, w1, hr, ⟨Kd.R_of_own (by rw [List.length_append, hm, encs_append]; exact h2) (fun k hk => HR0.1 k (hat ▸ hk)), by rw [List.length_append, hm]; exact hz⟩, hg, hat⟩
theorem R_append_rows {w0 W : World} (base : Nat) (hgd : o.guard = none) (s x : Operand) (t e : TypeId) (z : Value) (bytes : Nat)
    (ho : o.op = .call { callee := .builtin .append, args := #[s, x], argTypes := #[t, t] })
    (ht : P.underlying t = some (.slice e)) (hinfo : (P.info? e).map (fun i => (i.zero, i.size, i.bytes)) = some (some z, 1, bytes))
    (v : Value) (xs ys : List Int) (A : Option Addr) (m c : Nat) (ok : Nat → Prop) (hs : a.eval s = v) (hx : a.eval x = .slice A m c)
    (HO : R (Kd.int .u8) e W base ok v xs) (HR : (Kd.int .u8).C W A m ys) (HB : Below base w0 W) (hbase : base ≤ W.heap.size) (hl : xs.length + m ≤ 1024)
    (h : ∀ v1 w1, R (Kd.int .u8) e w1 base ok v1 (xs ++ ys) → Below base w0 w1 → W.grownBy w1 v.ownBlock → v1.ownBlock = v.ownBlock → wpList P ops Q rest (a.put o.dst v1) w1) :
    wpList P ops Q (o :: rest) a W := by
  obtain ⟨v1, w1, hr1, h1, hg, hat⟩ := rows_run (P := P) (ty := o.type) (c := c) ht hinfo HO HR hl
  refine wpList_plain hgd fun K hK => ?_
  unfold Oper.wp execOp
  simp only [ho, resolve, invoke, builtin, Sem.run_bind, Sem.run_pure, Result.andThen_ok, List.map_toArray, List.map_cons, List.map_nil, hs, hx, hr1]
  exact hK _ _ (h v1 w1 h1 (HB.grown hg hbase (own_base (Kd.own_of_R HO.1))) hg hat)
theorem R_append_rows_step {w0 W : World} (base : Nat) (hw : Region.wanted o (yielded ops a.tmps) = true) (s x : Operand) (t e : TypeId) (z : Value) (bytes : Nat)
    (ho : o.op = .call { callee := .builtin .append, args := #[s, x], argTypes := #[t, t] })
    (ht : P.underlying t = some (.slice e)) (hinfo : (P.info? e).map (fun i => (i.zero, i.size, i.bytes)) = some (some z, 1, bytes))
    (v : Value) (xs ys : List Int) (A : Option Addr) (m c : Nat) (ok : Nat → Prop) (hs : a.eval s = v) (hx : a.eval x = .slice A m c)
    (HO : R (Kd.int .u8) e W base ok v xs) (HR : (Kd.int .u8).C W A m ys) (HB : Below base w0 W) (hbase : base ≤ W.heap.size) (hl : xs.length + m ≤ 1024)
    (h : ∀ v1 w1, R (Kd.int .u8) e w1 base ok v1 (xs ++ ys) → Below base w0 w1 → W.grownBy w1 v.ownBlock → v1.ownBlock = v.ownBlock → K (a.put o.dst v1) w1) :
    if Region.wanted o (yielded ops a.tmps) = true then Oper.wp P o a W K Q else K (a.put o.dst undef) W := by
  obtain ⟨v1, w1, hr1, h1, hg, hat⟩ := rows_run (P := P) (ty := o.type) (c := c) ht hinfo HO HR hl
  rw [if_pos hw]
  unfold Oper.wp execOp
  simp only [ho, resolve, invoke, builtin, Sem.run_bind, Sem.run_pure, Result.andThen_ok, List.map_toArray, List.map_cons, List.map_nil, hs, hx, hr1]
  exact h v1 w1 h1 (HB.grown hg hbase (own_base (Kd.own_of_R HO.1))) hg hat
/-- append(v, x) of one byte: the goal's world is 'W.alloc' of the variadic's box. -/
theorem R_append {w0 W : World} (base : Nat) (hgd : o.guard = none) (s x : Operand) (t e : TypeId) (z : Value) (bytes : Nat)
    (ho : o.op = .call { callee := .builtin .append, args := #[s, x], argTypes := #[t, t] })
    (ht : P.underlying t = some (.slice e)) (hinfo : (P.info? e).map (fun i => (i.zero, i.size, i.bytes)) = some (some z, 1, bytes))
    (v : Value) (xs : List Int) (p : Int) (ok : Nat → Prop) (hs : a.eval s = v) (hx : a.eval x = .slice (some ⟨W.heap.size, 0, none⟩) 1 1)
    (HO : R (Kd.int .u8) e W base ok v xs) (HB : Below base w0 W) (hbase : base ≤ W.heap.size) (hl : xs.length + 1 ≤ 1024)
    (h : ∀ v1 w1, R (Kd.int .u8) e w1 base ok v1 (xs ++ [p]) → Below base w0 w1 → W.grownBy w1 v.ownBlock → v1.ownBlock = v.ownBlock → wpList P ops Q rest (a.put o.dst v1) w1) :
    wpList P ops Q (o :: rest) a (W.alloc (.cells #[.int .u8 p] e)) := by
  have hc : (Kd.int .u8).C (W.alloc (.cells #[.int .u8 p] e)) (some ⟨W.heap.size, 0, none⟩) 1 [p] := by
    refine ⟨rfl, by omega, fun _ => ⟨_, rfl, fun j q hj => ?_⟩⟩
    cases j with
    | zero =>
      simp only [List.getElem?_cons_zero, Option.some.injEq] at hj
      subst hj
      refine ⟨[.int .u8 p], rfl, rfl, fun i u hu => ?_⟩
      exact World.news_of_block (cs := #[.int .u8 p]) (t := e) (fr := (0, 0)) (heap_alloc_new W (.cells #[.int .u8 p] e)) (0 * 1 + i) u (by simpa using hu)
    | succ j => simp at hj
  refine R_append_rows (w0 := w0) base hgd s x t e z bytes ho ht hinfo v xs [p] _ 1 1 ok hs hx (R_alloc HO _) hc (HB.alloc hbase _) (by simp; omega) hl ?_
  intro v1 w1 h1 hb hg hat
  exact h v1 w1 h1 hb (World.grownBy.trans (World.grownBy_alloc W _ _) hg) hat
/-- make([]byte, 0, 1024). -/
theorem R_make {w0 W : World} (base : Nat) (hgd : o.guard = none) {N : Tmp} (_hd : o.dst = some N) (t e : TypeId) (x y : Operand) (ho : o.op = .makeSlice t x y) (hx : a.eval x = .int .i64 0) (hy : a.eval y = .int .i64 1024)
    (ht : P.underlying t = some (.slice e)) (hinfo : (P.info? e).map (fun i => (i.zero, i.size, i.bytes)) = some (some (.int .u8 0), 1, 1)) {ok : Nat → Prop} (hfresh : ok W.heap.size) (HB : Below base w0 W) (hbase : base ≤ W.heap.size)
    (h : ∀ v1 w1, R (Kd.int .u8) e w1 base ok v1 [] → Below base w0 w1 → W.grownBy w1 none → wpList P ops Q rest (a.put o.dst v1) w1) : wpList P ops Q (o :: rest) a W := by
  obtain ⟨i0, hi, hzz⟩ := Option.map_eq_some_iff.1 hinfo
  simp only [Prod.mk.injEq] at hzz
  obtain ⟨hz0, hz1, hz2⟩ := hzz
  have hr := run_make (P := P) W t e i0 (.int .u8 0) ht hi hz0 .i64 .i64 0 1024 (by omega) (by omega) (by rw [hz2]; omega) (by omega)
  rw [hz1] at hr
  have hs : (madeCells (Value.int .u8 0).cells 1024).size = 1024 := size_madeCells _ _
  have hl : (madeCells (Value.int .u8 0).cells 1024).toList = List.replicate 1024 (Value.int .u8 0) := toList_madeCells_one (Value.int .u8 0) 1024
  refine Kd.event_run hgd (v := .slice (some ⟨W.heap.size, 0, none⟩) 0 1024) (w1 := W.alloc (.cells (madeCells (Value.int .u8 0).cells 1024) e)) ?_ (h _ _ ⟨Kd.R_of_own ?_ (fun k hk => ?_), W.heap.size, _, rfl, heap_alloc_new W _, hs, by show 0 ≤ 1024; omega, ?_⟩ (HB.alloc hbase _) (World.grownBy_alloc W _ none))
  · simp only [execOp, ho]
    simp only [hx, hy]
    have e1 : (1024 : Int).toNat * 1 = 1024 := by decide
    have e2 : (0 : Int).toNat = 0 := by decide
    have e3 : (1024 : Int).toNat = 1024 := by decide
    rw [e1, e2, e3] at hr
    simp [hr]
  · exact World.ownsRow_made W _ 1024 hbase (by unfold maxLen; omega) (by rw [hs])
  · have : W.heap.size = k := by simpa [Value.ownBlock] using hk
    exact this ▸ hfresh
  · rw [hl]
    rfl
/-- The row cut behind its end, within its room: the zeros come with it. -/
theorem R_whole {W : World} {e base : Nat} {ok : Nat → Prop} {A : Option Addr} {c : Nat} {xs : List Int} (h : R (Kd.int .u8) e W base ok (.slice A xs.length c) xs) :
    c = 1024 ∧ Kd.R (Kd.int .u8) e W base ok (.slice A 1024 c) (xs ++ List.replicate (1024 - xs.length) 0) := by
  obtain ⟨HR, g, cur, hv, hg, hs, hn, hd⟩ := h
  cases hv
  have hown := Kd.own_of_R HR
  refine ⟨rfl, Kd.R_of_own ?_ (fun k hk => HR.1 k hk)⟩
  have hlen : (xs ++ List.replicate (1024 - xs.length) (0 : Int)).length = 1024 := by rw [List.length_append, List.length_replicate]; omega
  rw [hlen]
  rcases hown.2 with ⟨h, _⟩ | ⟨g', cap', cur', h, hbg, hg', hnc, hcm, hcs, htake⟩
  · cases h
  · cases h
    rw [hg] at hg'
    injection hg' with hg'
    injection hg' with hg'
    subst hg'
    refine ⟨by rw [encs_length, hlen], .inr ⟨g, 1024, cur, rfl, hbg, hg, by omega, hcm, by rw [hs], ?_⟩⟩
    rw [Nat.mul_one] at htake ⊢
    have hcl : cur.toList.length = 1024 := by rw [Array.length_toList]; exact hs
    rw [List.take_of_length_le (by omega), encs_append, ← htake]
    have e2 : encs (Value.int .u8) (List.replicate (1024 - xs.length) 0) = cur.toList.drop xs.length := by rw [hd]; simp [encs]
    rw [e2, List.take_append_drop]
end
theorem cut_room {P : Program} (t e : TypeId) (kh : IntKind) {i : TypeInfo} (ht : P.underlying t = some (.slice e)) (hi : P.info? e = some i) (A : Option Addr) (n c : Nat) (j : Int) (h0 : 0 ≤ j) (hc : j ≤ c) :
    ∀ W : World, (Instr.slice t (.slice A n c) none (some (.int kh j)) none).run P W = .ok (.slice A j.toNat c) W := by
  intro W
  have hel : P.elem t = e := by simp [Program.elem, ht]
  have hu : P.underlying t = some (.slice (P.elem t)) := by rw [hel]; exact ht
  have ha : (A.map fun x => x.add 0) = A := by cases A <;> simp [Addr.add]
  rw [run_slice_h W t A n c hu kh j h0 (by omega), hel]
  simp [sizeOf, typeInfo, hi, sliced, Result.andThen, ha]
end Bd
end Go.Proofs.YtmkcmfamdnjmdaaW.PrintWords
