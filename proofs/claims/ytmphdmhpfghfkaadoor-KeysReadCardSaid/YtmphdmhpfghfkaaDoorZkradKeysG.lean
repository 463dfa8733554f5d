import Derived.Test.YtmphdmhpfghfkaaDoorZkradKeysE
set_option linter.unusedSimpArgs false
set_option linter.unusedVariables false
namespace Go.Proofs.YtmphdmhpfghfkaaDoor.Pl
open Go.RowKit Go.Proofs.YtmphdmhpfghfkaaDoorW.PrintWords Go.Proofs.YtmphdmhpfghfkaaDoorW.PrintMore Go.Proofs.YtmphdmhpfghfkaaDoor.PK
theorem emp60 : (⟨#[]⟩ : ByteArray).size ≤ 60 := by decide
theorem next_end {s : List Int} {p : Nat} {b : Bool} (h : s.drop p = []) (hp : p ≤ s.length) : keys_reader_next.f s (p : Int) b = some (0, (p : Int), true) := by
  have := congrArg List.length h
  rw [List.length_drop, List.length_nil] at this
  unfold keys_reader_next.f
  rw [if_pos (by omega)]
theorem text_stop {s : List Int} {acc : List Int} {p : Int} : Ev (fun k => keys_reader_text.l0 k acc s p true) ((⟨#[]⟩ : ByteArray), p, true) := by
  refine ev_succ ?_
  simp only [keys_reader_text.l0]
  exact ev_pos trivial (ev_some rfl)
/-- What is told of the program's reading of a text at p: just where there is one of at most 60 bytes it is read; else none is, and the place lies on. -/
def TTold (s : List Int) (o : Option (List Int × List Int)) (p : Nat) (R : ByteArray × Int × Bool) : Prop :=
  (∃ p' : Nat, R.2.1 = (p' : Int) ∧ p ≤ p' ∧ p' ≤ s.length ∧ (R.2.2 = false → ∃ t r, o = some (t, r) ∧ t.length ≤ 60 ∧ R.1 = strOfNums t ∧ r = s.drop p')) ∧
    (∀ t r, o = some (t, r) → t.length ≤ 60 → R.2.2 = false) ∧ R.1.size ≤ 60
theorem ttext_loop {s : List Int} (hl : Fit s) : ∀ (n p : Nat) (acc : List Int), s.length - p ≤ n → p ≤ s.length → acc.length ≤ 60 →
    ∃ R, Ev (fun k => keys_reader_text.l0 k acc s (p : Int) false) R ∧ TTold s (getT (s.drop p) acc) p R := by
  intro n
  induction n with
  | zero =>
    intro p acc hn hp ha
    have e : s.drop p = [] := List.drop_eq_nil_of_le (by omega)
    refine ⟨(strOfNums acc, (p : Int), true), ev_succ ?_, ⟨p, rfl, Nat.le_refl _, hp, fun h => by simp at h⟩, fun t r h => by rw [e] at h; simp [getT] at h, by simpa [strOf_size] using ha⟩
    simp only [keys_reader_text.l0]
    refine ev_neg (by simp) (ev_bind0 (next_end e hp) (ev_pos rfl (ev_bind0 (next_end e hp) (ev_pos rfl (ev_some rfl)))))
  | succ n ih =>
    intro p acc hn hp ha
    have more : ∀ (c : Int) (p' : Nat), p < p' → p' ≤ s.length → ∃ R, Ev (fun k => if (acc ++ [c]).length = 0 then none else keys_reader_text.l0 k (acc ++ [c]) s (p' : Int) (decide (((acc ++ [c]).length : Int) > 60))) R ∧ TTold s (getT (s.drop p') (acc ++ [c])) p R := by
      intro c p' h1 h2
      by_cases h : (acc ++ [c]).length ≤ 60
      · obtain ⟨R, hR, ⟨p2, a1, a2, a3, a4⟩, a5, a6⟩ := ih p' (acc ++ [c]) (by omega) h2 h
        refine ⟨R, ev_neg (by simp) ?_, ⟨p2, a1, by omega, a3, a4⟩, a5, a6⟩
        rw [decide_eq_false (by omega)]
        exact hR
      · refine ⟨((⟨#[]⟩ : ByteArray), (p' : Int), true), ev_neg (by simp) ?_, ⟨p', rfl, by omega, h2, fun h => by simp at h⟩, fun t r ht hs => ?_, emp60⟩
        · rw [decide_eq_true (by omega)]
          exact text_stop
        · obtain ⟨_, _, _, h3, _⟩ := getT_end _ _ _ _ ht
          omega
    have strip : ∀ (c : Int) (p' : Nat) R, Ev (fun k => if (acc ++ [c]).length = 0 then none else keys_reader_text.l0 k (acc ++ [c]) s (p' : Int) (decide (((acc ++ [c]).length : Int) > 60))) R → Ev (fun k => keys_reader_text.l0 k (acc ++ [c]) s (p' : Int) (decide (((acc ++ [c]).length : Int) > 60))) R := by
      intro c p' R h
      have : ¬ (acc ++ [c]).length = 0 := by simp
      simpa [this] using h
    cases hd : s.drop p with
    | nil =>
      refine ⟨(strOfNums acc, (p : Int), true), ev_succ ?_, ⟨p, rfl, Nat.le_refl _, hp, fun h => by simp at h⟩, fun t r h => by simp [getT] at h, by simpa [strOf_size] using ha⟩
      simp only [keys_reader_text.l0]
      refine ev_neg (by simp) (ev_bind0 (next_end hd hp) (ev_pos rfl (ev_bind0 (next_end hd hp) (ev_pos rfl (ev_some rfl)))))
    | cons c q =>
      have hlt := drop_lt hd
      have h1 := drop_step hd
      have n1 := next_ev (b := false) hd hl
      by_cases c0 : c = 0
      · subst c0
        cases q with
        | nil =>
          refine ⟨(strOfNums acc, ((p + 1 : Nat) : Int), true), ev_succ ?_, ⟨p + 1, rfl, by omega, by omega, fun h => by simp at h⟩, fun t r h => by simp [getT] at h, by simpa [strOf_size] using ha⟩
          simp only [keys_reader_text.l0]
          refine ev_neg (by simp) (ev_bind0 n1 (ev_pos rfl (ev_bind0 (next_end h1 (by omega)) (ev_pos rfl (ev_some rfl)))))
        | cons d q =>
          have hlt1 := drop_lt h1
          have h2 := drop_step h1
          have n2 := next_ev (b := false) h1 hl
          by_cases d0 : d = 0
          · subst d0
            refine ⟨(strOfNums acc, ((p + 1 + 1 : Nat) : Int), false), ev_succ ?_, ⟨p + 1 + 1, rfl, by omega, by omega, fun _ => ⟨acc, q, by simp [getT], ha, rfl, h2.symm⟩⟩, fun _ _ _ _ => rfl, by simpa [strOf_size] using ha⟩
            simp only [keys_reader_text.l0]
            refine ev_neg (by simp) (ev_bind0 n1 (ev_pos rfl (ev_bind0 n2 (ev_pos rfl (ev_some rfl)))))
          · by_cases d1 : d = 255
            · subst d1
              obtain ⟨R, hR, T⟩ := more 0 (p + 1 + 1) (by omega) (by omega)
              rw [h2] at T
              refine ⟨R, ev_succ ?_, by rw [getT, if_pos rfl, if_neg d0, if_pos rfl]; exact T⟩
              simp only [keys_reader_text.l0]
              refine ev_neg (by simp) (ev_bind0 n1 (ev_pos rfl (ev_bind0 n2 (ev_neg (by simp) (ev_pos rfl (ev_pos (by omega) (ev_let (ev_neg (by simp) (strip 0 _ _ hR)))))))))
            · refine ⟨((⟨#[]⟩ : ByteArray), ((p + 1 + 1 : Nat) : Int), true), ev_succ ?_, ⟨p + 1 + 1, rfl, by omega, by omega, fun h => by simp at h⟩, fun t r h => by rw [getT, if_pos rfl, if_neg d0, if_neg d1] at h; simp at h, emp60⟩
              simp only [keys_reader_text.l0]
              refine ev_neg (by simp) (ev_bind0 n1 (ev_pos rfl (ev_bind0 n2 (ev_neg d0 (ev_neg d1 (ev_pos (by omega) text_stop))))))
      · obtain ⟨R, hR, T⟩ := more c (p + 1) (by omega) (by omega)
        have eg : getT (c :: q) acc = match q with | [] => none | d :: q' => getT (d :: q') (acc ++ [c]) := by
          cases q with
          | nil => rfl
          | cons d q' => rw [getT, if_neg c0]
        have eT : TTold s (getT (c :: q) acc) p R := by
          rw [eg]
          rw [h1] at T
          cases q with
          | nil => simpa [getT] using T
          | cons d q' => exact T
        refine ⟨R, ev_succ ?_, eT⟩
        simp only [keys_reader_text.l0]
        refine ev_neg (by simp) (ev_bind0 n1 (ev_neg c0 (ev_pos (by omega) (ev_let (ev_neg (by simp) (strip c _ _ hR))))))
theorem ttext_ev {s : List Int} (hl : Fit s) {p : Nat} (hp : p ≤ s.length) : ∃ R, Ev (fun k => keys_reader_text.f k s (p : Int) false) R ∧ TTold s (getT (s.drop p) []) p R := by
  unfold keys_reader_text.f
  exact ttext_loop hl (s.length - p) p [] (Nat.le_refl _) hp (by simp)
/-- Eight bytes, or fewer and then zeros: the place lies on. -/
theorem next_any {s : List Int} (hl : Fit s) (hb : Bytes s) {p : Nat} {b : Bool} (hp : p ≤ s.length) : ∃ (c : Int) (p' : Nat) (b' : Bool), keys_reader_next.f s (p : Int) b = some (c, (p' : Int), b') ∧ p ≤ p' ∧ p' ≤ s.length ∧ Byte c ∧ (b = true → b' = true) ∧ (s.drop p = [] → b' = true) := by
  cases hd : s.drop p with
  | nil => exact ⟨0, p, true, next_end hd hp, Nat.le_refl _, hp, by unfold Byte; omega, fun _ => rfl, fun _ => rfl⟩
  | cons c q =>
    have hlt := drop_lt hd
    have hc : c ∈ s := List.mem_of_mem_drop (by rw [hd]; simp)
    exact ⟨c, p + 1, b, next_ev hd hl, by omega, by omega, hb c hc, fun h => h, fun h => by simp at h⟩
theorem eight_any {s : List Int} (hl : Fit s) (hb : Bytes s) : ∀ (m : Nat) (acc : List Int) (p : Nat) (b : Bool), p ≤ s.length → Bytes acc →
    ∃ (x : List Int) (p' : Nat) (b' : Bool), keys_eight.n m acc s (p : Int) b = some (x, (p' : Int), b') ∧ x.length = acc.length + m ∧ Bytes x ∧ p ≤ p' ∧ p' ≤ s.length ∧ (b = true → b' = true) ∧ (s.length < p + m → b' = true)
  | 0, acc, p, b, hp, ha => ⟨acc, p, b, rfl, rfl, ha, Nat.le_refl _, hp, fun h => h, fun h => by omega⟩
  | m + 1, acc, p, b, hp, ha => by
    obtain ⟨c, p1, b1, h1, l1, g1, hc, t1, e1⟩ := next_any (b := b) hl hb hp
    obtain ⟨x, p2, b2, h2, hx, hbx, l2, g2, t2, e2⟩ := eight_any hl hb m (acc ++ [c]) p1 b1 g1 (ha.append (Bytes.cons hc Bytes.nil))
    refine ⟨x, p2, b2, by rw [keys_eight.n, h1, Option.bind_some]; exact h2, by rw [hx, List.length_append, List.length_singleton]; omega, hbx, by omega, g2, fun h => t2 (t1 h), fun h => ?_⟩
    by_cases hd : s.drop p = []
    · exact t2 (e1 hd)
    · obtain ⟨c', q, hq⟩ : ∃ c' q, s.drop p = c' :: q := by
        cases hh : s.drop p with
        | nil => exact absurd hh hd
        | cons c' q => exact ⟨c', q, rfl⟩
      have := next_ev (b := b) hq hl
      rw [h1] at this
      simp only [Option.some.injEq, Prod.mk.injEq] at this
      exact e2 (by omega)
theorem eight_told {s : List Int} (hl : Fit s) (hb : Bytes s) {p : Nat} {b : Bool} (hp : p ≤ s.length) : ∃ (x : Int) (p' : Nat) (b' : Bool), Ev (fun k => keys_eight.f k s (p : Int) b) (x, (p' : Int), b') ∧ 0 ≤ x ∧ x < 18446744073709551616 ∧ p ≤ p' ∧ p' ≤ s.length ∧ (b = true → b' = true) ∧ (s.length < p + 8 → b' = true) ∧
    (p + 8 ≤ s.length → x = num ((s.drop p).take 8) ∧ p' = p + 8 ∧ b' = b) := by
  obtain ⟨x, p', b', h1, hx, hbx, l1, g1, t1, e1⟩ := eight_any hl hb 8 [] p b hp Bytes.nil
  have hk := kget64_ev x (by simpa using hx) hbx
  have hn := num_bound hbx
  rw [hx] at hn
  refine ⟨num x, p', b', ?_, hn.1, by have := hn.2; simp at this; omega, l1, g1, t1, e1, fun h8 => ?_⟩
  · unfold keys_eight.f
    exact ev_bind0 h1 (ev_bind hk (ev_some rfl))
  · have := eight_n hl b ((s.drop p).take 8) [] p ((s.drop p).drop 8) (List.take_append_drop 8 _).symm
    have l8 : ((s.drop p).take 8).length = 8 := by rw [List.length_take, List.length_drop]; omega
    rw [l8, h1] at this
    simp only [Option.some.injEq, Prod.mk.injEq, List.nil_append] at this
    exact ⟨by rw [this.1], by omega, this.2.2⟩
theorem num_turn (x : Int) (h0 : 0 ≤ x) (h1 : x < 18446744073709551616) : wrap64 (Go.bits .xor .u64 x 9223372036854775808) = wrap64 (IntKind.u64.wrap (x - 9223372036854775808)) := by
  rw [u64_top x h0 h1, IntKind.wrap_u64]
  congr 1
  omega
abbrev PR := Int × Int × ByteArray × List ByteArray × List V × Int × Bool
def PR.v (R : PR) : V := ⟨R.1, R.2.1, R.2.2.1, R.2.2.2.1, R.2.2.2.2.1⟩
/-- What is told of the program's reading of a value (or the rest of its members) at p, of which o is told plainly. -/
structure PTold (s : List Int) (d : Nat) (o : Option (V × List Int)) (p : Nat) (R : PR) : Prop where
  place : ∃ p' : Nat, R.2.2.2.2.2.1 = (p' : Int) ∧ p ≤ p' ∧ p' ≤ s.length ∧ (R.2.2.2.2.2.2 = false → fm d R.v = true → o = some (R.v, s.drop p'))
  all : ∀ v r, o = some (v, r) → fm d v = true → R.2.2.2.2.2.2 = false ∧ R.v = v
  fine : FineN (d + 1) R.v
theorem wf_range {x : Int} (h0 : -9223372036854775808 ≤ x) (h1 : x < 9223372036854775808) : (Lit.int .i64 x).wf = true := by
  simp [Lit.wf, IntKind.min, IntKind.max, IntKind.signed, IntKind.bits]
  omega
theorem wf0 : (Lit.int .i64 0).wf = true := by decide
theorem wf_wrap64 (x : Int) : (Lit.int .i64 (wrap64 x)).wf = true := by
  apply wf_range <;> (unfold wrap64; omega)
theorem names_small {v : V} (h : shallow v = true) : ∀ x ∈ v.f3, x.size ≤ 60 := by
  intro x hx
  obtain ⟨i, hi, rfl⟩ := List.getElem_of_mem hx
  have := shallow_names h i hi
  unfold rdOf at this
  rw [Int.toNat_natCast, List.getD_eq_getElem?_getD, List.getElem?_eq_getElem hi] at this
  exact this
theorem fine_leafV {d : Nat} {k n : Int} {t : ByteArray} (hk : (Lit.int .i64 k).wf = true) (hn : (Lit.int .i64 n).wf = true) (ht : t.size ≤ 60) : FineN (d + 1) ⟨k, n, t, [], []⟩ :=
  ⟨hk, hn, by show t.size ≤ maxLen; unfold maxLen; omega, by simp [maxLen], fun x hx => by simp at hx, by simp [maxLen], fun x hx => by simp at hx⟩
/-- What stands while members are read. -/
structure Mid (d : Nat) (ns : List ByteArray) (xs : List V) : Prop where
  names : ∀ x ∈ ns, x.size ≤ 60
  vals : ∀ x ∈ xs, FineN d x
  few : ns.length ≤ xs.length + 1
theorem Mid.fine {d : Nat} {k : Int} {ns : List ByteArray} {xs : List V} (h : Mid d ns xs) (hk : (Lit.int .i64 k).wf = true) (hl : xs.length ≤ 25) : FineN (d + 1) ⟨k, 0, (⟨#[]⟩ : ByteArray), ns, xs⟩ :=
  ⟨hk, wf_range (x := 0) (by omega) (by omega), Nat.zero_le _, by have := h.few; show ns.length ≤ maxLen; unfold maxLen; omega, fun x hx => by have := h.names x hx; unfold maxLen; omega, by show xs.length ≤ maxLen; unfold maxLen; omega, h.vals⟩
theorem mem_stop {s : List Int} {d p kd : Int} {ns : List ByteArray} {xs : List V} : Ev (fun k => keys_reader_value.l0 k d s p true kd 0 (⟨#[]⟩ : ByteArray) ns xs) (kd, 0, (⟨#[]⟩ : ByteArray), ns, xs, p, true) := by
  refine ev_succ ?_
  simp only [keys_reader_value.l0]
  refine ev_pos trivial (ev_succ ?_)
  simp only [keys_reader_value.j4]
  exact ev_neg (by simp) (ev_some rfl)
theorem told_no {s : List Int} {d : Nat} {o : Option (V × List Int)} {p p' : Nat} {v : V} (h : ∀ w r, o = some (w, r) → fm d w = true → False) (h1 : p ≤ p') (h2 : p' ≤ s.length) (hf : FineN (d + 1) v) : PTold s d o p (v.f0, v.f1, v.f2, v.f3, v.f4, (p' : Int), true) :=
  ⟨⟨p', rfl, h1, h2, fun h => by simp at h⟩, fun w r e f => (h w r e f).elim, by obtain ⟨a, b, c, e, g⟩ := v; exact hf⟩
/-- One value, and the members behind it. -/
theorem pstep {s : List Int} (d : Nat) (kd : Int) (hk : (Lit.int .i64 kd).wf = true)
    (ih : ∀ p : Nat, p ≤ s.length → ∃ R : PR, Ev (fun k => keys_reader_value.f k s (p : Int) false (d : Int)) R ∧ PTold s d (readV d (s.drop p)) p R) (n : Nat)
    (jh : ∀ (p : Nat) (ns : List ByteArray) (xs : List V), p ≤ s.length → xs.length + n = 25 → Mid (d + 1) ns xs → ns.length ≤ xs.length → ∃ R : PR, Ev (fun k => keys_reader_value.l0 k ((d + 1 : Nat) : Int) s (p : Int) false kd 0 (⟨#[]⟩ : ByteArray) ns xs) R ∧
      PTold s (d + 1) (memV (readV d) kd n (s.drop p) ns xs) p R ∧ (∃ a, R.v.f3 = ns ++ a) ∧ ∃ b, R.v.f4 = xs ++ b)
    (p : Nat) (ns : List ByteArray) (xs : List V) (hp : p ≤ s.length) (hx : xs.length + (n + 1) = 25) (hm : Mid (d + 1) ns xs) :
    ∃ R : PR, Ev (fun k => (keys_reader_value.f k s (p : Int) false (d : Int)).bind fun bt => (if xs.length < 1759218604441 then (keys_reader_value.l0 k ((d + 1 : Nat) : Int) s bt.2.2.2.2.2.1 bt.2.2.2.2.2.2 kd 0 (⟨#[]⟩ : ByteArray) ns (xs ++ [(⟨bt.1, bt.2.1, bt.2.2.1, bt.2.2.2.1, bt.2.2.2.2.1⟩ : V)])) else (none))) R ∧
      PTold s (d + 1) ((readV d (s.drop p)).bind fun vr => memV (readV d) kd n vr.2 ns (xs ++ [vr.1])) p R ∧ (∃ a, R.v.f3 = ns ++ a) ∧ ∃ b, R.v.f4 = xs ++ b := by
  obtain ⟨VR, hV, ⟨p2, e2, l2, g2, place2⟩, all2, fine2⟩ := ih p hp
  have mid2 : Mid (d + 1) ns (xs ++ [VR.v]) := ⟨hm.names, fun x hx => by
    rcases List.mem_append.1 hx with h | h
    · exact hm.vals x h
    · rw [List.mem_singleton.1 h]
      exact fine2, by have := hm.few; rw [List.length_append, List.length_singleton]; omega⟩
  have last : ∀ (v : V) b, v.f4 = xs ++ [VR.v] ++ b → VR.v ∈ v.f4 := fun v b h => by rw [h]; simp
  by_cases hno : VR.2.2.2.2.2.2 = true
  · refine ⟨(kd, 0, (⟨#[]⟩ : ByteArray), ns, xs ++ [VR.v], (p2 : Int), true), ev_bind hV (ev_pos (by omega) ?_), told_no (v := ⟨kd, 0, (⟨#[]⟩ : ByteArray), ns, xs ++ [VR.v]⟩) (fun w r e f => ?_) l2 g2 (mid2.fine hk (by simp <;> omega)), ⟨[], by simp [PR.v]⟩, [VR.v], rfl⟩
    · rw [hno, e2]
      exact mem_stop
    · obtain ⟨⟨v1, r1⟩, h1, h2⟩ := Option.bind_eq_some_iff.1 e
      obtain ⟨_, _, _, _, b, hb⟩ := memV_pre n _ _ _ w r h2
      have := (fm_succ f).2 v1 (by rw [hb]; simp)
      have := (all2 v1 r1 h1 this).1
      rw [hno] at this
      exact absurd this (by simp)
  · simp only [Bool.not_eq_true] at hno
    obtain ⟨R, hR, ⟨⟨p3, e3, l3, g3, place3⟩, all3, fine3⟩, ⟨a, ha⟩, b, hb⟩ := jh p2 ns (xs ++ [VR.v]) g2 (by simp <;> omega) mid2 (by have := hm.few; rw [List.length_append, List.length_singleton]; omega)
    refine ⟨R, ev_bind hV (ev_pos (by omega) ?_), ⟨⟨p3, e3, by omega, g3, fun h f => ?_⟩, fun v r e f => ?_, fine3⟩, ⟨a, ha⟩, [VR.v] ++ b, by rw [hb, List.append_assoc]⟩
    · rw [hno, e2]
      exact hR
    · have fv := (fm_succ f).2 VR.v (last _ b hb)
      rw [place2 hno fv, Option.bind_some]
      exact place3 h f
    · obtain ⟨⟨v1, r1⟩, h1, h2⟩ := Option.bind_eq_some_iff.1 e
      obtain ⟨_, _, _, _, b', hb'⟩ := memV_pre n _ _ _ v r h2
      have f1 := (fm_succ f).2 v1 (by rw [hb']; simp)
      have ev := (all2 v1 r1 h1 f1).2
      have pl := place2 hno (by rw [ev]; exact f1)
      rw [h1] at pl
      simp only [Option.some.injEq, Prod.mk.injEq] at pl
      simp only at h2
      rw [pl.2, ← ev] at h2
      exact all3 v r h2 f
theorem pmem {s : List Int} (hl : Fit s) (hb : Bytes s) (d : Nat) (hd : d ≤ 6) (kd : Int) (hk : (Lit.int .i64 kd).wf = true)
    (ih : ∀ p : Nat, p ≤ s.length → ∃ R : PR, Ev (fun k => keys_reader_value.f k s (p : Int) false (d : Int)) R ∧ PTold s d (readV d (s.drop p)) p R) : ∀ (n : Nat) (p : Nat) (ns : List ByteArray) (xs : List V), p ≤ s.length → xs.length + n = 25 → Mid (d + 1) ns xs → ns.length ≤ xs.length →
    ∃ R : PR, Ev (fun k => keys_reader_value.l0 k ((d + 1 : Nat) : Int) s (p : Int) false kd 0 (⟨#[]⟩ : ByteArray) ns xs) R ∧
      PTold s (d + 1) (memV (readV d) kd n (s.drop p) ns xs) p R ∧ (∃ a, R.v.f3 = ns ++ a) ∧ ∃ b, R.v.f4 = xs ++ b := by
  have dd := depth_down hd
  intro n
  induction n with
  | zero =>
    intro p ns xs hp hx hm hnx
    have q1 : decide ((xs.length : Int) ≤ 24) = false := decide_eq_false (by omega)
    refine ⟨(kd, 0, (⟨#[]⟩ : ByteArray), ns, xs, (p : Int), false), ev_succ ?_, ⟨⟨p, rfl, Nat.le_refl _, hp, fun _ f => ?_⟩, fun v r e => by simp [memV] at e, hm.fine hk (by omega)⟩, ⟨[], by simp [PR.v]⟩, [], by simp [PR.v]⟩
    · simp only [keys_reader_value.l0]
      rw [q1]
      refine ev_neg (by simp) (ev_succ ?_)
      simp only [keys_reader_value.j4]
      exact ev_neg (by simp) (ev_some rfl)
    · have := (shallow_len (fm_succ f).1).1
      have e : PR.v (kd, 0, (⟨#[]⟩ : ByteArray), ns, xs, (p : Int), false) = ⟨kd, 0, (⟨#[]⟩ : ByteArray), ns, xs⟩ := rfl
      rw [e] at this
      simp only at this
      omega
  | succ n jh =>
    intro p ns xs hp hx hm hnx
    have q1 : decide ((xs.length : Int) ≤ 24) = true := decide_eq_true (by omega)
    have start : ∀ R : PR, Ev (fun k => keys_reader_value.j4 k ((d + 1 : Nat) : Int) true s (p : Int) false kd 0 (⟨#[]⟩ : ByteArray) ns xs) R → Ev (fun k => keys_reader_value.l0 k ((d + 1 : Nat) : Int) s (p : Int) false kd 0 (⟨#[]⟩ : ByteArray) ns xs) R := by
      intro R h
      refine ev_succ ?_
      simp only [keys_reader_value.l0]
      rw [q1]
      exact ev_neg (by simp) h
    have fin0 := hm.fine (k := kd) hk (by omega)
    cases hd' : s.drop p with
    | nil =>
      refine ⟨(kd, 0, (⟨#[]⟩ : ByteArray), ns, xs, (p : Int), true), start _ (ev_succ ?_), told_no (v := ⟨kd, 0, (⟨#[]⟩ : ByteArray), ns, xs⟩) (fun w r e => by simp [memV] at e) (Nat.le_refl _) hp fin0, ⟨[], by simp [PR.v]⟩, [], by simp [PR.v]⟩
      simp only [keys_reader_value.j4]
      exact ev_pos trivial (ev_bind0 (next_end hd' hp) (ev_pos rfl (ev_some rfl)))
    | cons c q =>
      have hlt := drop_lt hd'
      have h1 := drop_step hd'
      have n1 := next_ev (b := false) hd' hl
      have hc : Byte c := hb c (List.mem_of_mem_drop (by rw [hd']; simp))
      by_cases c0 : c = 0
      · subst c0
        have em : memV (readV d) kd (n + 1) (0 :: q) ns xs = some (⟨kd, 0, (⟨#[]⟩ : ByteArray), ns, xs⟩, q) := by simp [memV]
        refine ⟨(kd, 0, (⟨#[]⟩ : ByteArray), ns, xs, ((p + 1 : Nat) : Int), false), start _ (ev_succ ?_), ⟨⟨p + 1, rfl, by omega, by omega, fun _ _ => by rw [em, h1]; rfl⟩, fun v r e _ => ?_, fin0⟩, ⟨[], by simp [PR.v]⟩, [], by simp [PR.v]⟩
        · simp only [keys_reader_value.j4]
          exact ev_pos trivial (ev_bind0 n1 (ev_pos rfl (ev_some rfl)))
        · rw [em] at e
          simp only [Option.some.injEq, Prod.mk.injEq] at e
          exact ⟨rfl, e.1⟩
      · by_cases k6 : kd = 6
        · have j5 : ∀ (b : Bool) (R : PR), b = (c != 1) → Ev (fun k => keys_reader_value.j5 k ((d + 1 : Nat) : Int) s ((p + 1 : Nat) : Int) b kd 0 (⟨#[]⟩ : ByteArray) ns xs) R → Ev (fun k => keys_reader_value.l0 k ((d + 1 : Nat) : Int) s (p : Int) false kd 0 (⟨#[]⟩ : ByteArray) ns xs) R := by
            intro b R eb h
            refine start _ (ev_succ ?_)
            simp only [keys_reader_value.j4]
            refine ev_pos trivial (ev_bind0 n1 (ev_neg c0 (ev_pos k6 (ev_neg (by simp) ?_))))
            rw [← eb]
            exact h
          by_cases c1 : c = 1
          · subst c1
            have em : memV (readV d) kd (n + 1) (1 :: q) ns xs = (getT q []).bind fun tr => (readV d tr.2).bind fun vr => memV (readV d) kd n vr.2 (ns ++ [strOfNums tr.1]) (xs ++ [vr.1]) := by simp [memV, k6]
            obtain ⟨TR, hT, ⟨p1, e1, l1, g1, t1⟩, t2, t3⟩ := ttext_ev hl (p := p + 1) (by omega)
            rw [h1] at t1 t2
            have mid1 : Mid (d + 1) (ns ++ [TR.1]) xs := ⟨fun x hx => by
              rcases List.mem_append.1 hx with h | h
              · exact hm.names x h
              · rw [List.mem_singleton.1 h]
                exact t3, hm.vals, by rw [List.length_append, List.length_singleton]; omega⟩
            by_cases hno : TR.2.2 = true
            · refine ⟨(kd, 0, (⟨#[]⟩ : ByteArray), ns ++ [TR.1], xs, (p1 : Int), true), j5 false _ (by simp) (ev_succ ?_), told_no (v := ⟨kd, 0, (⟨#[]⟩ : ByteArray), ns ++ [TR.1], xs⟩) (fun w r e f => ?_) (by omega) g1 (mid1.fine hk (by omega)), ⟨[TR.1], rfl⟩, [], by simp [PR.v]⟩
              · simp only [keys_reader_value.j5]
                refine ev_bind hT (ev_pos (by omega) (ev_let (ev_pos hno ?_)))
                rw [hno, e1]
                exact mem_stop
              · rw [em] at e
                obtain ⟨⟨t, r1⟩, hG, e⟩ := Option.bind_eq_some_iff.1 e
                obtain ⟨⟨v1, r2⟩, _, e⟩ := Option.bind_eq_some_iff.1 e
                obtain ⟨_, _, _, ⟨a, ha⟩, _⟩ := memV_pre n _ _ _ w r e
                have := names_small (fm_succ f).1 (strOfNums t) (by rw [ha]; simp)
                rw [strOf_size] at this
                have := t2 t r1 hG this
                rw [hno] at this
                exact absurd this (by simp)
            · simp only [Bool.not_eq_true] at hno
              obtain ⟨t, r1, hG, ht, et, er⟩ := t1 hno
              obtain ⟨R, hR, T, ⟨a, ha⟩, b, hb'⟩ := pstep d kd hk ih n jh p1 (ns ++ [TR.1]) xs g1 hx mid1
              refine ⟨R, j5 false _ (by simp) (ev_succ ?_), ?_, ⟨[TR.1] ++ a, by rw [ha, List.append_assoc]⟩, b, hb'⟩
              · simp only [keys_reader_value.j5]
                refine ev_bind hT (ev_pos (by omega) (ev_let (ev_neg (by rw [hno]; simp) ?_)))
                rw [hno, e1, dd]
                exact hR
              · rw [em, hG, Option.bind_some]
                simp only
                rw [er, ← et]
                obtain ⟨⟨p3, e3, l3, g3, place3⟩, all3, fine3⟩ := T
                exact ⟨⟨p3, e3, by omega, g3, place3⟩, all3, fine3⟩
          · have em : memV (readV d) kd (n + 1) (c :: q) ns xs = none := by simp [memV, c0, k6, c1]
            have midE : Mid (d + 1) (ns ++ [(⟨#[]⟩ : ByteArray)]) xs := ⟨fun x hx => by
              rcases List.mem_append.1 hx with h | h
              · exact hm.names x h
              · rw [List.mem_singleton.1 h]
                exact emp60, hm.vals, by rw [List.length_append, List.length_singleton]; omega⟩
            refine ⟨(kd, 0, (⟨#[]⟩ : ByteArray), ns ++ [(⟨#[]⟩ : ByteArray)], xs, ((p + 1 : Nat) : Int), true), j5 true _ (by simp [c1]) (ev_succ ?_), told_no (v := ⟨kd, 0, (⟨#[]⟩ : ByteArray), ns ++ [(⟨#[]⟩ : ByteArray)], xs⟩) (fun w r e => by rw [em] at e; simp at e) (by omega) (by omega) (midE.fine hk (by omega)), ⟨_, rfl⟩, [], by simp [PR.v]⟩
            simp only [keys_reader_value.j5]
            have ht : Ev (fun k => keys_reader_text.f k s ((p + 1 : Nat) : Int) true) ((⟨#[]⟩ : ByteArray), ((p + 1 : Nat) : Int), true) := by
              unfold keys_reader_text.f
              exact text_stop
            exact ev_bind ht (ev_pos (by omega) (ev_let (ev_pos rfl mem_stop)))
        · have em : memV (readV d) kd (n + 1) (c :: q) ns xs = (readV d (s.drop p)).bind fun vr => memV (readV d) kd n vr.2 ns (xs ++ [vr.1]) := by rw [hd']; simp [memV, c0, k6]
          obtain ⟨R, hR, T, hpre⟩ := pstep d kd hk ih n jh p ns xs hp hx hm
          have eback : wrap64 (((p + 1 : Nat) : Int) - 1) = (p : Int) := by unfold Fit at hl; rw [wrap64_id (by omega) (by omega)]; omega
          refine ⟨R, start _ (ev_succ ?_), by rw [em]; exact T, hpre⟩
          simp only [keys_reader_value.j4]
          refine ev_pos trivial (ev_bind0 n1 (ev_neg c0 (ev_neg k6 (ev_neg (by simp) ?_))))
          simp only [eback, dd]
          exact hR
/-- What follows where there is none: the place lies on. -/
theorem pbad {s : List Int} (hl : Fit s) (hb : Bytes s) (d kd : Int) (p : Nat) (hk : (Lit.int .i64 kd).wf = true) (hp : p ≤ s.length) : ∃ (v : V) (p' : Nat), Ev (fun k => keys_reader_value.j0 k d true s (p : Int) false kd 0 (⟨#[]⟩ : ByteArray)) (v.f0, v.f1, v.f2, v.f3, v.f4, (p' : Int), true) ∧ p ≤ p' ∧ p' ≤ s.length ∧ ∀ n, FineN (n + 1) v := by
  have start : ∀ R, Ev (fun k => keys_reader_value.j1 k d s (p : Int) true kd 0 (⟨#[]⟩ : ByteArray)) R → Ev (fun k => keys_reader_value.j0 k d true s (p : Int) false kd 0 (⟨#[]⟩ : ByteArray)) R := by
    intro R h
    refine ev_succ ?_
    simp only [keys_reader_value.j0]
    exact ev_pos trivial h
  by_cases k3 : kd = 3
  · obtain ⟨x, p', b', hx, x0, x1, l1, g1, t1, _⟩ := eight_told (b := true) hl hb hp
    refine ⟨⟨kd, wrap64 (Go.bits .xor .u64 x 9223372036854775808), (⟨#[]⟩ : ByteArray), [], []⟩, p', start _ (ev_succ ?_), l1, g1, fun n => fine_leafV hk (wf_wrap64 _) emp60⟩
    simp only [keys_reader_value.j1]
    refine ev_pos k3 (ev_bind hx (ev_some ?_))
    rw [t1 rfl]
  · by_cases k4 : kd = 4
    · refine ⟨⟨kd, 0, (⟨#[]⟩ : ByteArray), [], []⟩, p, start _ (ev_succ ?_), Nat.le_refl _, hp, fun n => fine_leafV hk (wf_range (by omega) (by omega)) emp60⟩
      simp only [keys_reader_value.j1]
      have ht : Ev (fun k => keys_reader_text.f k s (p : Int) true) ((⟨#[]⟩ : ByteArray), (p : Int), true) := by
        unfold keys_reader_text.f
        exact text_stop
      exact ev_neg k3 (ev_pos k4 (ev_bind ht (ev_some rfl)))
    · refine ⟨⟨kd, 0, (⟨#[]⟩ : ByteArray), [], []⟩, p, start _ (ev_succ ?_), Nat.le_refl _, hp, fun n => fine_leafV hk (wf_range (by omega) (by omega)) emp60⟩
      have two : ∀ b, Ev (fun k => keys_reader_value.j2 k d b s (p : Int) true kd 0 (⟨#[]⟩ : ByteArray)) (kd, 0, (⟨#[]⟩ : ByteArray), [], [], (p : Int), true) := by
        intro b
        refine ev_succ ?_
        simp only [keys_reader_value.j2]
        exact ev_ite (fun _ => mem_stop) (fun _ => ev_some rfl)
      simp only [keys_reader_value.j1]
      exact ev_neg k3 (ev_neg k4 (ev_ite (fun _ => two _) (fun _ => two _)))
theorem pvalue {s : List Int} (hl : Fit s) (hb : Bytes s) : ∀ (d : Nat), d ≤ 6 → ∀ p : Nat, p ≤ s.length → ∃ R : PR, Ev (fun k => keys_reader_value.f k s (p : Int) false (d : Int)) R ∧ PTold s d (readV d (s.drop p)) p R := by
  intro d
  induction d with
  | zero =>
    intro hd p hp
    obtain ⟨c, p1, b1, h1, l1, g1, hc, t1, e1⟩ := next_any (b := false) hl hb hp
    unfold Byte at hc
    have hkc : wrap64 (wrap64 c - 1) = c - 1 := by rw [wrap64_id (x := c) (by omega) (by omega), wrap64_id (by omega) (by omega)]
    have fin : ∀ b, ∃ R : PR, Ev (fun k => keys_reader_value.j0 k ((0 : Nat) : Int) true s (p1 : Int) b (c - 1) 0 (⟨#[]⟩ : ByteArray)) R ∧ PTold s 0 none p R := by
      intro b
      obtain ⟨v, p2, h2, l2, g2, f2⟩ := pbad hl hb ((0 : Nat) : Int) (c - 1) p1 (wf_range (by omega) (by omega)) g1
      refine ⟨_, ?_, told_no (fun w r e => by simp at e) (Nat.le_trans l1 l2) g2 (f2 0)⟩
      obtain ⟨K, hK⟩ := h2
      refine ⟨K + 2, fun k hk => ?_⟩
      have := hK k (by omega)
      obtain ⟨k, rfl⟩ : ∃ m, k = m + 1 := ⟨k - 1, by omega⟩
      simp only [keys_reader_value.j0] at this ⊢
      exact this
    obtain ⟨R, hR, T⟩ := fin b1
    refine ⟨R, ev_succ ?_, T⟩
    simp only [keys_reader_value.f]
    refine ev_bind0 h1 (ev_pos rfl ?_)
    simp only [hkc]
    exact hR
  | succ d ih =>
    intro hd p hp
    have ih := ih (by omega)
    cases hd' : s.drop p with
    | nil =>
      have n1 := next_end (b := false) hd' hp
      refine ⟨(-1, 0, (⟨#[]⟩ : ByteArray), [], [], (p : Int), true), ev_succ ?_, told_no (v := ⟨-1, 0, (⟨#[]⟩ : ByteArray), [], []⟩) (fun w r e => by simp [readV] at e) (Nat.le_refl _) hp (fine_leafV (wf_range (by omega) (by omega)) (wf_range (by omega) (by omega)) emp60)⟩
      simp only [keys_reader_value.f]
      have hkc : wrap64 (wrap64 0 - 1) = -1 := by rw [wrap64_id (x := 0) (by omega) (by omega), wrap64_id (by omega) (by omega)]; rfl
      refine ev_bind0 n1 (ev_neg (by omega) ?_)
      simp only [hkc]
      refine ev_pos (by omega) (ev_succ ?_)
      simp only [keys_reader_value.j0]
      refine ev_pos trivial (ev_succ ?_)
      simp only [keys_reader_value.j1]
      refine ev_neg (by omega) (ev_neg (by omega) (ev_neg (by omega) (ev_succ ?_)))
      simp only [keys_reader_value.j2]
      exact ev_neg (by decide) (ev_some rfl)
    | cons c q =>
      have hlt := drop_lt hd'
      have h1 := drop_step hd'
      have n1 := next_ev (b := false) hd' hl
      have hc : Byte c := hb c (List.mem_of_mem_drop (by rw [hd']; simp))
      unfold Byte at hc
      have hkc : wrap64 (wrap64 c - 1) = c - 1 := by rw [wrap64_id (x := c) (by omega) (by omega), wrap64_id (by omega) (by omega)]
      have wfk : (Lit.int .i64 (c - 1)).wf = true := wf_range (by omega) (by omega)
      have bad : readV (d + 1) (c :: q) = none → (∀ R : PR, Ev (fun k => keys_reader_value.j0 k ((d + 1 : Nat) : Int) true s ((p + 1 : Nat) : Int) false (c - 1) 0 (⟨#[]⟩ : ByteArray)) R → Ev (fun k => keys_reader_value.f k s (p : Int) false ((d + 1 : Nat) : Int)) R) →
          ∃ R : PR, Ev (fun k => keys_reader_value.f k s (p : Int) false ((d + 1 : Nat) : Int)) R ∧ PTold s (d + 1) (readV (d + 1) (c :: q)) p R := by
        intro hn hgo
        obtain ⟨v, p2, h2, l2, g2, f2⟩ := pbad hl hb ((d + 1 : Nat) : Int) (c - 1) (p + 1) wfk (by omega)
        exact ⟨_, hgo _ h2, told_no (fun w r e => by rw [hn] at e; simp at e) (by omega) g2 (f2 (d + 1))⟩
      by_cases c1 : c < 1
      · refine bad (by rw [readV, if_pos (.inl c1)]) (fun R h => ev_succ ?_)
        simp only [keys_reader_value.f]
        refine ev_bind0 n1 (ev_neg (by omega) ?_)
        simp only [hkc]
        exact ev_pos (by omega) h
      by_cases c7 : c > 7
      · refine bad (by rw [readV, if_pos (.inr c7)]) (fun R h => ev_succ ?_)
        simp only [keys_reader_value.f]
        refine ev_bind0 n1 (ev_neg (by omega) ?_)
        simp only [hkc]
        refine ev_neg (by omega) ?_
        rw [decide_eq_true (show c - 1 > 6 by omega)]
        exact h
      have nn : ¬ (c < 1 ∨ c > 7) := by omega
      have start : ∀ R : PR, Ev (fun k => keys_reader_value.j1 k ((d + 1 : Nat) : Int) s ((p + 1 : Nat) : Int) false (c - 1) 0 (⟨#[]⟩ : ByteArray)) R → Ev (fun k => keys_reader_value.f k s (p : Int) false ((d + 1 : Nat) : Int)) R := by
        intro R h
        refine ev_succ ?_
        simp only [keys_reader_value.f]
        refine ev_bind0 n1 (ev_neg (by omega) ?_)
        simp only [hkc]
        refine ev_neg (by omega) ?_
        rw [decide_eq_false (show ¬ c - 1 > 6 by omega)]
        refine ev_succ ?_
        simp only [keys_reader_value.j0]
        exact ev_neg (by simp) h
      by_cases k3 : c = 4
      · obtain ⟨x, p', b', hx, x0, x1, l1, g1, t1, e1, f1⟩ := eight_told (b := false) hl hb (p := p + 1) (by omega)
        have run : Ev (fun k => keys_reader_value.f k s (p : Int) false ((d + 1 : Nat) : Int)) (c - 1, wrap64 (Go.bits .xor .u64 x 9223372036854775808), (⟨#[]⟩ : ByteArray), [], [], (p' : Int), b') := by
          refine start _ (ev_succ ?_)
          simp only [keys_reader_value.j1]
          exact ev_pos (by omega) (ev_bind hx (ev_some rfl))
        have hq : q.length = s.length - (p + 1) := by rw [← h1, List.length_drop]
        have hf : FineN (d + 1 + 1) ⟨c - 1, wrap64 (Go.bits .xor .u64 x 9223372036854775808), (⟨#[]⟩ : ByteArray), [], []⟩ := fine_leafV wfk (wf_wrap64 _) emp60
        by_cases l8 : q.length < 8
        · have bt := e1 (by omega)
          subst bt
          exact ⟨_, run, told_no (v := ⟨c - 1, wrap64 (Go.bits .xor .u64 x 9223372036854775808), (⟨#[]⟩ : ByteArray), [], []⟩) (fun w r e => by rw [readV, if_neg nn, if_pos k3, if_pos l8] at e; simp at e) (by omega) g1 hf⟩
        · obtain ⟨ex, ep, eb⟩ := f1 (by omega)
          rw [h1] at ex
          have er : readV (d + 1) (c :: q) = some (⟨c - 1, wrap64 (Go.bits .xor .u64 x 9223372036854775808), (⟨#[]⟩ : ByteArray), [], []⟩, s.drop p') := by
            rw [readV, if_neg nn, if_pos k3, if_neg l8, num_turn x x0 x1, ex, ep, ← h1, List.drop_drop, k3]
            rfl
          exact ⟨_, run, ⟨⟨p', rfl, by omega, g1, fun _ _ => er⟩, fun v r e _ => by rw [er] at e; simp only [Option.some.injEq, Prod.mk.injEq] at e; exact ⟨eb, e.1⟩, hf⟩⟩
      · by_cases k4 : c = 5
        · obtain ⟨TR, hT, ⟨p1, e1, l1, g1, t1⟩, t2, t3⟩ := ttext_ev hl (p := p + 1) (by omega)
          rw [h1] at t1 t2
          have er : readV (d + 1) (c :: q) = (getT q []).bind fun tr => some (⟨4, 0, strOfNums tr.1, [], []⟩, tr.2) := by rw [readV, if_neg nn, if_neg k3, if_pos k4]
          have ck : c - 1 = 4 := by omega
          refine ⟨(4, 0, TR.1, [], [], (p1 : Int), TR.2.2), start _ (ev_succ ?_), ⟨⟨p1, rfl, by omega, g1, fun hno hf => ?_⟩, fun v r e f => ?_, fine_leafV (wf_range (x := 4) (by omega) (by omega)) wf0 t3⟩⟩
          · simp only [keys_reader_value.j1]
            refine ev_neg (by omega) (ev_pos (by omega) (ev_bind hT (ev_some ?_)))
            rw [e1, ck]
          · obtain ⟨t, r, hG, ht, et, er'⟩ := t1 hno
            rw [er, hG, Option.bind_some]
            show some ((⟨4, 0, strOfNums t, [], []⟩ : V), r) = some ((⟨4, 0, TR.1, [], []⟩ : V), s.drop p1)
            rw [← et, ← er']
          · rw [er] at e
            obtain ⟨⟨t, r1⟩, hG, e⟩ := Option.bind_eq_some_iff.1 e
            simp only [Option.some.injEq, Prod.mk.injEq] at e
            have h60 := shallow_text (fm_succ f).1
            rw [← e.1] at h60
            simp only [strOf_size] at h60
            have hno := t2 t r1 hG h60
            obtain ⟨t', r', hG', ht', et', er'⟩ := t1 hno
            rw [hG] at hG'
            simp only [Option.some.injEq, Prod.mk.injEq] at hG'
            refine ⟨hno, ?_⟩
            rw [← e.1, hG'.1, ← et']
            rfl
        · by_cases k56 : c = 6 ∨ c = 7
          · obtain ⟨R, hR, T, _⟩ := pmem hl hb d (by omega) (c - 1) wfk ih 25 (p + 1) [] [] (by omega) rfl ⟨fun _ h => by simp at h, fun _ h => by simp at h, by simp⟩ (by simp)
            rw [h1] at T
            have er : readV (d + 1) (c :: q) = memV (readV d) (c - 1) 25 q [] [] := by rw [readV, if_neg nn, if_neg k3, if_neg k4, if_pos k56]
            have two : ∀ b, b = true → Ev (fun k => keys_reader_value.j2 k ((d + 1 : Nat) : Int) b s ((p + 1 : Nat) : Int) false (c - 1) 0 (⟨#[]⟩ : ByteArray)) R := by
              rintro b rfl
              refine ev_succ ?_
              simp only [keys_reader_value.j2]
              exact ev_pos trivial hR
            obtain ⟨⟨p3, e3, l3, g3, place3⟩, all3, fine3⟩ := T
            refine ⟨R, start _ (ev_succ ?_), by rw [er]; exact ⟨⟨p3, e3, by omega, g3, place3⟩, all3, fine3⟩⟩
            simp only [keys_reader_value.j1]
            exact ev_neg (by omega) (ev_neg (by omega) (ev_ite (fun h5 => two _ (by simp [h5])) (fun h5 => two _ (by simp; omega))))
          · have er : readV (d + 1) (c :: q) = some (⟨c - 1, 0, (⟨#[]⟩ : ByteArray), [], []⟩, s.drop (p + 1)) := by rw [readV, if_neg nn, if_neg k3, if_neg k4, if_neg k56, h1]
            refine ⟨(c - 1, 0, (⟨#[]⟩ : ByteArray), [], [], ((p + 1 : Nat) : Int), false), start _ (ev_succ ?_), ⟨⟨p + 1, rfl, by omega, by omega, fun _ _ => er⟩, fun v r e _ => by rw [er] at e; simp only [Option.some.injEq, Prod.mk.injEq] at e; exact ⟨rfl, e.1⟩, fine_leafV wfk wf0 emp60⟩⟩
            simp only [keys_reader_value.j1]
            have q6 : (c - 1 == 6) = false := by simp; omega
            refine ev_neg (by omega) (ev_neg (by omega) (ev_neg (by omega) (ev_succ ?_)))
            rw [q6]
            simp only [keys_reader_value.j2]
            exact ev_neg (by simp) (ev_some rfl)
end Go.Proofs.YtmphdmhpfghfkaaDoor.Pl
