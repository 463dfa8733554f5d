import Derived.Test.YtmphdmhpfghfkaaDoorZkltsKeysD
import Derived.Test.YtmphdmhpfghfkaaDoorZkltsKeysL
import Derived.Test.YtmphdmhpfghfkaaDoorZkltsFewL
import Derived.Test.YtmphdmhpfghfkaaDoorZkltsPKx38
import Derived.Test.YtmphdmhpfghfkaaDoorZkltsPKx39
import Derived.Test.YtmphdmhpfghfkaaDoorZkltsPKx40
import Derived.Test.YtmphdmhpfghfkaaDoorZkltsPKx41
import Derived.Test.YtmphdmhpfghfkaaDoorZkltsPKx42
set_option linter.unusedSimpArgs false
set_option linter.unusedVariables false
namespace Go.Proofs.YtmphdmhpfghfkaaDoor.Pl
open Go.RowKit Go.Proofs.YtmphdmhpfghfkaaDoorW.PrintWords Go.Proofs.YtmphdmhpfghfkaaDoorW.PrintMore Go.Proofs.YtmphdmhpfghfkaaDoor.PK
theorem xor_ones (c : Int) (h : Byte c) : Go.bits .xor .u8 255 c = 255 - c := by
  unfold Byte at h
  obtain ⟨n, rfl⟩ := Int.eq_ofNat_of_zero_le h.1
  show IntKind.u8.wrap ((BitVec.ofInt 8 255 ^^^ BitVec.ofInt 8 (n : Int)).toNat : Int) = _
  have e1 : (BitVec.ofInt 8 255) = BitVec.allOnes 8 := by decide
  have e2 : (BitVec.ofInt 8 (n : Int)).toNat = n := by
    rw [BitVec.ofInt_natCast, BitVec.toNat_ofNat]
    omega
  rw [e1, BitVec.allOnes_xor, BitVec.toNat_not, e2]
  show ((2 ^ 8 - 1 - n : Nat) : Int) % 256 = _
  omega
theorem set_mid {p r : List Int} {x y : Int} : (p ++ x :: r).set p.length y = p ++ [y] ++ r := by
  rw [List.set_append_right _ _ (Nat.le_refl _)]
  simp
theorem turned_loop : ∀ (r p : List Int), (p ++ r).length ≤ maxLen → Bytes (p ++ r) → Ev (fun k => keys_turned.l0 k (turnB p ++ List.replicate r.length 0) (p ++ r) ((p ++ r).length : Int) (p.length : Int)) (turnB (p ++ r))
  | [], p, _, _ => by
    refine ev_succ ?_
    simp only [keys_turned.l0]
    exact ev_neg (by simp) (ev_some (by simp))
  | x :: r, p, hl, hb => by
    have hl' := hl
    rw [List.length_append, List.length_cons] at hl'
    have ih := turned_loop r (p ++ [x]) (by simpa using hl) (by simpa using hb)
    refine ev_succ ?_
    simp only [keys_turned.l0]
    refine ev_pos (by simp; omega) (ev_pos (by omega) (ev_pos (by simp; omega) (ev_pos (by rw [List.length_append, turnB_len, List.length_replicate, List.length_cons]; omega) ?_)))
    rw [rd_mid, wrapN (by omega), xor_ones x (hb.right.head), Int.toNat_natCast]
    have e : (turnB p ++ List.replicate (x :: r).length (0 : Int)).set p.length (255 - x) = turnB (p ++ [x]) ++ List.replicate r.length 0 := by
      have := set_mid (p := turnB p) (r := List.replicate r.length 0) (x := 0) (y := 255 - x)
      rw [turnB_len] at this
      rw [turnB_append]
      exact this
    rw [e]
    have e2 : ((p.length + 1 : Nat) : Int) = ((p ++ [x]).length : Int) := by simp
    rw [e2]
    simpa using ih
theorem turned_ev (l : List Int) (hl : l.length ≤ maxLen) (hl2 : l.length ≤ 281474976710656) (hb : Bytes l) : Ev (fun k => keys_turned.f k l) (turnB l) := by
  unfold keys_turned.f
  refine ev_pos (by omega) (ev_pos (by omega) ?_)
  have := turned_loop l [] (by simpa using hl) (by simpa using hb)
  simpa [turnB] using this
theorem bnd6 : bnd 6 = 976562500000 := by decide
theorem rdB_lt {fs : List Bool} {i : Nat} (h : i < fs.length) : rdOf false fs (i : Int) = fs.getD i false := by
  unfold rdOf
  rw [Int.toNat_natCast]
theorem getD_ge {fs : List Bool} {i : Nat} (h : ¬ i < fs.length) : fs.getD i false = false := by
  rw [List.getD_eq_getElem?_getD, List.getElem?_eq_none (by omega)]
  rfl
/-- What is told of a compound key. -/
def Told (l : List V) (fs : List Bool) (x : List Int) (e : Int) : Prop :=
  (e = 0 → (∀ v ∈ l, fm 6 v = true) ∧ x = comp 6 l fs ∧ (comp 6 l fs).length ≤ 200) ∧ ((∀ v ∈ l, fm 6 v = true) → (comp 6 l fs).length ≤ 200 → e = 0)
theorem comp_loop {n : Nat} (l : List V) (fs : List Bool) (hl : l.length ≤ 100) (hf : ∀ v ∈ l, FineN n v) : ∀ (r p : List V), l = p ++ r → (∀ v ∈ p, fm 6 v = true) →
    ∃ x e, Ev (fun k => keys_Compound.l0 k fs (comp 6 p fs) l (l.length : Int) (p.length : Int)) (x, e) ∧ Told l fs x e
  | [], p, e, hp => by
    rw [List.append_nil] at e
    subst e
    refine ⟨if (comp 6 l fs).length > 200 then [] else comp 6 l fs, if (comp 6 l fs).length > 200 then 3 else 0, ev_succ ?_, ?_⟩
    · simp only [keys_Compound.l0]
      refine ev_neg (by omega) (ev_ite (fun h => ev_some ?_) (fun h => ev_some ?_))
      · rw [if_pos (by omega), if_pos (by omega)]
      · rw [if_neg (by omega), if_neg (by omega)]
    · by_cases h : (comp 6 l fs).length > 200
      · rw [if_pos h, if_pos h]
        exact ⟨fun h => by omega, fun _ h' => by omega⟩
      · rw [if_neg h, if_neg h]
        exact ⟨fun _ => ⟨hp, rfl, by omega⟩, fun _ _ => rfl⟩
  | v :: r, p, e, hp => by
    have hlen : l.length = p.length + (r.length + 1) := by rw [e, List.length_append, List.length_cons]
    have hx : rd_T25 l (p.length : Int) = v := by rw [e]; exact rdV_mid _ _ _
    have hv : FineN n v := hf v (by rw [e]; simp)
    by_cases fv : fm 6 v = true
    · have hp' : ∀ w ∈ p ++ [v], fm 6 w = true := fun w hw => by
        rcases List.mem_append.1 hw with h | h
        · exact hp w h
        · rw [List.mem_singleton.1 h]
          exact fv
      obtain ⟨x, q, hq, hT⟩ := comp_loop l fs hl hf r (p ++ [v]) (by rw [e]; simp) hp'
      refine ⟨x, q, ev_succ ?_, hT⟩
      simp only [keys_Compound.l0]
      have hk := Key_ev hv
      rw [if_pos fv] at hk
      have k1 := keyV_len 6 v fv
      have k2 := comp_len (n := 6) p fs hp
      have k3 := bnd6
      have k4 : p.length * bnd 6 ≤ 100 * bnd 6 := Nat.mul_le_mul_right _ (by omega)
      rw [comp_snoc] at hq
      have e2 : (((p ++ [v]).length : Nat) : Int) = ((p.length + 1 : Nat) : Int) := by simp
      rw [e2] at hq
      have w1 : Unit → wrap64 ((p.length : Int) + 1) = ((p.length + 1 : Nat) : Int) := fun _ => wrapN (by unfold maxLen; omega)
      rw [hx, w1 ()]
      refine ev_pos (by omega) (ev_pos (by omega) (ev_pos (by omega) (ev_bind hk (ev_pos rfl ?_))))
      have plain : fs.getD p.length false = false → Ev (fun k => if (comp 6 p fs).length + (keyV 6 v).length < 140737488355328 then keys_Compound.l0 k fs (comp 6 p fs ++ keyV 6 v) l (l.length : Int) ((p.length + 1 : Nat) : Int) else none) (x, q) := by
        intro h0
        rw [h0] at hq
        exact ev_pos (by omega) (by simpa using hq)
      refine ev_ite (fun hi => ?_) (fun hi => plain (getD_ge (by omega)))
      have hr := rdB_lt (fs := fs) (i := p.length) (by omega)
      rw [hr]
      refine ev_ite (fun h1 => ?_) (fun h1 => plain (by simpa using h1))
      rw [h1] at hq
      refine ev_bind (turned_ev (keyV 6 v) (by unfold maxLen; omega) (by omega) (keyV_bytes 6 v fv (fine_fm hv fv))) (ev_pos (by rw [turnB_len]; omega) (by simpa using hq))
    · refine ⟨[], 2, ev_succ ?_, ⟨fun h => by omega, fun h => absurd (h v (by rw [e]; simp)) fv⟩⟩
      simp only [keys_Compound.l0]
      have hk := Key_ev hv
      rw [if_neg fv] at hk
      rw [hx]
      exact ev_pos (by omega) (ev_pos (by omega) (ev_pos (by omega) (ev_bind hk (ev_neg (by decide) (ev_some rfl)))))
theorem Compound_ev {n : Nat} (l : List V) (fs : List Bool) (hl : l.length ≤ 100) (hf : ∀ v ∈ l, FineN n v) : ∃ x e, Ev (fun k => keys_Compound.f k l fs) (x, e) ∧ Told l fs x e := by
  unfold keys_Compound.f
  exact comp_loop l fs hl hf l [] rfl (fun _ h => by simp at h)
theorem comp_bytes {n : Nat} : ∀ (l : List V) (fs : List Bool), (∀ v ∈ l, fm n v = true ∧ FineN n v) → Bytes (comp n l fs)
  | [], _, _ => Bytes.nil
  | v :: l, fs, h => by
    have ih := comp_bytes l fs.tail (fun x hx => h x (by simp [hx]))
    have hb := keyV_bytes n v (h v (by simp)).1 (h v (by simp)).2
    refine Bytes.append ?_ ih
    split
    · intro x hx
      obtain ⟨c, hc, rfl⟩ := List.mem_map.1 hx
      have := hb c hc
      unfold Byte at this ⊢
      omega
    · exact hb
theorem split_loop {n : Nat} (l : List V) (fs : List Bool) (hl : l.length ≤ 100) (hf : ∀ v ∈ l, FineN n v) (ha : ∀ v ∈ l, fm 6 v = true) (hc : (comp 6 l fs).length ≤ 200) : ∀ (r p : List V), l = p ++ r → (comp 6 r (fs.drop p.length)).length ≤ 200 →
    Ev (fun k => keys_Split.l0 k (comp 6 l fs) fs p (comp 6 r (fs.drop p.length)) (l.length : Int) (p.length : Int)) (l, 0)
  | [], p, e, _ => by
    rw [List.append_nil] at e
    subst e
    obtain ⟨x, q, hq, h1, h2⟩ := Compound_ev l fs hl hf
    have q0 := h2 ha hc
    obtain ⟨_, hx, _⟩ := h1 q0
    subst hx
    subst q0
    refine ev_succ ?_
    simp only [keys_Split.l0]
    refine ev_neg (by omega) (ev_bind hq (ev_pos rfl (ev_bind0 (b := true) (by simp [bytes_Equal.f]) (ev_pos rfl (ev_some rfl)))))
  | v :: r, p, e, hn => by
    have hlen : l.length = p.length + (r.length + 1) := by rw [e, List.length_append, List.length_cons]
    have hmem : v ∈ l := by rw [e]; simp
    have hv : FineN n v := hf v hmem
    have fv := ha v hmem
    have e1 : (fs.drop p.length).tail = fs.drop (p.length + 1) := by rw [List.tail_drop]
    have ec : comp 6 (v :: r) (fs.drop p.length) = (if fs.getD p.length false = true then turnB (keyV 6 v) else keyV 6 v) ++ comp 6 r (fs.drop (p.length + 1)) := by
      show (if flag (fs.drop p.length) = true then turnB (keyV 6 v) else keyV 6 v) ++ comp 6 r (fs.drop p.length).tail = _
      rw [flag_drop, e1]
    have hlk : ((if fs.getD p.length false = true then turnB (keyV 6 v) else keyV 6 v)).length = (keyV 6 v).length := by split <;> simp [turnB_len]
    rw [ec] at hn ⊢
    rw [List.length_append, hlk] at hn
    have ih := split_loop l fs hl hf ha hc r (p ++ [v]) (by rw [e]; simp) (by simp; omega)
    have e2 : (p ++ [v]).length = p.length + 1 := by simp
    rw [e2] at ih
    have w1 : Unit → wrap64 ((p.length : Int) + 1) = ((p.length + 1 : Nat) : Int) := fun _ => wrapN (by unfold maxLen; omega)
    have go : ∀ b, b = fs.getD p.length false → Ev (fun k => keys_Split.j2 k (comp 6 l fs) fs p ((if fs.getD p.length false = true then turnB (keyV 6 v) else keyV 6 v) ++ comp 6 r (fs.drop (p.length + 1))) ((if fs.getD p.length false = true then turnB (keyV 6 v) else keyV 6 v) ++ comp 6 r (fs.drop (p.length + 1))) (l.length : Int) (p.length : Int) b) (l, 0) := by
      intro b hb
      refine ev_succ ?_
      simp only [keys_Split.j2]
      have hp28 : p.length < 1759218604441 := by omega
      cases b with
      | true =>
        rw [← hb, if_pos rfl]
        have hby : Bytes (turnB (keyV 6 v) ++ comp 6 r (fs.drop (p.length + 1))) := by
          have := comp_bytes (n := 6) (v :: r) (fs.drop p.length) (fun x hx => by
            have hx' : x ∈ l := by rw [e]; exact List.mem_append_right _ hx
            exact ⟨ha x hx', fine_fm (hf x hx') (ha x hx')⟩)
          rw [ec, ← hb, if_pos rfl] at this
          exact this
        have ht := turned_ev (turnB (keyV 6 v) ++ comp 6 r (fs.drop (p.length + 1))) (by rw [List.length_append, turnB_len]; unfold maxLen; omega) (by rw [List.length_append, turnB_len]; omega) hby
        rw [turnB_append, turnB_turnB] at ht
        have hr := read_ev hv fv (turnB (comp 6 r (fs.drop (p.length + 1)))) (by unfold Fit; rw [List.length_append, turnB_len]; omega)
        refine ev_pos rfl (ev_bind ht (ev_bind hr (ev_pos rfl (ev_pos hp28 (ev_pos (by show (0 : Int) ≤ ((keyV 6 v).length : Int); omega) (ev_pos (by show ((keyV 6 v).length : Int) ≤ _; rw [List.length_append, turnB_len]; omega) ?_))))))
        rw [v_eta, Int.toNat_natCast, w1 ()]
        have ed : (turnB (keyV 6 v) ++ comp 6 r (fs.drop (p.length + 1))).drop (keyV 6 v).length = comp 6 r (fs.drop (p.length + 1)) := by
          rw [← turnB_len (keyV 6 v), List.drop_left]
        rw [ed]
        exact ih
      | false =>
        rw [← hb, if_neg (by simp)]
        have hr := read_ev hv fv (comp 6 r (fs.drop (p.length + 1))) (by unfold Fit; rw [List.length_append]; omega)
        refine ev_neg (by simp) (ev_bind hr (ev_pos rfl (ev_pos hp28 (ev_pos (by show (0 : Int) ≤ ((keyV 6 v).length : Int); omega) (ev_pos (by show ((keyV 6 v).length : Int) ≤ _; rw [List.length_append]; omega) ?_)))))
        rw [v_eta, Int.toNat_natCast, w1 (), List.drop_left]
        exact ih
    refine ev_succ ?_
    simp only [keys_Split.l0]
    refine ev_pos (by omega) (ev_ite (fun hi => ev_pos (by omega) ?_) (fun hi => ?_))
    · exact go _ (rdB_lt (by omega))
    · exact go _ (getD_ge (by omega)).symm
theorem Split_ev {n : Nat} (l : List V) (fs : List Bool) (hl : l.length ≤ 100) (hf : ∀ v ∈ l, FineN n v) (ha : ∀ v ∈ l, fm 6 v = true) (hc : (comp 6 l fs).length ≤ 200) :
    Ev (fun k => keys_Split.f k (comp 6 l fs) fs (l.length : Int)) (l, 0) := by
  unfold keys_Split.f
  have q : decide ((l.length : Int) > 100) = false := decide_eq_false (by omega)
  refine ev_neg (by omega) (ev_succ ?_)
  rw [q]
  simp only [keys_Split.j0]
  have := split_loop l fs hl hf ha hc l [] rfl (by simpa using hc)
  exact ev_neg (by simp) (ev_neg (by omega) (by simpa using this))
theorem lists_same {n : Nat} (a b : List Int) (c : Int) (l : List V) (fs : List Bool) (hf : ∀ v ∈ l, FineN n v) (hl : l.length ≤ 100) (hab : a.length ≤ 200) (h1 : ltL a b = decide (c < 0)) (h2 : (decide (a = b)) = (c == 0)) :
    ∀ (r p : List V), l = p ++ r → Ev (fun k => munimentlaw04_KeysLists.l1 k a b c l (p.length : Int) l fs) true
  | [], p, e => by
    rw [List.append_nil] at e
    subst e
    refine ev_succ ?_
    simp only [munimentlaw04_KeysLists.l1]
    refine ev_neg (by omega) (ev_bind (bless_ev a b (by omega)) ?_)
    rw [h1]
    refine ev_pos (by simp) (ev_bind (bsame_ev a b (by omega)) (ev_some ?_))
    rw [h2]
    simp
  | v :: r, p, e => by
    have hlen : l.length = p.length + (r.length + 1) := by rw [e, List.length_append, List.length_cons]
    have hx : rd_T25 l (p.length : Int) = v := by rw [e]; exact rdV_mid _ _ _
    have ih := lists_same a b c l fs hf hl hab h1 h2 r (p ++ [v]) (by rw [e]; simp)
    have w1 : Unit → wrap64 ((p.length : Int) + 1) = ((p.length + 1 : Nat) : Int) := fun _ => wrapN (by unfold maxLen; omega)
    have e2 : (((p ++ [v]).length : Nat) : Int) = ((p.length + 1 : Nat) : Int) := by simp
    rw [e2] at ih
    obtain ⟨t, ht, hi⟩ := same_ev n v v (hf v (by rw [e]; simp))
    refine ev_succ ?_
    simp only [munimentlaw04_KeysLists.l1]
    rw [hx, w1 ()]
    exact ev_pos (by omega) (ev_pos (by omega) (ev_pos (by omega) (ev_bind ht (ev_pos (hi.2 rfl) ih))))
theorem lists_end {n : Nat} (a b : List Int) (c : Int) (y l : List V) (fs : List Bool) (i : Int) (hf : ∀ v ∈ l, FineN n v) (ha : ∀ v ∈ l, fm 6 v = true) (hl : l.length ≤ 100) (ea : a = comp 6 l fs) (hab : a.length ≤ 200) (h1 : ltL a b = decide (c < 0)) (h2 : (decide (a = b)) = (c == 0)) :
    Ev (fun k => munimentlaw04_KeysLists.j3 k y a b c i false l fs) true := by
  have hs := Split_ev l fs hl hf ha (by rw [← ea]; exact hab)
  rw [← ea] at hs
  refine ev_succ ?_
  simp only [munimentlaw04_KeysLists.j3]
  refine ev_neg (by simp) (ev_bind hs (ev_pos rfl (ev_succ ?_)))
  have q : ((l.length : Int) != (l.length : Int)) = false := by simp
  rw [q]
  simp only [munimentlaw04_KeysLists.j4]
  have := lists_same a b c l fs hf hl hab h1 h2 l [] rfl
  exact ev_neg (by simp) (by simpa using this)
theorem cmpD_stop (n : Nat) : ∀ (l m l' m' : List V) (fs : List Bool), l.length = m.length → ¬ cmpD n l m fs = 0 → cmpD n (l ++ l') (m ++ m') fs = cmpD n l m fs
  | [], [], _, _, _, _, h => by unfold cmpD at h; exact absurd rfl h
  | [], _ :: _, _, _, _, h, _ => by simp at h
  | _ :: _, [], _, _, _, h, _ => by simp at h
  | v :: l, w :: m, l', m', fs, h, hz => by
    have ih := cmpD_stop n l m l' m' fs.tail (by simpa using h)
    show cmpD n (v :: (l ++ l')) (w :: (m ++ m')) fs = _
    unfold cmpD or2 at hz ⊢
    by_cases hd : (if flag fs = true then -(cmpV n v w) else cmpV n v w) = 0
    · rw [if_pos hd] at hz
      rw [if_pos hd, if_pos hd]
      exact ih hz
    · rw [if_neg hd, if_neg hd]
theorem lists_loop {n m : Nat} (l y : List V) (fs : List Bool) (hn : l.length = y.length) (hl : l.length ≤ 100) (hf : ∀ v ∈ l, FineN n v) (gf : ∀ v ∈ y, FineN m v) (ha : ∀ v ∈ l, fm 6 v = true) (hb : ∀ v ∈ y, fm 6 v = true) (hc : (comp 6 l fs).length ≤ 200) :
    ∀ (r p s q : List V), l = p ++ r → y = q ++ s → p.length = q.length →
    Ev (fun k => munimentlaw04_KeysLists.l0 k y (comp 6 l fs) (comp 6 y fs) (cmpD 6 p q fs) (p.length : Int) l fs) true := by
  have fl : ∀ v ∈ l, fm 6 v = true ∧ FineN 6 v := fun v hv => ⟨ha v hv, fine_fm (hf v hv) (ha v hv)⟩
  have fy : ∀ v ∈ y, fm 6 v = true ∧ FineN 6 v := fun v hv => ⟨hb v hv, fine_fm (gf v hv) (hb v hv)⟩
  have cut := comp_cut 6 l y fs hn fl fy
  have c1 := cut.lt
  have c2 : decide (comp 6 l fs = comp 6 y fs) = (cmpD 6 l y fs == 0) := by
    have := comp_same (fs := fs) hn fl fy
    rw [Bool.eq_iff_iff]
    simpa using this
  have fin : ∀ i, Ev (fun k => munimentlaw04_KeysLists.j3 k y (comp 6 l fs) (comp 6 y fs) (cmpD 6 l y fs) i false l fs) true := fun i => lists_end _ _ _ y l fs i hf ha hl rfl hc c1 c2
  intro r
  induction r with
  | nil =>
    intro p s q ep eq hpq
    rw [List.append_nil] at ep
    subst ep
    have hs : s = [] := List.length_eq_zero_iff.1 (by have := congrArg List.length eq; rw [List.length_append] at this; omega)
    subst hs
    rw [List.append_nil] at eq
    subst eq
    refine ev_succ ?_
    simp only [munimentlaw04_KeysLists.l0]
    exact ev_neg (by omega) (fin _)
  | cons v r ih =>
    intro p s q ep eq hpq
    have hlen : l.length = p.length + (r.length + 1) := by rw [ep, List.length_append, List.length_cons]
    have hlen2 : y.length = q.length + s.length := by rw [eq, List.length_append]
    refine ev_succ ?_
    simp only [munimentlaw04_KeysLists.l0]
    refine ev_pos (by omega) ?_
    by_cases hz : cmpD 6 p q fs = 0
    · have qz : (cmpD 6 p q fs == 0) = true := by simp [hz]
      rw [qz]
      obtain ⟨w, s, rfl⟩ : ∃ w s', s = w :: s' := by
        cases s with
        | nil => rw [List.length_nil] at hlen2; omega
        | cons w s => exact ⟨w, s, rfl⟩
      have hx : rd_T25 l (p.length : Int) = v := by rw [ep]; exact rdV_mid _ _ _
      have hy : rd_T25 y (p.length : Int) = w := by rw [hpq, eq]; exact rdV_mid _ _ _
      have mv : v ∈ l := by rw [ep]; simp
      have mw : w ∈ y := by rw [eq]; simp
      have co := Compare_ev (hf v mv) (gf w mw)
      unfold cmpF at co
      rw [if_pos ⟨ha v mv, hb w mw⟩] at co
      have hs := (good_cmpV 6).small v w (ha v mv) (hb w mw)
      have nx := ih (p ++ [v]) s (q ++ [w]) (by rw [ep]; simp) (by rw [eq]; simp) (by simp [hpq])
      rw [cmpD_snoc 6 p q v w fs hpq, hz] at nx
      have e2 : (((p ++ [v]).length : Nat) : Int) = ((p.length + 1 : Nat) : Int) := by simp
      rw [e2, or2_right] at nx
      have w1 : Unit → wrap64 ((p.length : Int) + 1) = ((p.length + 1 : Nat) : Int) := fun _ => wrapN (by unfold maxLen; omega)
      refine ev_succ ?_
      simp only [munimentlaw04_KeysLists.j3]
      rw [hx, hy, w1 ()]
      refine ev_pos trivial (ev_pos (by omega) (ev_pos (by omega) (ev_pos (by omega) (ev_bind co ?_))))
      refine ev_ite (fun hi => ?_) (fun hi => ?_)
      · rw [rdB_lt (by omega)]
        refine ev_ite (fun h1 => ?_) (fun h1 => ?_)
        · rw [h1, if_pos rfl] at nx
          have w2 : wrap64 (-(cmpV 6 v w)) = -(cmpV 6 v w) := wrap64_id (by omega) (by omega)
          rw [w2]
          exact nx
        · rw [if_neg h1] at nx
          exact nx
      · rw [getD_ge (by omega), if_neg (by simp)] at nx
        exact nx
    · have qz : (cmpD 6 p q fs == 0) = false := by simp [hz]
      rw [qz]
      have e3 : cmpD 6 p q fs = cmpD 6 l y fs := by
        rw [ep, eq]
        exact (cmpD_stop 6 p q (v :: r) s fs hpq hz).symm
      rw [e3]
      exact fin _
theorem keysLists_ev {n m : Nat} (l : List V) (fs : List Bool) (y : List V) (hl : l.length ≤ maxLen) (hf : ∀ v ∈ l, FineN n v) (hy : y.length ≤ maxLen) (gf : ∀ v ∈ y, FineN m v) : Ev (fun k => munimentlaw04_KeysLists.f k l fs y) true := by
  obtain ⟨c, hc⟩ := fewL_ev hl hf
  obtain ⟨d, hd⟩ := fewL_ev hy gf
  have out : Ev (fun k => munimentlaw04_KeysLists.j0 k y true l fs) true := by
    refine ev_succ ?_
    simp only [munimentlaw04_KeysLists.j0]
    exact ev_pos trivial (ev_bind awake4_ev (ev_some rfl))
  unfold munimentlaw04_KeysLists.f
  refine ev_bind awake4_ev (ev_pos rfl (ev_bind hc (ev_ite (fun _ => ?_) (fun _ => out))))
  refine ev_bind hd (ev_ite (fun _ => ?_) (fun _ => out))
  refine ev_ite (fun hn => ?_) (fun _ => out)
  by_cases h : (l.length : Int) > 100
  · rw [decide_eq_true h]
    exact out
  rw [decide_eq_false h]
  obtain ⟨a, e, hA, a1, a2⟩ := Compound_ev l fs (by omega) hf
  obtain ⟨b, g, hB, b1, b2⟩ := Compound_ev y fs (by omega) gf
  refine ev_succ ?_
  simp only [munimentlaw04_KeysLists.j0]
  have stop : Ev (fun k => munimentlaw04_KeysLists.j1 k y a b true l fs) true := by
    refine ev_succ ?_
    simp only [munimentlaw04_KeysLists.j1]
    exact ev_pos trivial (ev_some rfl)
  refine ev_neg (by simp) (ev_bind hA (ev_bind hB (ev_ite (fun he => ?_) (fun _ => stop))))
  by_cases hg : g = 0
  · have q : (g != 0) = false := by simp [hg]
    show Ev (fun k => munimentlaw04_KeysLists.j1 k y a b (g != 0) l fs) true
    rw [q]
    obtain ⟨fa, ea, la⟩ := a1 he
    obtain ⟨fb, eb, lb⟩ := b1 hg
    rw [ea, eb]
    refine ev_succ ?_
    simp only [munimentlaw04_KeysLists.j1]
    have := lists_loop l y fs (by omega) (by omega) hf gf fa fb la l [] y [] rfl rfl rfl
    refine ev_neg (by simp) ?_
    simpa [cmpD] using this
  · have q : (g != 0) = true := by simp [hg]
    show Ev (fun k => munimentlaw04_KeysLists.j1 k y a b (g != 0) l fs) true
    rw [q]
    exact stop
end Go.Proofs.YtmphdmhpfghfkaaDoor.Pl
