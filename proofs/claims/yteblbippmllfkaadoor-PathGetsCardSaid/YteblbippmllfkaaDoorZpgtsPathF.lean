import Derived.Test.YteblbippmllfkaaDoorZpgtsOrder0
import Derived.Test.YteblbippmllfkaaDoorZpgtsPureSteps
import Derived.Test.YteblbippmllfkaaDoorZpgtsPPx12
import Derived.Test.YteblbippmllfkaaDoorZpgtsPPx13
import Derived.Test.YteblbippmllfkaaDoorZpgtsPPx14
import Derived.Test.YteblbippmllfkaaDoorZpgtsPPx20
import Derived.Test.YteblbippmllfkaaDoorZpgtsPPx21
set_option linter.unusedSimpArgs false
set_option linter.unusedVariables false
namespace Go.Proofs.YteblbippmllfkaaDoor.Pl
open Go.RowKit Go.Proofs.YteblbippmllfkaaDoorW.PrintWords Go.Proofs.YteblbippmllfkaaDoorW.PrintMore Go.Proofs.YteblbippmllfkaaDoor.PP
def numL : List Int → Int → Int
  | [], n => n
  | c :: r, n => if c < 48 then -1 else if c > 57 then -1 else numL r (n * 10 + (c - 48))
def tb (s : ByteArray) : List Int := s.toList.map fun u => (u.toNat : Int)
theorem tb_len (s : ByteArray) : (tb s).length = s.size := by rw [tb, List.length_map, toList_len]
theorem tb_get (s : ByteArray) (i : Nat) (h : i < s.size) : (tb s)[i]? = some (bt s (i : Int)) := by
  obtain ⟨u, hu, hb⟩ := bt_get s i h
  rw [tb, List.getElem?_map, hu, hb]
  rfl
def numS (s : ByteArray) : Int := if s.size = 0 then -1 else if s.size > 4 then -1 else if s.size > 1 ∧ bt s 0 = 48 then -1 else numL (tb s) 0
theorem number_loop (s : ByteArray) (hs : s.size ≤ 4) : ∀ (j i : Nat) (n : Int), i + j = s.size → 0 ≤ n → n < 10 ^ i → Ev (fun k => path_number.l0 k s n (i : Int)) (numL ((tb s).drop i) n)
  | 0, i, n, hi, h0, h1 => by
    rw [List.drop_eq_nil_of_le (by rw [tb_len]; omega)]
    refine ev_succ ?_
    simp only [path_number.l0]
    exact ev_neg (by omega) (ev_some rfl)
  | j + 1, i, n, hi, h0, h1 => by
    rw [drop_get (tb_get s i (by omega))]
    have hp : (10 : Int) ^ i ≤ 1000 := by
      have : i ≤ 3 := by omega
      match i, this with
      | 0, _ => decide
      | 1, _ => decide
      | 2, _ => decide
      | 3, _ => decide
    refine ev_succ ?_
    simp only [path_number.l0]
    rw [wrapN (n := i) (by unfold maxLen; omega)]
    refine ev_pos (by omega) (ev_pos (by omega) ?_)
    unfold numL
    generalize bt s (i : Int) = c
    refine ev_ite (fun h => ev_some (by rw [if_pos h])) (fun h => ?_)
    rw [if_neg h]
    refine ev_ite (fun h' => ev_some (by rw [if_pos h'])) (fun h' => ?_)
    rw [if_neg h']
    have e : wrap64 (wrap64 (n * 10) + (c - 48) % 256) = n * 10 + (c - 48) := by
      rw [wrap64_id (x := n * 10) (by omega) (by omega), wrap64_id (by omega) (by omega)]
      omega
    rw [e]
    exact number_loop s hs j (i + 1) _ (by omega) (by omega) (by rw [Int.pow_succ]; omega)
theorem number_ev (s : ByteArray) : Ev (fun k => path_number.f k s) (numS s) := by
  have no : Ev (fun k => path_number.j0 k s true) (-1) := by
    refine ev_succ ?_
    simp only [path_number.j0]
    exact ev_pos trivial (ev_some rfl)
  unfold path_number.f numS
  refine ev_ite (fun h => ?_) (fun h => ?_)
  · rw [if_pos (by omega)]
    exact no
  · rw [if_neg (by omega)]
    refine ev_ite (fun h4 => ?_) (fun h4 => ?_)
    · rw [if_pos (by omega)]
      exact no
    · rw [if_neg (by omega)]
      have go : Ev (fun k => path_number.j0 k s false) (numL (tb s) 0) := by
        refine ev_succ ?_
        simp only [path_number.j0]
        exact ev_neg (by simp) (number_loop s (by omega) s.size 0 0 (by omega) (by omega) (by simp))
      refine ev_ite (fun h1 => ev_pos (by omega) ?_) (fun h1 => ?_)
      · by_cases hz : bt s 0 = 48
        · rw [if_pos ⟨by omega, hz⟩, show (bt s 0 == 48) = true by simp [hz]]
          exact no
        · rw [if_neg (fun h => hz h.2), show (bt s 0 == 48) = false by simp [hz]]
          exact go
      · rw [if_neg (by omega)]
        exact go
/-- Where a name stands first. -/
def idxN (s : ByteArray) : List ByteArray → Nat → Int
  | [], _ => -1
  | a :: r, i => if a = s then (i : Int) else idxN s r (i + 1)
def placeV (v : V) (s : ByteArray) : Int := if v.f0 = 5 then (if numS s < v.f4.length then numS s else -1) else if v.f0 = 6 then idxN s v.f3 0 else -1
theorem place_loop (s : ByteArray) (a0 a1 : Int) (a2 : ByteArray) (l : List ByteArray) (l4 : List V) (hl : l.length ≤ maxLen) : ∀ (r p : List ByteArray), l = p ++ r → Ev (fun k => path_place.l0 k s (p.length : Int) a0 a1 a2 l l4) (idxN s r p.length)
  | [], p, e => by
    refine ev_succ ?_
    simp only [path_place.l0]
    exact ev_neg (by rw [e]; simp) (ev_some rfl)
  | x :: r, p, e => by
    have hlen : l.length = p.length + (r.length + 1) := by rw [e, List.length_append, List.length_cons]
    have hx : rdOf ByteArray.empty l (p.length : Int) = x := by rw [e]; exact rdS_mid _ _ _
    have ih := place_loop s a0 a1 a2 l l4 hl r (p ++ [x]) (by rw [e]; simp)
    refine ev_succ ?_
    simp only [path_place.l0]
    rw [hx, wrapN (by omega)]
    unfold idxN
    refine ev_pos (by omega) (ev_pos (by omega) (ev_ite (fun h => ev_some (by rw [if_pos (toList_inj h)])) (fun h => ?_)))
    rw [if_neg (fun e => h (by rw [e]))]
    simpa using ih
theorem place_ev (v : V) (s : ByteArray) (hl : v.f3.length ≤ maxLen) : Ev (fun k => path_place.f k v.f0 v.f1 v.f2 v.f3 v.f4 s) (placeV v s) := by
  have h6 : ∀ z, ¬ v.f0 = 5 ∨ z = -1 ∧ v.f0 = 5 → Ev (fun k => path_place.j0 k s v.f0 v.f1 v.f2 v.f3 v.f4) (if v.f0 = 5 then z else if v.f0 = 6 then idxN s v.f3 0 else -1) := by
    intro z hz
    refine ev_succ ?_
    simp only [path_place.j0]
    refine ev_ite (fun h => ?_) (fun h => ?_)
    · rw [if_neg (by omega), if_pos h]
      exact place_loop s v.f0 v.f1 v.f2 v.f3 v.f4 hl v.f3 [] rfl
    · refine ev_some ?_
      rcases hz with hz | ⟨rfl, hz⟩
      · rw [if_neg hz, if_neg h]
      · rw [if_pos hz]
  unfold path_place.f placeV
  refine ev_ite (fun h => ev_bind (number_ev s) (ev_ite (fun h' => ev_some (by rw [if_pos h, if_pos h'])) (fun h' => ?_))) (fun h => h6 _ (.inl h))
  rw [if_neg h']
  exact h6 _ (.inr ⟨rfl, h⟩)
theorem rnumber_eq (s : ByteArray) : ∀ k, (∀ n i, munimentref02_number.l0 k s n i = path_number.l0 k s n i) ∧ (∀ b, munimentref02_number.j0 k s b = path_number.j0 k s b)
  | 0 => ⟨fun _ _ => rfl, fun _ => rfl⟩
  | k + 1 => by
    obtain ⟨h1, h2⟩ := rnumber_eq s k
    refine ⟨fun n i => ?_, fun b => ?_⟩
    · simp only [munimentref02_number.l0, path_number.l0, h1]
    · simp only [munimentref02_number.j0, path_number.j0, h1]
theorem rplace_eq (s : ByteArray) (a0 a1 : Int) (a2 : ByteArray) (l : List ByteArray) (l4 : List V) : ∀ k, (∀ i, munimentref02_place.l0 k s i a0 a1 a2 l l4 = path_place.l0 k s i a0 a1 a2 l l4) ∧ munimentref02_place.j0 k s a0 a1 a2 l l4 = path_place.j0 k s a0 a1 a2 l l4
  | 0 => ⟨fun _ => rfl, rfl⟩
  | k + 1 => by
    obtain ⟨h1, h2⟩ := rplace_eq s a0 a1 a2 l l4 k
    refine ⟨fun i => ?_, ?_⟩
    · simp only [munimentref02_place.l0, path_place.l0, h1]
    · simp only [munimentref02_place.j0, path_place.j0, h1]
theorem rplace_fun (k : Nat) (a0 a1 : Int) (a2 : ByteArray) (l : List ByteArray) (l4 : List V) (s : ByteArray) : munimentref02_place.f k a0 a1 a2 l l4 s = path_place.f k a0 a1 a2 l l4 s := by
  unfold munimentref02_place.f path_place.f munimentref02_number.f path_number.f
  simp only [(rplace_eq s a0 a1 a2 l l4 k).2, (rnumber_eq s k).2]
theorem rplace_ev (v : V) (s : ByteArray) (hl : v.f3.length ≤ maxLen) : Ev (fun k => munimentref02_place.f k v.f0 v.f1 v.f2 v.f3 v.f4 s) (placeV v s) := by
  have := place_ev v s hl
  simpa only [rplace_fun] using this
theorem idxN_range (s : ByteArray) : ∀ (l : List ByteArray) (i : Nat), idxN s l i = -1 ∨ (i : Int) ≤ idxN s l i ∧ idxN s l i < i + l.length
  | [], i => .inl rfl
  | a :: r, i => by
    unfold idxN
    split
    · right
      simp
      omega
    · rcases idxN_range s r (i + 1) with h | h
      · exact .inl h
      · right
        rw [List.length_cons]
        omega
theorem numL_ge : ∀ (l : List Int) (n : Int), 0 ≤ n → -1 ≤ numL l n
  | [], n, h => by unfold numL; omega
  | c :: r, n, h => by
    unfold numL
    split
    · omega
    · split
      · omega
      · exact numL_ge r _ (by omega)
theorem numS_ge (s : ByteArray) : -1 ≤ numS s := by
  unfold numS
  split
  · omega
  · split
    · omega
    · split
      · omega
      · exact numL_ge _ _ (by omega)
theorem place_range {v : V} (h : shallow v = true) (s : ByteArray) : placeV v s = -1 ∨ 0 ≤ placeV v s ∧ placeV v s < v.f4.length := by
  have hl := shallow_len h
  unfold placeV
  split
  · have := numS_ge s
    split
    · omega
    · exact .inl rfl
  · split
    · next h6 =>
      rw [if_pos h6] at hl
      have := idxN_range s v.f3 0
      omega
    · exact .inl rfl
theorem own_items (n : Nat) (ih : ∀ v : V, fm n v = true → Ev (fun k => path_own.f k v.f0 v.f1 v.f2 v.f3 v.f4) (v.f0, v.f1, v.f2, v.f3, v.f4)) (v : V) (h : fm (n + 1) v = true) (b0 b1 : Int) (b2 : ByteArray) (b3 : List ByteArray) :
    ∀ (r p : List V), v.f4 = p ++ r → Ev (fun k => path_own.l0 k (p.length : Int) v.f0 v.f1 v.f2 v.f3 v.f4 b0 b1 b2 b3 p) (b0, b1, b2, b3, v.f4)
  | [], p, e => by
    refine ev_succ ?_
    simp only [path_own.l0]
    exact ev_neg (by rw [e]; simp) (ev_some (by rw [e]; simp))
  | x :: r, p, e => by
    have h24 := (shallow_len (fm_succ h).1).1
    have hlen : v.f4.length = p.length + (r.length + 1) := by rw [e, List.length_append, List.length_cons]
    have hx : rd_T30 v.f4 (p.length : Int) = x := by rw [e]; exact rdV_mid _ _ _
    have hfx : fm n x = true := (fm_succ h).2 x (by rw [e]; simp)
    have jh := own_items n ih v h b0 b1 b2 b3 r (p ++ [x]) (by rw [e]; simp)
    refine ev_succ ?_
    simp only [path_own.l0]
    rw [hx, wrapN (n := p.length) (by unfold maxLen; omega)]
    refine ev_pos (by omega) (ev_pos (by omega) (ev_bind (ih x hfx) (ev_pos (by omega) ?_)))
    obtain ⟨x0, x1, x2, x3, x4⟩ := x
    simpa using jh
theorem own_ev : ∀ (n : Nat) (v : V), fm n v = true → Ev (fun k => path_own.f k v.f0 v.f1 v.f2 v.f3 v.f4) (v.f0, v.f1, v.f2, v.f3, v.f4)
  | 0, _, h => by simp [fm] at h
  | n + 1, v, h => by
    have hl := shallow_len (fm_succ h).1
    have h3 : v.f3.length ≤ 24 := by
      have := hl.2
      split at this <;> omega
    refine ev_succ ?_
    simp only [path_own.f]
    refine ev_pos (by simp; omega) ?_
    have := own_items n (own_ev n) v h v.f0 v.f1 v.f2 ([] ++ v.f3) v.f4 [] rfl
    simpa using this
def getG : V → List ByteArray → Option V
  | v, [] => some v
  | v, s :: r => if placeV v s < 0 then none else getG (rd_T30 v.f4 (placeV v s)) r
/-- What a function that tells a value, or none, hands back. -/
def told : Option V → Int × Int × ByteArray × List ByteArray × List V × Bool
  | none => (0, 0, ⟨#[]⟩, [], [], false)
  | some v => (v.f0, v.f1, v.f2, v.f3, v.f4, true)
theorem rdV_mem {l : List V} {i : Int} (h0 : 0 ≤ i) (h1 : i < l.length) : rd_T30 l i ∈ l := by
  obtain ⟨j, rfl⟩ := Int.eq_ofNat_of_zero_le h0
  rw [rdV_get _ _ (by omega)]
  exact List.getElem_mem _
theorem get_loop (l : List ByteArray) (hl : l.length ≤ maxLen) : ∀ (r p : List ByteArray) (n : Nat) (v : V), l = p ++ r → fm n v = true → FineN n v →
    Ev (fun k => path_Get.l0 k l (p.length : Int) v.f0 v.f1 v.f2 v.f3 v.f4) (told (getG v r))
  | [], p, n, v, e, h, hf => by
    refine ev_succ ?_
    simp only [path_Get.l0]
    refine ev_neg (by rw [e]; simp) (ev_bind (own_ev n v h) (ev_some rfl))
  | s :: r, p, n, v, e, h, hf => by
    obtain ⟨n, rfl⟩ : ∃ m, n = m + 1 := ⟨n - 1, by cases n with | zero => simp [fm] at h | succ n => rfl⟩
    have hs := (fm_succ h).1
    have hlen : l.length = p.length + (r.length + 1) := by rw [e, List.length_append, List.length_cons]
    have hx : rdOf ByteArray.empty l (p.length : Int) = s := by rw [e]; exact rdS_mid _ _ _
    refine ev_succ ?_
    simp only [path_Get.l0]
    rw [hx, wrapN (by omega)]
    unfold getG
    refine ev_pos (by omega) (ev_pos (by omega) (ev_bind (place_ev v s hf.2.2.2.1) (ev_ite (fun c => ev_some (by rw [if_pos c]; rfl)) (fun c => ?_))))
    rw [if_neg c]
    have hp : 0 ≤ placeV v s ∧ placeV v s < v.f4.length := by
      rcases place_range hs s with q | q
      · omega
      · exact q
    have hm := rdV_mem hp.1 hp.2
    have := get_loop l hl r (p ++ [s]) n _ (by rw [e]; simp) ((fm_succ h).2 _ hm) (hf.2.2.2.2.2.2 _ hm)
    exact ev_pos (by omega) (ev_pos hp.2 (by simpa using this))
theorem rget_loop (l : List ByteArray) (hl : l.length ≤ maxLen) : ∀ (r p : List ByteArray) (n : Nat) (v : V), l = p ++ r → fm n v = true → FineN n v →
    Ev (fun k => munimentref02_Get.l0 k l (p.length : Int) v.f0 v.f1 v.f2 v.f3 v.f4) (told (getG v r))
  | [], p, n, v, e, h, hf => by
    refine ev_succ ?_
    simp only [munimentref02_Get.l0]
    refine ev_neg (by rw [e]; simp) (ev_some rfl)
  | s :: r, p, n, v, e, h, hf => by
    obtain ⟨n, rfl⟩ : ∃ m, n = m + 1 := ⟨n - 1, by cases n with | zero => simp [fm] at h | succ n => rfl⟩
    have hs := (fm_succ h).1
    have hlen : l.length = p.length + (r.length + 1) := by rw [e, List.length_append, List.length_cons]
    have hx : rdOf ByteArray.empty l (p.length : Int) = s := by rw [e]; exact rdS_mid _ _ _
    refine ev_succ ?_
    simp only [munimentref02_Get.l0]
    rw [hx, wrapN (by omega)]
    unfold getG
    refine ev_pos (by omega) (ev_pos (by omega) (ev_bind (rplace_ev v s hf.2.2.2.1) (ev_ite (fun c => ev_some (by rw [if_pos c]; rfl)) (fun c => ?_))))
    rw [if_neg c]
    have hp : 0 ≤ placeV v s ∧ placeV v s < v.f4.length := by
      rcases place_range hs s with q | q
      · omega
      · exact q
    have hm := rdV_mem hp.1 hp.2
    have := rget_loop l hl r (p ++ [s]) n _ (by rw [e]; simp) ((fm_succ h).2 _ hm) (hf.2.2.2.2.2.2 _ hm)
    exact ev_pos (by omega) (ev_pos hp.2 (by simpa using this))
theorem steps_len (s : ByteArray) : (steps s).1.length ≤ maxLen := by
  have := steps_length s
  unfold maxLen
  omega
/-- What stands in a value at a path, if both are formed. -/
def getP (v : V) (s : ByteArray) : Option V := if (steps s).2 = 0 ∧ fm 6 v = true then getG v (steps s).1 else none
theorem fine_fm : ∀ {n m : Nat} {v : V}, FineN m v → fm n v = true → FineN n v
  | 0, _, _, _, h => by simp [fm] at h
  | n + 1, 0, _, h, _ => h.elim
  | n + 1, m + 1, v, ⟨h0, h1, h2, h3, h4, h5, h6⟩, h => ⟨h0, h1, h2, h3, h4, h5, fun x hx => fine_fm (h6 x hx) ((fm_succ h).2 x hx)⟩
theorem Get_ev {m : Nat} (v : V) (hv : FineN m v) (s : ByteArray) (hs : s.size < 1000000) : Ev (fun k => path_Get.f k v.f0 v.f1 v.f2 v.f3 v.f4 s) (told (getP v s)) := by
  have no : Ev (fun k => path_Get.j0 k (steps s).1 true v.f0 v.f1 v.f2 v.f3 v.f4) (told none) := by
    refine ev_succ ?_
    simp only [path_Get.j0]
    exact ev_pos trivial (ev_some rfl)
  unfold path_Get.f getP
  refine ev_bind (steps_ev s hs) (ev_ite (fun h0 => ev_bind (Formed_ev hv) ?_) (fun h0 => ?_))
  · by_cases h : fm 6 v = true
    · rw [if_pos ⟨h0, h⟩, h]
      refine ev_succ ?_
      simp only [path_Get.j0]
      exact ev_neg (by simp) (get_loop _ (steps_len s) (steps s).1 [] 6 v rfl h (fine_fm hv h))
    · rw [if_neg (fun c => h c.2)]
      simp only [Bool.not_eq_true] at h
      rw [h]
      exact no
  · rw [if_neg (fun c => h0 c.1)]
    exact no
theorem RGet_ev {m : Nat} (v : V) (hv : FineN m v) (s : ByteArray) (hs : s.size < 1000000) : Ev (fun k => munimentref02_Get.f k v.f0 v.f1 v.f2 v.f3 v.f4 s) (told (getP v s)) := by
  have no : Ev (fun k => munimentref02_Get.j0 k (steps s).1 true v.f0 v.f1 v.f2 v.f3 v.f4) (told none) := by
    refine ev_succ ?_
    simp only [munimentref02_Get.j0]
    exact ev_pos trivial (ev_some rfl)
  unfold munimentref02_Get.f getP
  refine ev_bind (rsteps_ev s hs) (ev_ite (fun h0 => ev_bind (rFormed_ev hv) ?_) (fun h0 => ?_))
  · by_cases h : fm 6 v = true
    · rw [if_pos ⟨h0, h⟩, h]
      refine ev_succ ?_
      simp only [munimentref02_Get.j0]
      exact ev_neg (by simp) (rget_loop _ (steps_len s) (steps s).1 [] 6 v rfl h (fine_fm hv h))
    · rw [if_neg (fun c => h c.2)]
      simp only [Bool.not_eq_true] at h
      rw [h]
      exact no
  · rw [if_neg (fun c => h0 c.1)]
    exact no
end Go.Proofs.YteblbippmllfkaaDoor.Pl
