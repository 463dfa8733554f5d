import Derived.Test.YtmphdmhpfghfkaaDoorZkltsKeysO
set_option linter.unusedSimpArgs false
set_option linter.unusedVariables false
namespace Go.Proofs.YtmphdmhpfghfkaaDoor.Pl
open Go.RowKit Go.Proofs.YtmphdmhpfghfkaaDoorW.PrintWords Go.Proofs.YtmphdmhpfghfkaaDoorW.PrintMore Go.Proofs.YtmphdmhpfghfkaaDoor.PK
/-- Every byte turned. -/
def turnB (l : List Int) : List Int := l.map fun c => 255 - c
theorem turnB_len (l : List Int) : (turnB l).length = l.length := by simp [turnB]
theorem turnB_append (a b : List Int) : turnB (a ++ b) = turnB a ++ turnB b := by simp [turnB]
theorem turnB_turnB (l : List Int) : turnB (turnB l) = l := by
  unfold turnB
  rw [List.map_map]
  conv => rhs; rw [← List.map_id l]
  apply List.map_congr_left
  intro c _
  show 255 - (255 - c) = c
  omega
/-- Of two lists of which none is the other's beginning, the turned ones are ordered the other way round, whatever stands behind. -/
theorem ltL_turn : ∀ a b : List Int, (∀ s t, ¬ a ++ s = b ++ t) → ∀ x y, ltL (turnB a ++ x) (turnB b ++ y) = ltL b a
  | [], b, h, _, _ => absurd (by simp) (h b [])
  | p :: a, [], h, _, _ => absurd (by simp) (h [] (p :: a))
  | p :: a, q :: b, h, x, y => by
    show (if 255 - p = 255 - q then ltL (turnB a ++ x) (turnB b ++ y) else decide (255 - p < 255 - q)) = if q = p then ltL b a else decide (q < p)
    by_cases e : p = q
    · subst e
      rw [if_pos rfl, if_pos rfl]
      exact ltL_turn a b (fun s t hst => h s t (by simp [hst])) x y
    · rw [if_neg (by omega), if_neg (fun h' => e h'.symm)]
      by_cases hq : q < p
      · rw [decide_eq_true hq, decide_eq_true (by omega)]
      · rw [decide_eq_false hq, decide_eq_false (by omega)]
theorem Cut.turn {n : Nat} {v w : V} (hv : fm n v = true) (hw : fm n w = true) (fv : FineN n v) (fw : FineN n w) : Cut (-(cmpV n v w)) (turnB (keyV n v)) (turnB (keyV n w)) := by
  intro x y
  by_cases hc : cmpV n v w = 0
  · rw [(keyV_inj hv hw fv fw).2 hc, ltL_append, hc]
    simp
  · rw [ltL_turn _ _ (fun s t => keyV_free hv hw fv fw hc) x y, keyV_lt hw hv fw fv, if_neg (by omega)]
    have h3 := (good_cmpV n).anti v w hv hw
    by_cases h : cmpV n w v < 0
    · rw [decide_eq_true h, decide_eq_true (by omega)]
    · rw [decide_eq_false h, decide_eq_false (by omega)]
/-- The flag of the first one. -/
def flag (fs : List Bool) : Bool := fs.headD false
theorem flag_drop (fs : List Bool) (i : Nat) : flag (fs.drop i) = fs.getD i false := by
  unfold flag
  rw [List.headD_eq_head?_getD, List.head?_drop, List.getD_eq_getElem?_getD]
def comp (n : Nat) : List V → List Bool → List Int
  | [], _ => []
  | v :: l, fs => (if flag fs = true then turnB (keyV n v) else keyV n v) ++ comp n l fs.tail
def cmpD (n : Nat) : List V → List V → List Bool → Int
  | [], _, _ => 0
  | _ :: _, [], _ => 0
  | v :: l, w :: m, fs => or2 (if flag fs = true then -(cmpV n v w) else cmpV n v w) (cmpD n l m fs.tail)
theorem comp_cut (n : Nat) : ∀ (l m : List V) (fs : List Bool), l.length = m.length → (∀ v ∈ l, fm n v = true ∧ FineN n v) → (∀ v ∈ m, fm n v = true ∧ FineN n v) → Cut (cmpD n l m fs) (comp n l fs) (comp n m fs)
  | [], [], _, _, _, _ => Cut.nil
  | [], _ :: _, _, h, _, _ => by simp at h
  | _ :: _, [], _, h, _, _ => by simp at h
  | v :: l, w :: m, fs, h, hl, hm => by
    have ih := comp_cut n l m fs.tail (by simpa using h) (fun x hx => hl x (by simp [hx])) (fun x hx => hm x (by simp [hx]))
    obtain ⟨v1, v2⟩ := hl v (by simp)
    obtain ⟨w1, w2⟩ := hm w (by simp)
    unfold comp cmpD
    refine Cut.append ?_ (fun _ => ih)
    by_cases f : flag fs = true
    · rw [if_pos f, if_pos f, if_pos f]
      exact Cut.turn v1 w1 v2 w2
    · rw [if_neg f, if_neg f, if_neg f]
      exact keyV_cut n v w v1 w1 v2 w2
theorem Cut.lt {c : Int} {a b : List Int} (h : Cut c a b) : ltL a b = decide (c < 0) := by
  have := h [] []
  rw [List.append_nil, List.append_nil] at this
  rw [this]
  by_cases hc : c = 0
  · rw [if_pos hc, hc]
    rfl
  · rw [if_neg hc]
theorem Cut.ne {c : Int} {a b : List Int} (h : Cut c a b) (hc : ¬ c = 0) : ¬ a = b := by
  rintro rfl
  have h1 := h [] [0]
  have h2 := h [0] []
  rw [if_neg hc, ltL_append] at h1 h2
  rw [← h1] at h2
  simp [ltL] at h2
theorem cmpD_zero (n : Nat) : ∀ (l m : List V) (fs : List Bool), l.length = m.length → (∀ v ∈ l, fm n v = true) → (∀ v ∈ m, fm n v = true) → cmpD n l m fs = 0 → l = m
  | [], [], _, _, _, _, _ => rfl
  | [], _ :: _, _, h, _, _, _ => by simp at h
  | _ :: _, [], _, h, _, _, _ => by simp at h
  | v :: l, w :: m, fs, h, hl, hm, hz => by
    unfold cmpD or2 at hz
    by_cases hd : (if flag fs = true then -(cmpV n v w) else cmpV n v w) = 0
    · rw [if_pos hd] at hz
      have e0 : cmpV n v w = 0 := by split at hd <;> omega
      rw [((good_cmpV n).zero v w (hl v (by simp)) (hm w (by simp))).1 e0, cmpD_zero n l m fs.tail (by simpa using h) (fun x hx => hl x (by simp [hx])) (fun x hx => hm x (by simp [hx])) hz]
    · rw [if_neg hd] at hz
      exact absurd hz hd
theorem comp_same {n : Nat} {l m : List V} {fs : List Bool} (h : l.length = m.length) (hl : ∀ v ∈ l, fm n v = true ∧ FineN n v) (hm : ∀ v ∈ m, fm n v = true ∧ FineN n v) : comp n l fs = comp n m fs ↔ cmpD n l m fs = 0 := by
  constructor
  · intro e
    by_cases hc : cmpD n l m fs = 0
    · exact hc
    · exact absurd e ((comp_cut n l m fs h hl hm).ne hc)
  · intro hz
    rw [cmpD_zero n l m fs h (fun v hv => (hl v hv).1) (fun v hv => (hm v hv).1) hz]
theorem comp_len {n : Nat} : ∀ (l : List V) (fs : List Bool), (∀ v ∈ l, fm n v = true) → (comp n l fs).length ≤ l.length * bnd n
  | [], _, _ => by simp [comp]
  | v :: l, fs, h => by
    have ih := comp_len l fs.tail (fun x hx => h x (by simp [hx]))
    have := keyV_len n v (h v (by simp))
    unfold comp
    rw [List.length_append, List.length_cons, Nat.succ_mul]
    have e : (if flag fs = true then turnB (keyV n v) else keyV n v).length = (keyV n v).length := by split <;> simp [turnB_len]
    omega
/-- One more value behind. -/
theorem comp_snoc (n : Nat) : ∀ (l : List V) (v : V) (fs : List Bool), comp n (l ++ [v]) fs = comp n l fs ++ (if fs.getD l.length false = true then turnB (keyV n v) else keyV n v)
  | [], v, fs => by
    have : flag fs = fs.getD 0 false := by have := flag_drop fs 0; rwa [List.drop_zero] at this
    simp [comp, this]
  | w :: l, v, fs => by
    have ih := comp_snoc n l v fs.tail
    have e : fs.tail.getD l.length false = fs.getD (w :: l).length false := by
      cases fs <;> simp
    rw [e] at ih
    show comp n (w :: (l ++ [v])) fs = _
    unfold comp
    rw [ih, List.append_assoc]
/-- One more value looked at. -/
theorem cmpD_snoc (n : Nat) : ∀ (l m : List V) (v w : V) (fs : List Bool), l.length = m.length → cmpD n (l ++ [v]) (m ++ [w]) fs = or2 (cmpD n l m fs) (if fs.getD l.length false = true then -(cmpV n v w) else cmpV n v w)
  | [], [], v, w, fs, _ => by
    have : flag fs = fs.getD 0 false := by have := flag_drop fs 0; rwa [List.drop_zero] at this
    simp only [List.nil_append, cmpD, this, or2_left, or2_right, List.length_nil]
  | [], _ :: _, _, _, _, h => by simp at h
  | _ :: _, [], _, _, _, h => by simp at h
  | a :: l, b :: m, v, w, fs, h => by
    have ih := cmpD_snoc n l m v w fs.tail (by simpa using h)
    have e : fs.tail.getD l.length false = fs.getD (a :: l).length false := by
      cases fs <;> simp
    rw [e] at ih
    show cmpD n (a :: (l ++ [v])) (b :: (m ++ [w])) fs = _
    unfold cmpD
    rw [ih]
    unfold or2
    split <;> (try split) <;> (try rfl) <;> rename_i h1 <;> simp_all
theorem keyV_bytes : ∀ (n : Nat) (v : V), fm n v = true → FineN n v → Bytes (keyV n v)
  | 0, _, h, _ => by simp [fm] at h
  | n + 1, v, h, f => by
    have hk := shallow_kind (fm_succ h).1
    have hx := bounds_i64 f.2.1
    rw [keyV_tail]
    refine Bytes.append (Bytes.cons (by unfold Byte; omega) Bytes.nil) ?_
    unfold tailV
    split
    · exact b8_bytes _
    · split
      · exact Bytes.append (esc_bytes (tb_bytes _)) (Bytes.cons (by unfold Byte; omega) (Bytes.cons (by unfold Byte; omega) Bytes.nil))
      · split
        · exact Bytes.nil
        · refine Bytes.append ?_ (Bytes.cons (by unfold Byte; omega) Bytes.nil)
          intro x hx'
          obtain ⟨l, hl, hxl⟩ := List.mem_flatten.1 hx'
          obtain ⟨p, hp, rfl⟩ := List.mem_map.1 hl
          refine Bytes.append ?_ (keyV_bytes n p.2 (mem_fm h p hp) (mem_fine f p hp)) x hxl
          unfold nameB
          split
          · exact Bytes.append (Bytes.cons (by unfold Byte; omega) Bytes.nil) (Bytes.append (esc_bytes (tb_bytes _)) (Bytes.cons (by unfold Byte; omega) (Bytes.cons (by unfold Byte; omega) Bytes.nil)))
          · exact Bytes.nil
end Go.Proofs.YtmphdmhpfghfkaaDoor.Pl
