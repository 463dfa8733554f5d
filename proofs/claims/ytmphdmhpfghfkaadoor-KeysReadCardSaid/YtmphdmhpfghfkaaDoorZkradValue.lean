import Derived.Test.YtmphdmhpfghfkaaDoorZkradEv
import Derived.Test.YtmphdmhpfghfkaaDoorZkradUtf
import Derived.Test.YtmphdmhpfghfkaaDoorZkradPKx13
import Derived.Test.YtmphdmhpfghfkaaDoorZkradPKx3
import Derived.Test.YtmphdmhpfghfkaaDoorZkradPre
import Derived.Test.YtmphdmhpfghfkaaDoorZkradPKx0
set_option linter.unusedSimpArgs false
set_option linter.unusedVariables false
namespace Go.Proofs.YtmphdmhpfghfkaaDoor.Pl
open Go.RowKit Go.Proofs.YtmphdmhpfghfkaaDoorW.PrintWords Go.Proofs.YtmphdmhpfghfkaaDoorW.PrintMore Go.Proofs.YtmphdmhpfghfkaaDoor.PK
abbrev V := S25
theorem rdV_get (l : List V) (i : Nat) (h : i < l.length) : rd_T25 l (i : Int) = l[i] := by
  unfold rd_T25
  rw [Int.toNat_natCast, List.getD_eq_getElem?_getD, List.getElem?_eq_getElem h]
  rfl
theorem rdV_mid (p r : List V) (x : V) : rd_T25 (p ++ x :: r) (p.length : Int) = x := by
  rw [rdV_get _ _ (by simp)]
  simp
theorem rdS_mid (p r : List ByteArray) (x : ByteArray) : rdOf ByteArray.empty (p ++ x :: r) (p.length : Int) = x := by
  unfold rdOf
  rw [Int.toNat_natCast, List.getD_eq_getElem?_getD]
  simp
/-- Lists of a length that an int holds, numbers of their kinds, nested at most n deep. -/
def FineN : Nat → V → Prop
  | 0, _ => False
  | n + 1, v => (Lit.int .i64 v.f0).wf = true ∧ (Lit.int .i64 v.f1).wf = true ∧ v.f2.size ≤ maxLen ∧ v.f3.length ≤ maxLen ∧ (∀ s ∈ v.f3, s.size ≤ maxLen) ∧ v.f4.length ≤ maxLen ∧ ∀ x ∈ v.f4, FineN n x
theorem FineN.mono : ∀ {n m : Nat} {v : V}, n ≤ m → FineN n v → FineN m v
  | 0, _, _, _, h => h.elim
  | n + 1, 0, _, hm, _ => by omega
  | n + 1, m + 1, v, hm, ⟨h0, h1, h2, h3, h4, h5, h6⟩ => ⟨h0, h1, h2, h3, h4, h5, fun x hx => FineN.mono (by omega) (h6 x hx)⟩
theorem wrapN {n : Nat} (h : n + 1 ≤ maxLen) : wrap64 ((n : Int) + 1) = ((n + 1 : Nat) : Int) := by
  unfold maxLen at h
  rw [wrap64_id (by omega) (by omega)]
  omega
def textB (s : ByteArray) : Bool := decide (s.size ≤ 60) && Lib.validD s.data.toList
theorem text_eq (s : ByteArray) : json_text.f s = some (textB s) := by
  unfold json_text.f textB
  by_cases h : s.size ≤ 60
  · rw [if_pos (by omega)]
    unfold utf8_ValidString.f
    rw [if_pos (by omega)]
    simp [h]
  · rw [if_neg (by omega)]
    simp [h]
theorem rtext_eq (s : ByteArray) : munimentref01_text.f s = some (textB s) := by
  unfold munimentref01_text.f textB
  by_cases h : s.size ≤ 60
  · rw [if_pos (by omega)]
    unfold munimentref01_Valid.f
    rw [if_pos (by omega)]
    simp [h]
  · rw [if_neg (by omega)]
    simp [h]
def lessB (a b : ByteArray) : Bool := Op.bytesLess a.toList b.toList
/-- Names behind a name (or none): each a text, each greater than the one ahead. -/
def namesFrom : Option ByteArray → List ByteArray → Bool
  | _, [] => true
  | p, a :: r => textB a && (match p with | none => true | some q => lessB q a) && namesFrom (some a) r
/-- Formed but for what its members are. -/
def shallow (v : V) : Bool :=
  decide (0 ≤ v.f0) && decide (v.f0 ≤ 6) && (decide (v.f0 = 3) || decide (v.f1 = 0)) && (decide (v.f0 = 4) || decide (v.f2.toList = [])) && textB v.f2 &&
    if v.f0 < 5 then decide (v.f4.length = 0) && decide (v.f3.length = 0)
    else decide (v.f4.length ≤ 24) && decide (v.f3.length = if v.f0 = 6 then v.f4.length else 0) && namesFrom none v.f3
/-- Formed, nested at most so deep. -/
def fm : Nat → V → Bool
  | 0, _ => false
  | n + 1, v => shallow v && v.f4.all (fm n)
theorem anyO_ev {α : Type} {p : Nat → α → Option Bool} {b : α → Bool} : ∀ (l : List α), (∀ x ∈ l, Ev (fun k => p k x) (b x)) → Ev (fun k => anyO (p k) l) (l.any b)
  | [], _ => ev_some rfl
  | x :: l, h => by
    have ih := anyO_ev l (fun y hy => h y (by simp [hy]))
    unfold anyO
    refine ev_bind (h x (by simp)) (ev_ite (fun c => ev_some (by simp [c])) (fun c => ?_))
    simp only [Bool.not_eq_true] at c
    simpa [c] using ih
theorem ev_map {α β : Type} {g : Nat → Option α} {a : α} (f : α → β) (h : Ev g a) : Ev (fun k => (g k).map f) (f a) := by
  obtain ⟨K, h⟩ := h
  exact ⟨K, fun k hk => by show (g k).map f = some (f a); rw [h k hk]; rfl⟩
/-- The loop over the names, and what follows: the members. -/
theorem names_loop (L : Int) (items : List V) (a0 a1 : Int) (a2 : ByteArray) (names : List ByteArray) (hn : names.length ≤ maxLen) (q : Bool)
    (hq : Ev (fun k => (anyO (fun x_ => (json_formed.f k x_.f0 x_.f1 x_.f2 x_.f3 x_.f4 (wrap64 (L - 1))).map (!·)) items).bind fun t => some (!t)) q) :
    ∀ (r p : List ByteArray) (pr : Option ByteArray), names = p ++ r → pr = p.getLast? → Ev (fun k => json_formed.l0 k names (names.length : Int) (p.length : Int) a0 a1 a2 names items L) (namesFrom pr r && q)
  | [], p, pr, e, _ => by
    refine ev_succ ?_
    simp only [json_formed.l0]
    refine ev_neg (by rw [e]; simp) ?_
    simpa [namesFrom] using hq
  | x :: r, p, pr, e, hp => by
    have hl : names.length = p.length + (r.length + 1) := by rw [e, List.length_append, List.length_cons]
    have ih := names_loop L items a0 a1 a2 names hn q hq r (p ++ [x]) (some x) (by rw [e]; simp) (by simp)
    have hx : rdOf ByteArray.empty names (p.length : Int) = x := by rw [e]; exact rdS_mid _ _ _
    refine ev_succ ?_
    simp only [json_formed.l0]
    rw [hx, wrapN (by omega)]
    refine ev_pos (by omega) (ev_pos (by omega) (ev_pos (by omega) (ev_bind0 (text_eq x) ?_)))
    unfold namesFrom
    refine ev_ite (fun ht => ?_) (fun ht => ?_)
    · refine ev_ite (fun hpos => ?_) (fun hpos => ?_)
      · have hp1 : wrap64 ((p.length : Int) - 1) = ((p.length - 1 : Nat) : Int) := by
          unfold maxLen at hn
          rw [wrap64_id (by omega) (by omega)]
          omega
        obtain ⟨p', y, rfl⟩ : ∃ p' y, p = p' ++ [y] := by
          refine ⟨p.dropLast, p.getLast (by intro c; rw [c] at hpos; simp at hpos), ?_⟩
          exact (List.dropLast_concat_getLast _).symm
        have hy : rdOf ByteArray.empty names (((p' ++ [y]).length - 1 : Nat) : Int) = y := by
          rw [e, List.length_append, List.length_singleton, Nat.add_sub_cancel, List.append_assoc]
          exact rdS_mid _ _ _
        rw [hp1]
        rw [hp]
        refine ev_pos (by omega) (ev_pos (by simp at hl ⊢; omega) ?_)
        rw [hy]
        refine ev_ite (fun hlt => ?_) (fun hlt => ev_some ?_)
        · have e1 : (p' ++ [y]).getLast? = some y := by simp
          rw [e1, ht]
          have e2 : lessB y x = true := hlt
          simp only [e2, Bool.true_and]
          have e4 : (((p' ++ [y]).length + 1 : Nat) : Int) = ((((p' ++ [y]) ++ [x]).length : Nat) : Int) := by rw [List.length_append (bs := [x])]; rfl
          rw [e4]
          exact ih
        · have e1 : (p' ++ [y]).getLast? = some y := by simp
          rw [e1]
          have e2 : lessB y x = false := by simpa [lessB] using hlt
          simp [e2]
      · have hp0 : p = [] := List.length_eq_zero_iff.1 (by omega)
        subst hp0
        rw [hp, ht]
        simpa using ih
    · simp only [Bool.not_eq_true] at ht
      exact ev_some (by simp [ht])
theorem formed_ev : ∀ (L n : Nat) (v : V), L ≤ 6 → FineN n v → Ev (fun k => json_formed.f k v.f0 v.f1 v.f2 v.f3 v.f4 (L : Int)) (fm L v) := by
  intro L
  induction L with
  | zero =>
    intro n v _ _
    refine ev_succ ?_
    simp only [json_formed.f]
    refine ev_pos (by omega) (ev_succ ?_)
    simp only [json_formed.j0]
    exact ev_pos (by simp) (ev_some rfl)
  | succ L ih =>
    intro n v hL hv
    obtain ⟨n, rfl⟩ : ∃ m, n = m + 1 := ⟨n - 1, by cases n with | zero => exact hv.elim | succ n => rfl⟩
    obtain ⟨w0, w1, w2, w3, w4, w5, w6⟩ := hv
    have bad : shallow v = false → Ev (fun k => json_formed.j0 k true v.f0 v.f1 v.f2 v.f3 v.f4 ((L + 1 : Nat) : Int)) (fm (L + 1) v) := by
      intro hs
      refine ev_succ ?_
      simp only [json_formed.j0]
      exact ev_pos (by simp) (ev_some (by simp [fm, hs]))
    have hL1 : wrap64 (((L + 1 : Nat) : Int) - 1) = (L : Int) := by rw [wrap64_id (by omega) (by omega)]; omega
    have good : 0 ≤ v.f0 → v.f0 ≤ 6 → (v.f0 = 3 ∨ v.f1 = 0) → (v.f0 = 4 ∨ v.f2.toList = []) → Ev (fun k => json_formed.j0 k (!textB v.f2) v.f0 v.f1 v.f2 v.f3 v.f4 ((L + 1 : Nat) : Int)) (fm (L + 1) v) := by
      intro g0 g1 g2 g3
      cases ht : textB v.f2 with
      | false => exact bad (by simp [shallow, ht])
      | true =>
        have hsh : shallow v = if v.f0 < 5 then decide (v.f4.length = 0) && decide (v.f3.length = 0) else decide (v.f4.length ≤ 24) && decide (v.f3.length = if v.f0 = 6 then v.f4.length else 0) && namesFrom none v.f3 := by
          unfold shallow
          have e2 : (decide (v.f0 = 3) || decide (v.f1 = 0)) = true := by simpa using g2
          have e3 : (decide (v.f0 = 4) || decide (v.f2.toList = [])) = true := by simpa using g3
          rw [e2, e3, ht]
          simp [g0, g1]
        refine ev_succ ?_
        simp only [json_formed.j0]
        refine ev_neg (by simp) (ev_ite (fun h5 => ?_) (fun h5 => ?_))
        · rw [if_pos h5] at hsh
          refine ev_ite (fun hi => ev_some ?_) (fun hi => ev_some ?_)
          · have hi' : v.f4 = [] := List.length_eq_zero_iff.1 (by omega)
            simp only [fm, hsh, hi', List.all_nil, List.length_nil, Bool.and_true]
            rw [Bool.eq_iff_iff]
            simp
          · have : ¬ v.f4.length = 0 := by omega
            simp [fm, hsh, this]
        · rw [if_neg h5] at hsh
          have key : ∀ m : Nat, m = (if v.f0 = 6 then v.f4.length else 0) → Ev (fun k => json_formed.j1 k (m : Int) v.f0 v.f1 v.f2 v.f3 v.f4 ((L + 1 : Nat) : Int)) (fm (L + 1) v) := by
            intro m hm
            rw [← hm] at hsh
            have bad2 : shallow v = false → Ev (fun k => json_formed.j2 k true v.f0 v.f1 v.f2 v.f3 v.f4 ((L + 1 : Nat) : Int)) (fm (L + 1) v) := by
              intro hs
              refine ev_succ ?_
              simp only [json_formed.j2]
              exact ev_pos (by simp) (ev_some (by simp [fm, hs]))
            refine ev_succ ?_
            simp only [json_formed.j1]
            refine ev_ite (fun h24 => bad2 (by rw [hsh]; have : ¬ v.f4.length ≤ 24 := by omega
                                               simp [this])) (fun h24 => ?_)
            by_cases hnm : v.f3.length = m
            · have e1 : ((v.f3.length : Int) != (m : Int)) = false := by rw [hnm]; simp
              rw [e1]
              refine ev_succ ?_
              simp only [json_formed.j2]
              refine ev_neg (by simp) ?_
              have hall := anyO_ev (p := fun k x_ => (json_formed.f k x_.f0 x_.f1 x_.f2 x_.f3 x_.f4 (wrap64 (((L + 1 : Nat) : Int) - 1))).map (!·)) (b := fun x => !fm L x) v.f4 (fun x hx => by
                rw [hL1]
                exact ev_map _ (ih n x (by omega) (w6 x hx)))
              have hq := ev_bind (F := fun _ t => some (!t)) hall (ev_some (r := v.f4.all (fm L)) (by
                rw [List.all_eq_not_any_not]))
              have := names_loop ((L + 1 : Nat) : Int) v.f4 v.f0 v.f1 v.f2 v.f3 w3 _ hq v.f3 [] none rfl rfl
              have e24 : decide (v.f4.length ≤ 24) = true := by simp; omega
              have enm : decide (v.f3.length = m) = true := by simpa using hnm
              rw [e24, enm] at hsh
              simp only [fm, hsh, Bool.true_and]
              exact this
            · have e1 : ((v.f3.length : Int) != (m : Int)) = true := by rw [bne_iff_ne]; omega
              rw [e1]
              refine bad2 ?_
              rw [hsh]
              simp [hnm]
          refine ev_ite (fun h6 => ?_) (fun h6 => ?_)
          · exact key v.f4.length (by rw [if_pos h6])
          · exact key 0 (by rw [if_neg h6])
    refine ev_succ ?_
    simp only [json_formed.f]
    refine ev_neg (by omega) (ev_ite (fun h => bad (by simp [shallow]; omega)) (fun h0 => ?_))
    refine ev_ite (fun h => bad (by simp [shallow]; omega)) (fun h6 => ?_)
    refine ev_ite (fun h3 => ?_) (fun h3 => ?_)
    · refine ev_ite (fun h4 => by omega) (fun h4 => ?_)
      refine ev_ite (fun he => ev_bind0 (text_eq _) (good (by omega) (by omega) (.inl h3) (.inr he))) (fun he => bad (by simp [shallow, h4, he]))
    · refine ev_ite (fun h1 => ?_) (fun h1 => bad (by simp [shallow, h3, h1]))
      refine ev_ite (fun h4 => ev_bind0 (text_eq _) (good (by omega) (by omega) (.inr h1) (.inl h4))) (fun h4 => ?_)
      exact ev_ite (fun he => ev_bind0 (text_eq _) (good (by omega) (by omega) (.inr h1) (.inr he))) (fun he => bad (by simp [shallow, h4, he]))
theorem Formed_ev {n : Nat} {v : V} (hv : FineN n v) : Ev (fun k => json_Formed.f k v.f0 v.f1 v.f2 v.f3 v.f4) (fm 6 v) := by
  unfold json_Formed.f
  exact ev_bind (formed_ev 6 n v (by omega) hv) (ev_some rfl)
end Go.Proofs.YtmphdmhpfghfkaaDoor.Pl
