import Derived.Test.YtegcbfgoomopdaaDoorZonrsPOx0
import Derived.Test.YtegcbfgoomopdaaDoorZonrsPOx1
namespace Go.Proofs.YtegcbfgoomopdaaDoor.PO
open Go.RowKit Go.Proofs.YtegcbfgoomopdaaDoorW.PrintWords Go.Proofs.YtegcbfgoomopdaaDoorW.PrintLast Go.Proofs.YtegcbfgoomopdaaDoorW.PrintMore
attribute [local go_sem] max2_mx_ min2_mn_ max_two min_two max_three min_three max_four min_four   -- for this text's walks alone
set_option linter.unusedVariables false
set_option linter.unusedSimpArgs false
mutual
def json_formed.j0 : Nat → Bool → Int → Int → ByteArray → List ByteArray → List (S30) → Int → Option (Bool)
  | 0, _, _, _, _, _, _, _ => none
  | k + 1, x45, x138000, x138001, x138002, x138003, x138004, x139000 => if x45 = true then (some false) else (if x138000 < 5 then (if (x138004.length : Int) = 0 then (some ((x138003.length : Int) == 0)) else (some false)) else (if x138000 = 6 then (json_formed.j1 k (x138004.length : Int) x138000 x138001 x138002 x138003 x138004 x139000) else (json_formed.j1 k 0 x138000 x138001 x138002 x138003 x138004 x139000)))
def json_formed.j1 : Nat → Int → Int → Int → ByteArray → List ByteArray → List (S30) → Int → Option (Bool)
  | 0, _, _, _, _, _, _, _ => none
  | k + 1, x5, x138000, x138001, x138002, x138003, x138004, x139000 => if (x138004.length : Int) > 24 then (json_formed.j2 k true x138000 x138001 x138002 x138003 x138004 x139000) else (json_formed.j2 k ((x138003.length : Int) != x5) x138000 x138001 x138002 x138003 x138004 x139000)
def json_formed.j2 : Nat → Bool → Int → Int → ByteArray → List ByteArray → List (S30) → Int → Option (Bool)
  | 0, _, _, _, _, _, _, _ => none
  | k + 1, x75, x138000, x138001, x138002, x138003, x138004, x139000 => if x75 = true then (some false) else (json_formed.l0 k x138003 (x138003.length : Int) 0 x138000 x138001 x138002 x138003 x138004 x139000)
def json_formed.l0 : Nat → List ByteArray → Int → Int → Int → Int → ByteArray → List ByteArray → List (S30) → Int → Option (Bool)
  | 0, _, _, _, _, _, _, _, _, _ => none
  | k + 1, x77, x78, x79, x138000, x138001, x138002, x138003, x138004, x139000 => if x79 < x78 then (if 0 ≤ x79 then (if x79 < (x77.length : Int) then ((json_text.f (rdOf ByteArray.empty x77 x79)).bind fun t144 => (if t144 = true then (if x79 > 0 then (if 0 ≤ (wrap64 (x79 - 1)) then (if (wrap64 (x79 - 1)) < (x138003.length : Int) then (if ((Op.bytesLess ((rdOf ByteArray.empty x138003 (wrap64 (x79 - 1))).toList) ((rdOf ByteArray.empty x77 x79).toList)) = true) then (json_formed.l0 k x77 x78 (wrap64 (x79 + 1)) x138000 x138001 x138002 x138003 x138004 x139000) else (some false)) else (none)) else (none)) else (json_formed.l0 k x77 x78 (wrap64 (x79 + 1)) x138000 x138001 x138002 x138003 x138004 x139000)) else (some false))) else (none)) else (none)) else ((anyO (fun x_ => (json_formed.f k x_.f0 x_.f1 x_.f2 x_.f3 x_.f4 (wrap64 (x139000 - 1))).map (!·)) x138004).bind fun t146 => (some (!t146)))
def json_formed.f : Nat → Int → Int → ByteArray → List ByteArray → List (S30) → Int → Option (Bool)
  | 0, _, _, _, _, _, _ => none
  | k + 1, a0_0, a0_1, a0_2, l0_3, l0_4, a1 => if a1 = 0 then (json_formed.j0 k true a0_0 a0_1 a0_2 l0_3 l0_4 a1) else (if a0_0 < 0 then (json_formed.j0 k true a0_0 a0_1 a0_2 l0_3 l0_4 a1) else (if a0_0 > 6 then (json_formed.j0 k true a0_0 a0_1 a0_2 l0_3 l0_4 a1) else (if a0_0 = 3 then (if a0_0 = 4 then ((json_text.f a0_2).bind fun t139 => (json_formed.j0 k (!t139) a0_0 a0_1 a0_2 l0_3 l0_4 a1)) else (if a0_2.toList = ([] : List UInt8) then ((json_text.f a0_2).bind fun t140 => (json_formed.j0 k (!t140) a0_0 a0_1 a0_2 l0_3 l0_4 a1)) else (json_formed.j0 k true a0_0 a0_1 a0_2 l0_3 l0_4 a1))) else (if a0_1 = 0 then (if a0_0 = 4 then ((json_text.f a0_2).bind fun t141 => (json_formed.j0 k (!t141) a0_0 a0_1 a0_2 l0_3 l0_4 a1)) else (if a0_2.toList = ([] : List UInt8) then ((json_text.f a0_2).bind fun t142 => (json_formed.j0 k (!t142) a0_0 a0_1 a0_2 l0_3 l0_4 a1)) else (json_formed.j0 k true a0_0 a0_1 a0_2 l0_3 l0_4 a1))) else (json_formed.j0 k true a0_0 a0_1 a0_2 l0_3 l0_4 a1)))))
end
def json_formed.SomeIdx (b : Bool) (w : World) (e : Ending) (w' : World) : Prop := ∃ i : Int, e = .returned (.int .i64 i) ∧ (0 ≤ i ↔ b = true) ∧ Below w.heap.size w w'
set_option maxHeartbeats 4000000 in
set_option maxRecDepth 100000 in
theorem json_formed.idx (p : S30 → Option Bool) (g : Nat) (A : Option Addr) (c : Nat) (l : List S30) (b : Bool) (w : World) (hr : Kd.C k30 w A l.length l) (hc : l.length ≤ c)
    (hf : ∀ (x : S30) (A3 : Option Addr) (c3 : Nat) (A4 : Option Addr) (c4 : Nat) (bx : Bool) (W : World), Below w.heap.size w W → Kd.C Kd.string W A3 x.f3.length x.f3 → x.f3.length ≤ c3 → Kd.C k30 W A4 x.f4.length x.f4 → x.f4.length ≤ c4 → p x = some bx →
      Calls Tryd.prog 44 #[.agg #[.int .i64 x.f0, .int .i64 x.f1, .string x.f2, .slice A3 x.f3.length c3, .slice A4 x.f4.length c4], .pointer (some ⟨g, 0, none⟩)] W fun e W' => e = .returned (.bool bx) ∧ Below W.heap.size W W')
    (h : anyO p l = some b) :
    Calls Tryd.prog 47 #[.slice A l.length c, .func (.func 44) #[] #[.pointer (some ⟨g, 0, none⟩)]] w (json_formed.SomeIdx b w) := by
  have HR := Aside0.mk hr
  have HC := Aside0.mk hc
  have HF := Aside0.mk hf
  have HL := Aside0.mk hr.2.1
  clear hr hc hf
  have HA : Aside0 (anyO p (l.drop 0) = some b) := Aside0.mk h
  clear h
  have hu30 := Tryd.underlying30
  go_enter Tryd.func47, Tryd.ntmps47
  go_wp2
  go_loopg [4, 8] (l.length + 1) (fun kq v4 v8 w' => ∃ (n : Nat), v8 = .int .i64 (n : Int) ∧ Aside0 (n + kq = l.length + 1) ∧ Aside0 (anyO p (l.drop n) = some b) ∧ Aside0 (Below w.heap.size w w'))
  case atStart => exact ⟨0, rfl, ⟨by omega⟩, HA, ⟨Below.refl _ _⟩⟩
  case round =>
    clear HA
    obtain ⟨n, rfl, HN, HA, HB⟩ := hrel
    by_cases hn : n < l.length
    · obtain ⟨k1, rfl⟩ : ∃ k1, gk = k1 + 1 := ⟨gk - 1, by have := HN.out; omega⟩
      have h0 : (0 : Int) ≤ (n : Int) := by omega
      have h1 : (n : Int) < (l.length : Int) := by omega
      obtain ⟨ad, A3, c3, A4, c4, eA, x0, x1, x2, x3, x4, l3, C3, l4, C4⟩ := at_T30 (Kd.C_below HR.out HB.out) (n : Int) h0 h1
      subst eA
      have ex : rd_T30 l (n : Int) = l[n] := by
        unfold rd_T30
        rw [Int.toNat_natCast, List.getD_eq_getElem?_getD, List.getElem?_eq_getElem hn]
        rfl
      have hA := HA.out
      rw [List.drop_eq_getElem_cons hn, ← ex] at hA
      rw [Int.toNat_natCast] at x0 x1 x2 x3 x4
      clear ex HA
      generalize rd_T30 l (n : Int) = x at *
      unfold anyO at hA
      obtain ⟨bx, hp, hA⟩ := Option.bind_eq_some_iff.1 hA
      have HX := Aside0.mk (HF.out x A3 c3 A4 c4 bx wr HB.out C3 l3 C4 l4 hp)
      have hnl : n < l.length := hn
      have hll := HL.out
      clear C3 C4 hp l3 l4
      cases bx with
      | true =>
        have hb : true = b := by simpa using hA
        subst hb
        clear hA
        go_wp2_with (go_at_call 44; refine HX.out.mono ?_; rintro e w2 ⟨rfl, hb2⟩)
        go_ret
        exact ⟨(n : Int), rfl, ⟨fun _ => rfl, fun _ => by omega⟩, below_step HB.out hb2⟩
      | false =>
        have HA := Aside0.mk (show anyO p (l.drop (n + 1)) = some b by simpa using hA)
        clear hA
        go_wp2_with (go_at_call 44; refine HX.out.mono ?_; rintro e w2 ⟨rfl, hb2⟩)
        go_roundg k1
        case measure => omega
        case rel => exact ⟨n + 1, by go_num, ⟨by have := HN.out; omega⟩, HA, ⟨below_step HB.out hb2⟩⟩
    · have hA := HA.out
      rw [List.drop_eq_nil_of_le (by omega)] at hA
      have hb : false = b := by simpa [anyO] using hA
      subst hb
      clear HA hA
      have hnl : ¬ n < l.length := hn
      go_wp2
      go_ret
      exact ⟨-1, rfl, ⟨fun h => absurd h (by omega), fun h => by cases h⟩, HB.out⟩
set_option maxHeartbeats 4000000 in
set_option maxRecDepth 100000 in
theorem json_formed.contains (p : S30 → Option Bool) (g : Nat) (A : Option Addr) (c : Nat) (l : List S30) (b : Bool) (w : World) (hr : Kd.C k30 w A l.length l) (hc : l.length ≤ c)
    (hf : ∀ (x : S30) (A3 : Option Addr) (c3 : Nat) (A4 : Option Addr) (c4 : Nat) (bx : Bool) (W : World), Below w.heap.size w W → Kd.C Kd.string W A3 x.f3.length x.f3 → x.f3.length ≤ c3 → Kd.C k30 W A4 x.f4.length x.f4 → x.f4.length ≤ c4 → p x = some bx →
      Calls Tryd.prog 44 #[.agg #[.int .i64 x.f0, .int .i64 x.f1, .string x.f2, .slice A3 x.f3.length c3, .slice A4 x.f4.length c4], .pointer (some ⟨g, 0, none⟩)] W fun e W' => e = .returned (.bool bx) ∧ Below W.heap.size W W')
    (h : anyO p l = some b) :
    Calls Tryd.prog 32 #[.slice A l.length c, .func (.func 44) #[] #[.pointer (some ⟨g, 0, none⟩)]] w fun e w' => e = .returned (.bool b) ∧ Below w.heap.size w w' := by
  have HI := Aside0.mk (json_formed.idx p g A c l b w hr hc hf h)
  clear hr hc hf h
  go_enter Tryd.func32, Tryd.ntmps32
  go_wp2_with (go_at_call 47; refine HI.out.mono ?_; rintro e w2 ⟨i, rfl, hi, hb⟩)
  all_goals
    go_ret
    refine ⟨?_, hb⟩
    rfl
set_option maxHeartbeats 4000000 in
set_option maxRecDepth 100000 in
theorem json_formed.lit (k : Nat) (ih : ∀ (a0_0 : Int) (a0_1 : Int) (a0_2 : ByteArray) (A0_3 : Option Addr) (c0_3 : Nat) (l0_3 : List ByteArray) (A0_4 : Option Addr) (c0_4 : Nat) (l0_4 : List (S30)) (a1 : Int) (r : Bool) (w : World) (hr0_3 : Kd.C Kd.string w A0_3 l0_3.length l0_3) (hc0_3 : l0_3.length ≤ c0_3) (hr0_4 : Kd.C k30 w A0_4 l0_4.length l0_4) (hc0_4 : l0_4.length ≤ c0_4) (hT : Tabs w) (h : json_formed.f k a0_0 a0_1 a0_2 l0_3 l0_4 a1 = some r), Calls Tryd.prog 29 #[.agg #[.int .i64 a0_0, .int .i64 a0_1, .string a0_2, .slice A0_3 l0_3.length c0_3, .slice A0_4 l0_4.length c0_4], .int .i64 a1] w fun e w' => e = .returned (.bool r) ∧ Below w.heap.size w w')
    (x : S30) (A3 : Option Addr) (c3 : Nat) (A4 : Option Addr) (c4 : Nat) (g : Nat) (left : Int) (bx : Bool) (w : World) (hr3 : Kd.C Kd.string w A3 x.f3.length x.f3) (hc3 : x.f3.length ≤ c3) (hr4 : Kd.C k30 w A4 x.f4.length x.f4) (hc4 : x.f4.length ≤ c4)
    (hg : w.cell? ⟨g, 0, none⟩ = some (.int .i64 left)) (hT : Tabs w) (h : (json_formed.f k x.f0 x.f1 x.f2 x.f3 x.f4 (wrap64 (left - 1))).map (!·) = some bx) :
    Calls Tryd.prog 44 #[.agg #[.int .i64 x.f0, .int .i64 x.f1, .string x.f2, .slice A3 x.f3.length c3, .slice A4 x.f4.length c4], .pointer (some ⟨g, 0, none⟩)] w fun e w' => e = .returned (.bool bx) ∧ Below w.heap.size w w' := by
  obtain ⟨r, hr, hbx⟩ := Option.map_eq_some_iff.1 h
  subst hbx
  have hlt : g < w.heap.size := World.block_lt_of_cell? w _ hg
  have IH := Aside0.mk (fun (W : World) (hb : Below w.heap.size w W) => ih x.f0 x.f1 x.f2 A3 c3 x.f3 A4 c4 x.f4 (wrap64 (left - 1)) r W (Kd.C_below hr3 hb) hc3 (Kd.C_below hr4 hb) hc4 (tabs_below hT hb) hr)
  clear ih hr3 hc3 hr4 hc4 hT h hr
  have hu30 := Tryd.underlying30
  go_enter Tryd.func44, Tryd.ntmps44
  go_wp2_with (go_at_call 29; refine (IH.out _ ((Below.refl _ _).alloc (Nat.le_refl _) _)).mono ?_; rintro e w2 ⟨rfl, hb2⟩)
  go_ret
  exact ⟨rfl, below_step ((Below.refl _ _).alloc (Nat.le_refl _) _) hb2⟩
theorem json_formed.lit_all (k : Nat) (g : Nat) (left : Int) (W0 : World) (hbk : W0.heap[g]? = some (.cells #[.int .i64 left] 3 (0, 0))) (hT0 : Tabs W0) (ih : ∀ (a0_0 : Int) (a0_1 : Int) (a0_2 : ByteArray) (A0_3 : Option Addr) (c0_3 : Nat) (l0_3 : List ByteArray) (A0_4 : Option Addr) (c0_4 : Nat) (l0_4 : List (S30)) (a1 : Int) (r : Bool) (w : World) (hr0_3 : Kd.C Kd.string w A0_3 l0_3.length l0_3) (hc0_3 : l0_3.length ≤ c0_3) (hr0_4 : Kd.C k30 w A0_4 l0_4.length l0_4) (hc0_4 : l0_4.length ≤ c0_4) (hT : Tabs w) (h : json_formed.f k a0_0 a0_1 a0_2 l0_3 l0_4 a1 = some r), Calls Tryd.prog 29 #[.agg #[.int .i64 a0_0, .int .i64 a0_1, .string a0_2, .slice A0_3 l0_3.length c0_3, .slice A0_4 l0_4.length c0_4], .int .i64 a1] w fun e w' => e = .returned (.bool r) ∧ Below w.heap.size w w') :
    ∀ (x : S30) (A3 : Option Addr) (c3 : Nat) (A4 : Option Addr) (c4 : Nat) (bx : Bool) (W : World), Below W0.heap.size W0 W → Kd.C Kd.string W A3 x.f3.length x.f3 → x.f3.length ≤ c3 → Kd.C k30 W A4 x.f4.length x.f4 → x.f4.length ≤ c4 → (json_formed.f k x.f0 x.f1 x.f2 x.f3 x.f4 (wrap64 (left - 1))).map (!·) = some bx →
      Calls Tryd.prog 44 #[.agg #[.int .i64 x.f0, .int .i64 x.f1, .string x.f2, .slice A3 x.f3.length c3, .slice A4 x.f4.length c4], .pointer (some ⟨g, 0, none⟩)] W fun e W' => e = .returned (.bool bx) ∧ Below W.heap.size W W' := by
  intro x A3 c3 A4 c4 bx W hb h3 l3 h4 l4 h
  have hlt : g < W0.heap.size := blk_lt hbk
  have hc : W.cell? ⟨g, 0, none⟩ = some (.int .i64 left) := (hb.cell (World.block_lt_of_cell? W0 _ ((blk_cell hbk 0).trans rfl))).trans ((blk_cell hbk 0).trans rfl)
  exact json_formed.lit k ih x A3 c3 A4 c4 g left bx W h3 l3 h4 l4 hc (tabs_below hT0 hb) h
set_option maxHeartbeats 8000000 in
set_option maxRecDepth 100000 in
theorem json_formed.calls (k : Nat) : ∀ (a0_0 : Int) (a0_1 : Int) (a0_2 : ByteArray) (A0_3 : Option Addr) (c0_3 : Nat) (l0_3 : List ByteArray) (A0_4 : Option Addr) (c0_4 : Nat) (l0_4 : List (S30)) (a1 : Int) (r : Bool) (w : World) (hr0_3 : Kd.C Kd.string w A0_3 l0_3.length l0_3) (hc0_3 : l0_3.length ≤ c0_3) (hr0_4 : Kd.C k30 w A0_4 l0_4.length l0_4) (hc0_4 : l0_4.length ≤ c0_4) (hT : Tabs w) (h : json_formed.f k a0_0 a0_1 a0_2 l0_3 l0_4 a1 = some r),
    Calls Tryd.prog 29 #[.agg #[.int .i64 a0_0, .int .i64 a0_1, .string a0_2, .slice A0_3 l0_3.length c0_3, .slice A0_4 l0_4.length c0_4], .int .i64 a1] w fun e w' => e = .returned (.bool r) ∧ Below w.heap.size w w' := by
  induction k using Nat.strongRecOn with
  | _ k ih =>
  intro a0_0 a0_1 a0_2 A0_3 c0_3 l0_3 A0_4 c0_4 l0_4 a1 r w hr0_3 hc0_3 hr0_4 hc0_4 hT h
  cases k with
  | zero => exact absurd h (by simp [json_formed.f])
  | succ k =>
  simp only [json_formed.f] at h
  have hu30 := Tryd.underlying30
  have HT := Aside0.mk hT
  clear hT
  have HR0_3 := Aside0.mk hr0_3
  have HC0_3 := Aside0.mk hc0_3
  clear hr0_3 hc0_3
  have HR0_4 := Aside0.mk hr0_4
  have HC0_4 := Aside0.mk hc0_4
  clear hr0_4 hc0_4
  have HB := Aside0.mk (Below.refl w.heap.size w)
  have H : (if a1 = 0 then (json_formed.j0 k true a0_0 a0_1 a0_2 l0_3 l0_4 a1) else (if a0_0 < 0 then (json_formed.j0 k true a0_0 a0_1 a0_2 l0_3 l0_4 a1) else (if a0_0 > 6 then (json_formed.j0 k true a0_0 a0_1 a0_2 l0_3 l0_4 a1) else (if a0_0 = 3 then (if a0_0 = 4 then ((json_text.f a0_2).bind fun t139 => (json_formed.j0 k (!t139) a0_0 a0_1 a0_2 l0_3 l0_4 a1)) else (if a0_2.toList = ([] : List UInt8) then ((json_text.f a0_2).bind fun t140 => (json_formed.j0 k (!t140) a0_0 a0_1 a0_2 l0_3 l0_4 a1)) else (json_formed.j0 k true a0_0 a0_1 a0_2 l0_3 l0_4 a1))) else (if a0_1 = 0 then (if a0_0 = 4 then ((json_text.f a0_2).bind fun t141 => (json_formed.j0 k (!t141) a0_0 a0_1 a0_2 l0_3 l0_4 a1)) else (if a0_2.toList = ([] : List UInt8) then ((json_text.f a0_2).bind fun t142 => (json_formed.j0 k (!t142) a0_0 a0_1 a0_2 l0_3 l0_4 a1)) else (json_formed.j0 k true a0_0 a0_1 a0_2 l0_3 l0_4 a1))) else (json_formed.j0 k true a0_0 a0_1 a0_2 l0_3 l0_4 a1)))))) = some r := h
  clear h
  have HC3 := Aside0.mk H
  clear H
  go_enter Tryd.func29, Tryd.ntmps29
  go_upto_region 1 with (first | ((with_reducible refine gate_dst (N := 2) rfl ?_); (try (refine gate_guard (by rfl) ?_; dsimp only)); refine box_event ?hg (N := 2) ?hd (cs := #[.int .i64 a0_0, .int .i64 a0_1, .string a0_2, .slice A0_3 l0_3.length c0_3, .slice A0_4 l0_4.length c0_4]) (t := 30) ?hr ?_; (case hd => rfl); (case hg => rfl); (case hr => first | (go_simp; done) | (go_simp; rfl)); intro gb137 hg w4 hbox hb; have n0_ := Aside0.mk (below_step (by repeat (first | (with_reducible first | exact HB.out | apply below_alloc | apply pw_below_drewN | apply below_drew1) | exact HB.out)) hb); have n1_ := Aside0.mk (hbox); have n2_ := Aside0.mk ((by rw [hg]; exact (below_size (by repeat (first | (with_reducible first | exact HB.out | apply below_alloc | apply pw_below_drewN | apply below_drew1) | exact HB.out))) : w.heap.size ≤ gb137)); have n3_ := Aside0.mk ((by rw [hg]; exact (below_size (by repeat (first | (with_reducible first | exact HB.out | apply below_alloc | apply pw_below_drewN | apply below_drew1) | exact HB.out))) : w.heap.size ≤ gb137)); clear HB; have HB := n0_; have BK137 := n1_; have GW137 := n2_; have GE137 := n3_; clear n0_ n1_ n2_ n3_; clear hb hbox hg) | ((with_reducible refine gate_dst (N := 3) rfl ?_); (try (refine gate_guard (by rfl) ?_; dsimp only)); refine box_event ?hg (N := 3) ?hd (cs := #[.int .i64 a1]) (t := 3) ?hr ?_; (case hd => rfl); (case hg => rfl); (case hr => first | (go_simp; done) | (go_simp; rfl)); intro gb138 hg w5 hbox hb; have n0_ := Aside0.mk (blk_below (g := gb137) (o := .cells #[.int .i64 a0_0, .int .i64 a0_1, .string a0_2, .slice A0_3 l0_3.length c0_3, .slice A0_4 l0_4.length c0_4] 30 (0, 0)) (by (with_reducible repeat (first | refine blk_drewN ?_ _ | refine blk_drew ?_ | refine blk_alloc ?_ _)); exact BK137.out) hb); have n1_ := Aside0.mk (below_step (by repeat (first | (with_reducible first | exact HB.out | apply below_alloc | apply pw_below_drewN | apply below_drew1 | refine below_set ?_ GE137.out) | exact HB.out)) hb); have n2_ := Aside0.mk (hbox); have n3_ := Aside0.mk ((by rw [hg]; exact (below_size (by repeat (first | (with_reducible first | exact HB.out | apply below_alloc | apply pw_below_drewN | apply below_drew1 | refine below_set ?_ GE137.out) | exact HB.out))) : w.heap.size ≤ gb138)); have n4_ := Aside0.mk ((by rw [hg]; exact (below_size (by repeat (first | (with_reducible first | exact HB.out | apply below_alloc | apply pw_below_drewN | apply below_drew1 | refine below_set ?_ GE137.out) | exact HB.out))) : w.heap.size ≤ gb138)); have n5_ := Aside0.mk ((by rw [hg]; exact Nat.ne_of_lt (blk_lt (g := gb137) (o := .cells #[.int .i64 a0_0, .int .i64 a0_1, .string a0_2, .slice A0_3 l0_3.length c0_3, .slice A0_4 l0_4.length c0_4] 30 (0, 0)) (by (with_reducible repeat (first | refine blk_drewN ?_ _ | refine blk_drew ?_ | refine blk_alloc ?_ _)); exact BK137.out)) : gb137 ≠ gb138)); have n6_ := Aside0.mk ((by rw [hg]; exact Nat.ne_of_gt (blk_lt (g := gb137) (o := .cells #[.int .i64 a0_0, .int .i64 a0_1, .string a0_2, .slice A0_3 l0_3.length c0_3, .slice A0_4 l0_4.length c0_4] 30 (0, 0)) (by (with_reducible repeat (first | refine blk_drewN ?_ _ | refine blk_drew ?_ | refine blk_alloc ?_ _)); exact BK137.out)) : gb138 ≠ gb137)); clear BK137; clear HB; have BK137 := n0_; have HB := n1_; have BK138 := n2_; have GW138 := n3_; have GE138 := n4_; have NB137_138 := n5_; have NB138_137 := n6_; clear n0_ n1_ n2_ n3_ n4_ n5_ n6_; clear hb hbox hg))
  (try simp only [Act.put, List.setIfInBounds_toArray, List.set_cons_zero, List.set_cons_succ])
  go_cut [45] (fun v45 wc => ∃ (kq : Nat) (x45_2 : Bool), v45 = .bool x45_2 ∧ Aside0 (json_formed.j0 kq x45_2 a0_0 a0_1 a0_2 l0_3 l0_4 a1 = some r) ∧ Aside0 (kq ≤ k) ∧ Aside0 (wc.heap[gb137]? = some (.cells #[.int .i64 a0_0, .int .i64 a0_1, .string a0_2, (.slice A0_3 l0_3.length c0_3), (.slice A0_4 l0_4.length c0_4)] 30 (0, 0))) ∧ Aside0 (wc.heap[gb138]? = some (.cells #[.int .i64 a1] 3 (0, 0))) ∧ Aside0 (Below w.heap.size w wc))
  case first =>
    have H := HC3.out
    clear HC3
    by_cases c6 : a1 = 0
    · rw [if_pos c6] at H
      have c6b0 : (a1 == 0) = true := beq_iff_eq.mpr c6
      have c6b1 : (a1 != 0) = false := bne_eq_false_iff_eq.mpr c6
      clear c6
      (first | rw [c6b0] | (simp only [i64_w, i32_w]; rw [c6b0]) | skip)
      have H' := Aside0.mk H
      clear H
      have hnb7 := NB138_137.out
      have hnc7 := NB137_138.out
      have hcz8_0 : w5.cell? ⟨gb138, 0, none⟩ = some (.int .i64 a1) := (blk_cell BK138.out 0).trans rfl
      have hfz8_0 := blk_frozen BK138.out 0
      go_wp2
      go_meet
      case rel => exact ⟨_, (true), (by first | rfl | (simp; done) | (simp [*]; done)), H', ⟨by first | omega | exact Nat.le_refl _⟩, ⟨by (with_reducible repeat (first | refine blk_drewN ?_ _ | refine blk_drew ?_ | refine blk_alloc ?_ _)); exact BK137.out⟩, ⟨by (with_reducible repeat (first | refine blk_drewN ?_ _ | refine blk_drew ?_ | refine blk_alloc ?_ _)); exact BK138.out⟩, ⟨by repeat (first | (with_reducible first | exact HB.out | apply below_alloc | apply pw_below_drewN | apply below_drew1 | refine below_set ?_ GE137.out | refine below_set ?_ GE138.out) | exact HB.out)⟩⟩
    · rw [if_neg c6] at H
      have c6b0 : (a1 == 0) = false := beq_eq_false_iff_ne.mpr c6
      have c6b1 : (a1 != 0) = true := bne_iff_ne.mpr c6
      (first | rw [c6b0] | (simp only [i64_w, i32_w]; rw [c6b0]) | skip)
      by_cases c9 : a0_0 < 0
      · rw [if_pos c9] at H
        have c9b0 : decide (a0_0 < 0) = true := decide_eq_true c9
        clear c9
        have H' := Aside0.mk H
        clear H
        have hnb10 := NB138_137.out
        have hnc10 := NB137_138.out
        have hcz11_0 : w5.cell? ⟨gb138, 0, none⟩ = some (.int .i64 a1) := (blk_cell BK138.out 0).trans rfl
        have hfz11_0 := blk_frozen BK138.out 0
        have hcz12_0 : w5.cell? ⟨gb137, 0, none⟩ = some (.int .i64 a0_0) := (blk_cell BK137.out 0).trans rfl
        have hcz12_1 : w5.cell? ⟨gb137, 1, none⟩ = some (.int .i64 a0_1) := (blk_cell BK137.out 1).trans rfl
        have hcz12_2 : w5.cell? ⟨gb137, 2, none⟩ = some (.string a0_2) := (blk_cell BK137.out 2).trans rfl
        have hcz12_3 : w5.cell? ⟨gb137, 3, none⟩ = some (.slice A0_3 l0_3.length c0_3) := (blk_cell BK137.out 3).trans rfl
        have hcz12_4 : w5.cell? ⟨gb137, 4, none⟩ = some (.slice A0_4 l0_4.length c0_4) := (blk_cell BK137.out 4).trans rfl
        have hfz12_0 := blk_frozen BK137.out 0
        have hfz12_1 := blk_frozen BK137.out 1
        have hfz12_2 := blk_frozen BK137.out 2
        have hfz12_3 := blk_frozen BK137.out 3
        have hfz12_4 := blk_frozen BK137.out 4
        go_wp2
        go_meet
        case rel => exact ⟨_, (true), (by first | rfl | (simp; done) | (simp [*]; done)), H', ⟨by first | omega | exact Nat.le_refl _⟩, ⟨by (with_reducible repeat (first | refine blk_drewN ?_ _ | refine blk_drew ?_ | refine blk_alloc ?_ _)); exact BK137.out⟩, ⟨by (with_reducible repeat (first | refine blk_drewN ?_ _ | refine blk_drew ?_ | refine blk_alloc ?_ _)); exact BK138.out⟩, ⟨by repeat (first | (with_reducible first | exact HB.out | apply below_alloc | apply pw_below_drewN | apply below_drew1 | refine below_set ?_ GE137.out | refine below_set ?_ GE138.out) | exact HB.out)⟩⟩
      · rw [if_neg c9] at H
        have c9b0 : decide (a0_0 < 0) = false := decide_eq_false c9
        clear c9
        by_cases c13 : a0_0 > 6
        · rw [if_pos c13] at H
          have c13b0 : decide (6 < a0_0) = true := decide_eq_true c13
          clear c13
          have H' := Aside0.mk H
          clear H
          have hnb14 := NB138_137.out
          have hnc14 := NB137_138.out
          have hcz15_0 : w5.cell? ⟨gb138, 0, none⟩ = some (.int .i64 a1) := (blk_cell BK138.out 0).trans rfl
          have hfz15_0 := blk_frozen BK138.out 0
          have hcz16_0 : w5.cell? ⟨gb137, 0, none⟩ = some (.int .i64 a0_0) := (blk_cell BK137.out 0).trans rfl
          have hcz16_1 : w5.cell? ⟨gb137, 1, none⟩ = some (.int .i64 a0_1) := (blk_cell BK137.out 1).trans rfl
          have hcz16_2 : w5.cell? ⟨gb137, 2, none⟩ = some (.string a0_2) := (blk_cell BK137.out 2).trans rfl
          have hcz16_3 : w5.cell? ⟨gb137, 3, none⟩ = some (.slice A0_3 l0_3.length c0_3) := (blk_cell BK137.out 3).trans rfl
          have hcz16_4 : w5.cell? ⟨gb137, 4, none⟩ = some (.slice A0_4 l0_4.length c0_4) := (blk_cell BK137.out 4).trans rfl
          have hfz16_0 := blk_frozen BK137.out 0
          have hfz16_1 := blk_frozen BK137.out 1
          have hfz16_2 := blk_frozen BK137.out 2
          have hfz16_3 := blk_frozen BK137.out 3
          have hfz16_4 := blk_frozen BK137.out 4
          go_wp2
          go_meet
          case rel => exact ⟨_, (true), (by first | rfl | (simp; done) | (simp [*]; done)), H', ⟨by first | omega | exact Nat.le_refl _⟩, ⟨by (with_reducible repeat (first | refine blk_drewN ?_ _ | refine blk_drew ?_ | refine blk_alloc ?_ _)); exact BK137.out⟩, ⟨by (with_reducible repeat (first | refine blk_drewN ?_ _ | refine blk_drew ?_ | refine blk_alloc ?_ _)); exact BK138.out⟩, ⟨by repeat (first | (with_reducible first | exact HB.out | apply below_alloc | apply pw_below_drewN | apply below_drew1 | refine below_set ?_ GE137.out | refine below_set ?_ GE138.out) | exact HB.out)⟩⟩
        · rw [if_neg c13] at H
          have c13b0 : decide (6 < a0_0) = false := decide_eq_false c13
          clear c13
          by_cases c17 : a0_0 = 3
          · rw [if_pos c17] at H
            have c17b0 : (a0_0 == 3) = true := beq_iff_eq.mpr c17
            have c17b1 : (a0_0 != 3) = false := bne_eq_false_iff_eq.mpr c17
            clear c17
            by_cases c18 : a0_0 = 4
            · rw [if_pos c18] at H
              have c18b0 : (a0_0 == 4) = true := beq_iff_eq.mpr c18
              have c18b1 : (a0_0 != 4) = false := bne_eq_false_iff_eq.mpr c18
              clear c18
              replace H := Option.bind_eq_some_iff.mp H
              obtain ⟨t139, A190, H⟩ := H
              replace H : (json_formed.j0 k (!t139) a0_0 a0_1 a0_2 l0_3 l0_4 a1) = some r := H
              have A19 := Aside0.mk A190
              clear A190
              have H' := Aside0.mk H
              clear H
              have hnb20 := NB138_137.out
              have hnc20 := NB137_138.out
              have hcz21_0 : w5.cell? ⟨gb138, 0, none⟩ = some (.int .i64 a1) := (blk_cell BK138.out 0).trans rfl
              have hfz21_0 := blk_frozen BK138.out 0
              have hcz22_0 : w5.cell? ⟨gb137, 0, none⟩ = some (.int .i64 a0_0) := (blk_cell BK137.out 0).trans rfl
              have hcz22_1 : w5.cell? ⟨gb137, 1, none⟩ = some (.int .i64 a0_1) := (blk_cell BK137.out 1).trans rfl
              have hcz22_2 : w5.cell? ⟨gb137, 2, none⟩ = some (.string a0_2) := (blk_cell BK137.out 2).trans rfl
              have hcz22_3 : w5.cell? ⟨gb137, 3, none⟩ = some (.slice A0_3 l0_3.length c0_3) := (blk_cell BK137.out 3).trans rfl
              have hcz22_4 : w5.cell? ⟨gb137, 4, none⟩ = some (.slice A0_4 l0_4.length c0_4) := (blk_cell BK137.out 4).trans rfl
              have hfz22_0 := blk_frozen BK137.out 0
              have hfz22_1 := blk_frozen BK137.out 1
              have hfz22_2 := blk_frozen BK137.out 2
              have hfz22_3 := blk_frozen BK137.out 3
              have hfz22_4 := blk_frozen BK137.out 4
              go_wp2_with (first | (go_at_call 43; (with_reducible refine (json_text.calls a0_2 t139 _ ?side1 A19.out).mono ?_); (case side1 => first | exact HT.out | (refine tabs_below HT.out ?_; repeat (first | exact HB.out | (with_reducible first | apply below_alloc | apply pw_below_drewN | apply below_drew1 | exact Below.refl _ _) | (refine below_set ?_ (Aside0.out (by assumption)))))); rintro e w23 ⟨rfl, hb⟩; have n0_ := Aside0.mk (blk_below (g := gb137) (o := .cells #[.int .i64 a0_0, .int .i64 a0_1, .string a0_2, .slice A0_3 l0_3.length c0_3, .slice A0_4 l0_4.length c0_4] 30 (0, 0)) (by (with_reducible repeat (first | refine blk_drewN ?_ _ | refine blk_drew ?_ | refine blk_alloc ?_ _)); exact BK137.out) hb); have n1_ := Aside0.mk (blk_below (g := gb138) (o := .cells #[.int .i64 a1] 3 (0, 0)) (by (with_reducible repeat (first | refine blk_drewN ?_ _ | refine blk_drew ?_ | refine blk_alloc ?_ _)); exact BK138.out) hb); have n2_ := Aside0.mk (below_step (by repeat (first | (with_reducible first | exact HB.out | apply below_alloc | apply pw_below_drewN | apply below_drew1 | refine below_set ?_ GE137.out | refine below_set ?_ GE138.out) | exact HB.out)) hb); clear BK137; clear BK138; clear HB; have BK137 := n0_; have BK138 := n1_; have HB := n2_; clear n0_ n1_ n2_; (try clear hb); (try clear hb2); (try clear hk); (try clear hi)))
              go_meet
              case rel => exact ⟨_, (!t139), (by first | rfl | (simp; done) | (simp [*]; done)), H', ⟨by first | omega | exact Nat.le_refl _⟩, ⟨by (with_reducible repeat (first | refine blk_drewN ?_ _ | refine blk_drew ?_ | refine blk_alloc ?_ _)); exact BK137.out⟩, ⟨by (with_reducible repeat (first | refine blk_drewN ?_ _ | refine blk_drew ?_ | refine blk_alloc ?_ _)); exact BK138.out⟩, ⟨by repeat (first | (with_reducible first | exact HB.out | apply below_alloc | apply pw_below_drewN | apply below_drew1 | refine below_set ?_ GE137.out | refine below_set ?_ GE138.out) | exact HB.out)⟩⟩
            · rw [if_neg c18] at H
              have c18b0 : (a0_0 == 4) = false := beq_eq_false_iff_ne.mpr c18
              have c18b1 : (a0_0 != 4) = true := bne_iff_ne.mpr c18
              by_cases c24 : a0_2.toList = ([] : List UInt8)
              · rw [if_pos c24] at H
                have c24b0 : (a0_2.toList == ([] : List UInt8)) = true := beq_iff_eq.mpr c24
                have c24b1 : (a0_2.toList != ([] : List UInt8)) = false := bne_eq_false_iff_eq.mpr c24
                clear c24
                replace H := Option.bind_eq_some_iff.mp H
                obtain ⟨t140, A250, H⟩ := H
                replace H : (json_formed.j0 k (!t140) a0_0 a0_1 a0_2 l0_3 l0_4 a1) = some r := H
                have A25 := Aside0.mk A250
                clear A250
                have H' := Aside0.mk H
                clear H
                have hnb26 := NB138_137.out
                have hnc26 := NB137_138.out
                have hcz27_0 : w5.cell? ⟨gb138, 0, none⟩ = some (.int .i64 a1) := (blk_cell BK138.out 0).trans rfl
                have hfz27_0 := blk_frozen BK138.out 0
                have hcz28_0 : w5.cell? ⟨gb137, 0, none⟩ = some (.int .i64 a0_0) := (blk_cell BK137.out 0).trans rfl
                have hcz28_1 : w5.cell? ⟨gb137, 1, none⟩ = some (.int .i64 a0_1) := (blk_cell BK137.out 1).trans rfl
                have hcz28_2 : w5.cell? ⟨gb137, 2, none⟩ = some (.string a0_2) := (blk_cell BK137.out 2).trans rfl
                have hcz28_3 : w5.cell? ⟨gb137, 3, none⟩ = some (.slice A0_3 l0_3.length c0_3) := (blk_cell BK137.out 3).trans rfl
                have hcz28_4 : w5.cell? ⟨gb137, 4, none⟩ = some (.slice A0_4 l0_4.length c0_4) := (blk_cell BK137.out 4).trans rfl
                have hfz28_0 := blk_frozen BK137.out 0
                have hfz28_1 := blk_frozen BK137.out 1
                have hfz28_2 := blk_frozen BK137.out 2
                have hfz28_3 := blk_frozen BK137.out 3
                have hfz28_4 := blk_frozen BK137.out 4
                go_wp2_with (first | (go_at_call 43; (with_reducible refine (json_text.calls a0_2 t140 _ ?side1 A25.out).mono ?_); (case side1 => first | exact HT.out | (refine tabs_below HT.out ?_; repeat (first | exact HB.out | (with_reducible first | apply below_alloc | apply pw_below_drewN | apply below_drew1 | exact Below.refl _ _) | (refine below_set ?_ (Aside0.out (by assumption)))))); rintro e w29 ⟨rfl, hb⟩; have n0_ := Aside0.mk (blk_below (g := gb137) (o := .cells #[.int .i64 a0_0, .int .i64 a0_1, .string a0_2, .slice A0_3 l0_3.length c0_3, .slice A0_4 l0_4.length c0_4] 30 (0, 0)) (by (with_reducible repeat (first | refine blk_drewN ?_ _ | refine blk_drew ?_ | refine blk_alloc ?_ _)); exact BK137.out) hb); have n1_ := Aside0.mk (blk_below (g := gb138) (o := .cells #[.int .i64 a1] 3 (0, 0)) (by (with_reducible repeat (first | refine blk_drewN ?_ _ | refine blk_drew ?_ | refine blk_alloc ?_ _)); exact BK138.out) hb); have n2_ := Aside0.mk (below_step (by repeat (first | (with_reducible first | exact HB.out | apply below_alloc | apply pw_below_drewN | apply below_drew1 | refine below_set ?_ GE137.out | refine below_set ?_ GE138.out) | exact HB.out)) hb); clear BK137; clear BK138; clear HB; have BK137 := n0_; have BK138 := n1_; have HB := n2_; clear n0_ n1_ n2_; (try clear hb); (try clear hb2); (try clear hk); (try clear hi)))
                go_meet
                case rel => exact ⟨_, (!t140), (by first | rfl | (simp; done) | (simp [*]; done)), H', ⟨by first | omega | exact Nat.le_refl _⟩, ⟨by (with_reducible repeat (first | refine blk_drewN ?_ _ | refine blk_drew ?_ | refine blk_alloc ?_ _)); exact BK137.out⟩, ⟨by (with_reducible repeat (first | refine blk_drewN ?_ _ | refine blk_drew ?_ | refine blk_alloc ?_ _)); exact BK138.out⟩, ⟨by repeat (first | (with_reducible first | exact HB.out | apply below_alloc | apply pw_below_drewN | apply below_drew1 | refine below_set ?_ GE137.out | refine below_set ?_ GE138.out) | exact HB.out)⟩⟩
              · rw [if_neg c24] at H
                have c24b0 : (a0_2.toList == ([] : List UInt8)) = false := beq_eq_false_iff_ne.mpr c24
                have c24b1 : (a0_2.toList != ([] : List UInt8)) = true := bne_iff_ne.mpr c24
                have H' := Aside0.mk H
                clear H
                have hnb30 := NB138_137.out
                have hnc30 := NB137_138.out
                have hcz31_0 : w5.cell? ⟨gb138, 0, none⟩ = some (.int .i64 a1) := (blk_cell BK138.out 0).trans rfl
                have hfz31_0 := blk_frozen BK138.out 0
                have hcz32_0 : w5.cell? ⟨gb137, 0, none⟩ = some (.int .i64 a0_0) := (blk_cell BK137.out 0).trans rfl
                have hcz32_1 : w5.cell? ⟨gb137, 1, none⟩ = some (.int .i64 a0_1) := (blk_cell BK137.out 1).trans rfl
                have hcz32_2 : w5.cell? ⟨gb137, 2, none⟩ = some (.string a0_2) := (blk_cell BK137.out 2).trans rfl
                have hcz32_3 : w5.cell? ⟨gb137, 3, none⟩ = some (.slice A0_3 l0_3.length c0_3) := (blk_cell BK137.out 3).trans rfl
                have hcz32_4 : w5.cell? ⟨gb137, 4, none⟩ = some (.slice A0_4 l0_4.length c0_4) := (blk_cell BK137.out 4).trans rfl
                have hfz32_0 := blk_frozen BK137.out 0
                have hfz32_1 := blk_frozen BK137.out 1
                have hfz32_2 := blk_frozen BK137.out 2
                have hfz32_3 := blk_frozen BK137.out 3
                have hfz32_4 := blk_frozen BK137.out 4
                go_wp2
                go_meet
                case rel => exact ⟨_, (true), (by first | rfl | (simp; done) | (simp [*]; done)), H', ⟨by first | omega | exact Nat.le_refl _⟩, ⟨by (with_reducible repeat (first | refine blk_drewN ?_ _ | refine blk_drew ?_ | refine blk_alloc ?_ _)); exact BK137.out⟩, ⟨by (with_reducible repeat (first | refine blk_drewN ?_ _ | refine blk_drew ?_ | refine blk_alloc ?_ _)); exact BK138.out⟩, ⟨by repeat (first | (with_reducible first | exact HB.out | apply below_alloc | apply pw_below_drewN | apply below_drew1 | refine below_set ?_ GE137.out | refine below_set ?_ GE138.out) | exact HB.out)⟩⟩
          · rw [if_neg c17] at H
            have c17b0 : (a0_0 == 3) = false := beq_eq_false_iff_ne.mpr c17
            have c17b1 : (a0_0 != 3) = true := bne_iff_ne.mpr c17
            by_cases c33 : a0_1 = 0
            · rw [if_pos c33] at H
              have c33b0 : (a0_1 == 0) = true := beq_iff_eq.mpr c33
              have c33b1 : (a0_1 != 0) = false := bne_eq_false_iff_eq.mpr c33
              clear c33
              by_cases c34 : a0_0 = 4
              · rw [if_pos c34] at H
                have c34b0 : (a0_0 == 4) = true := beq_iff_eq.mpr c34
                have c34b1 : (a0_0 != 4) = false := bne_eq_false_iff_eq.mpr c34
                clear c34
                replace H := Option.bind_eq_some_iff.mp H
                obtain ⟨t141, A350, H⟩ := H
                replace H : (json_formed.j0 k (!t141) a0_0 a0_1 a0_2 l0_3 l0_4 a1) = some r := H
                have A35 := Aside0.mk A350
                clear A350
                have H' := Aside0.mk H
                clear H
                have hnb36 := NB138_137.out
                have hnc36 := NB137_138.out
                have hcz37_0 : w5.cell? ⟨gb138, 0, none⟩ = some (.int .i64 a1) := (blk_cell BK138.out 0).trans rfl
                have hfz37_0 := blk_frozen BK138.out 0
                have hcz38_0 : w5.cell? ⟨gb137, 0, none⟩ = some (.int .i64 a0_0) := (blk_cell BK137.out 0).trans rfl
                have hcz38_1 : w5.cell? ⟨gb137, 1, none⟩ = some (.int .i64 a0_1) := (blk_cell BK137.out 1).trans rfl
                have hcz38_2 : w5.cell? ⟨gb137, 2, none⟩ = some (.string a0_2) := (blk_cell BK137.out 2).trans rfl
                have hcz38_3 : w5.cell? ⟨gb137, 3, none⟩ = some (.slice A0_3 l0_3.length c0_3) := (blk_cell BK137.out 3).trans rfl
                have hcz38_4 : w5.cell? ⟨gb137, 4, none⟩ = some (.slice A0_4 l0_4.length c0_4) := (blk_cell BK137.out 4).trans rfl
                have hfz38_0 := blk_frozen BK137.out 0
                have hfz38_1 := blk_frozen BK137.out 1
                have hfz38_2 := blk_frozen BK137.out 2
                have hfz38_3 := blk_frozen BK137.out 3
                have hfz38_4 := blk_frozen BK137.out 4
                go_wp2_with (first | (go_at_call 43; (with_reducible refine (json_text.calls a0_2 t141 _ ?side1 A35.out).mono ?_); (case side1 => first | exact HT.out | (refine tabs_below HT.out ?_; repeat (first | exact HB.out | (with_reducible first | apply below_alloc | apply pw_below_drewN | apply below_drew1 | exact Below.refl _ _) | (refine below_set ?_ (Aside0.out (by assumption)))))); rintro e w39 ⟨rfl, hb⟩; have n0_ := Aside0.mk (blk_below (g := gb137) (o := .cells #[.int .i64 a0_0, .int .i64 a0_1, .string a0_2, .slice A0_3 l0_3.length c0_3, .slice A0_4 l0_4.length c0_4] 30 (0, 0)) (by (with_reducible repeat (first | refine blk_drewN ?_ _ | refine blk_drew ?_ | refine blk_alloc ?_ _)); exact BK137.out) hb); have n1_ := Aside0.mk (blk_below (g := gb138) (o := .cells #[.int .i64 a1] 3 (0, 0)) (by (with_reducible repeat (first | refine blk_drewN ?_ _ | refine blk_drew ?_ | refine blk_alloc ?_ _)); exact BK138.out) hb); have n2_ := Aside0.mk (below_step (by repeat (first | (with_reducible first | exact HB.out | apply below_alloc | apply pw_below_drewN | apply below_drew1 | refine below_set ?_ GE137.out | refine below_set ?_ GE138.out) | exact HB.out)) hb); clear BK137; clear BK138; clear HB; have BK137 := n0_; have BK138 := n1_; have HB := n2_; clear n0_ n1_ n2_; (try clear hb); (try clear hb2); (try clear hk); (try clear hi)))
                go_meet
                case rel => exact ⟨_, (!t141), (by first | rfl | (simp; done) | (simp [*]; done)), H', ⟨by first | omega | exact Nat.le_refl _⟩, ⟨by (with_reducible repeat (first | refine blk_drewN ?_ _ | refine blk_drew ?_ | refine blk_alloc ?_ _)); exact BK137.out⟩, ⟨by (with_reducible repeat (first | refine blk_drewN ?_ _ | refine blk_drew ?_ | refine blk_alloc ?_ _)); exact BK138.out⟩, ⟨by repeat (first | (with_reducible first | exact HB.out | apply below_alloc | apply pw_below_drewN | apply below_drew1 | refine below_set ?_ GE137.out | refine below_set ?_ GE138.out) | exact HB.out)⟩⟩
              · rw [if_neg c34] at H
                have c34b0 : (a0_0 == 4) = false := beq_eq_false_iff_ne.mpr c34
                have c34b1 : (a0_0 != 4) = true := bne_iff_ne.mpr c34
                by_cases c40 : a0_2.toList = ([] : List UInt8)
                · rw [if_pos c40] at H
                  have c40b0 : (a0_2.toList == ([] : List UInt8)) = true := beq_iff_eq.mpr c40
                  have c40b1 : (a0_2.toList != ([] : List UInt8)) = false := bne_eq_false_iff_eq.mpr c40
                  clear c40
                  replace H := Option.bind_eq_some_iff.mp H
                  obtain ⟨t142, A410, H⟩ := H
                  replace H : (json_formed.j0 k (!t142) a0_0 a0_1 a0_2 l0_3 l0_4 a1) = some r := H
                  have A41 := Aside0.mk A410
                  clear A410
                  have H' := Aside0.mk H
                  clear H
                  have hnb42 := NB138_137.out
                  have hnc42 := NB137_138.out
                  have hcz43_0 : w5.cell? ⟨gb138, 0, none⟩ = some (.int .i64 a1) := (blk_cell BK138.out 0).trans rfl
                  have hfz43_0 := blk_frozen BK138.out 0
                  have hcz44_0 : w5.cell? ⟨gb137, 0, none⟩ = some (.int .i64 a0_0) := (blk_cell BK137.out 0).trans rfl
                  have hcz44_1 : w5.cell? ⟨gb137, 1, none⟩ = some (.int .i64 a0_1) := (blk_cell BK137.out 1).trans rfl
                  have hcz44_2 : w5.cell? ⟨gb137, 2, none⟩ = some (.string a0_2) := (blk_cell BK137.out 2).trans rfl
                  have hcz44_3 : w5.cell? ⟨gb137, 3, none⟩ = some (.slice A0_3 l0_3.length c0_3) := (blk_cell BK137.out 3).trans rfl
                  have hcz44_4 : w5.cell? ⟨gb137, 4, none⟩ = some (.slice A0_4 l0_4.length c0_4) := (blk_cell BK137.out 4).trans rfl
                  have hfz44_0 := blk_frozen BK137.out 0
                  have hfz44_1 := blk_frozen BK137.out 1
                  have hfz44_2 := blk_frozen BK137.out 2
                  have hfz44_3 := blk_frozen BK137.out 3
                  have hfz44_4 := blk_frozen BK137.out 4
                  go_wp2_with (first | (go_at_call 43; (with_reducible refine (json_text.calls a0_2 t142 _ ?side1 A41.out).mono ?_); (case side1 => first | exact HT.out | (refine tabs_below HT.out ?_; repeat (first | exact HB.out | (with_reducible first | apply below_alloc | apply pw_below_drewN | apply below_drew1 | exact Below.refl _ _) | (refine below_set ?_ (Aside0.out (by assumption)))))); rintro e w45 ⟨rfl, hb⟩; have n0_ := Aside0.mk (blk_below (g := gb137) (o := .cells #[.int .i64 a0_0, .int .i64 a0_1, .string a0_2, .slice A0_3 l0_3.length c0_3, .slice A0_4 l0_4.length c0_4] 30 (0, 0)) (by (with_reducible repeat (first | refine blk_drewN ?_ _ | refine blk_drew ?_ | refine blk_alloc ?_ _)); exact BK137.out) hb); have n1_ := Aside0.mk (blk_below (g := gb138) (o := .cells #[.int .i64 a1] 3 (0, 0)) (by (with_reducible repeat (first | refine blk_drewN ?_ _ | refine blk_drew ?_ | refine blk_alloc ?_ _)); exact BK138.out) hb); have n2_ := Aside0.mk (below_step (by repeat (first | (with_reducible first | exact HB.out | apply below_alloc | apply pw_below_drewN | apply below_drew1 | refine below_set ?_ GE137.out | refine below_set ?_ GE138.out) | exact HB.out)) hb); clear BK137; clear BK138; clear HB; have BK137 := n0_; have BK138 := n1_; have HB := n2_; clear n0_ n1_ n2_; (try clear hb); (try clear hb2); (try clear hk); (try clear hi)))
                  go_meet
                  case rel => exact ⟨_, (!t142), (by first | rfl | (simp; done) | (simp [*]; done)), H', ⟨by first | omega | exact Nat.le_refl _⟩, ⟨by (with_reducible repeat (first | refine blk_drewN ?_ _ | refine blk_drew ?_ | refine blk_alloc ?_ _)); exact BK137.out⟩, ⟨by (with_reducible repeat (first | refine blk_drewN ?_ _ | refine blk_drew ?_ | refine blk_alloc ?_ _)); exact BK138.out⟩, ⟨by repeat (first | (with_reducible first | exact HB.out | apply below_alloc | apply pw_below_drewN | apply below_drew1 | refine below_set ?_ GE137.out | refine below_set ?_ GE138.out) | exact HB.out)⟩⟩
                · rw [if_neg c40] at H
                  have c40b0 : (a0_2.toList == ([] : List UInt8)) = false := beq_eq_false_iff_ne.mpr c40
                  have c40b1 : (a0_2.toList != ([] : List UInt8)) = true := bne_iff_ne.mpr c40
                  have H' := Aside0.mk H
                  clear H
                  have hnb46 := NB138_137.out
                  have hnc46 := NB137_138.out
                  have hcz47_0 : w5.cell? ⟨gb138, 0, none⟩ = some (.int .i64 a1) := (blk_cell BK138.out 0).trans rfl
                  have hfz47_0 := blk_frozen BK138.out 0
                  have hcz48_0 : w5.cell? ⟨gb137, 0, none⟩ = some (.int .i64 a0_0) := (blk_cell BK137.out 0).trans rfl
                  have hcz48_1 : w5.cell? ⟨gb137, 1, none⟩ = some (.int .i64 a0_1) := (blk_cell BK137.out 1).trans rfl
                  have hcz48_2 : w5.cell? ⟨gb137, 2, none⟩ = some (.string a0_2) := (blk_cell BK137.out 2).trans rfl
                  have hcz48_3 : w5.cell? ⟨gb137, 3, none⟩ = some (.slice A0_3 l0_3.length c0_3) := (blk_cell BK137.out 3).trans rfl
                  have hcz48_4 : w5.cell? ⟨gb137, 4, none⟩ = some (.slice A0_4 l0_4.length c0_4) := (blk_cell BK137.out 4).trans rfl
                  have hfz48_0 := blk_frozen BK137.out 0
                  have hfz48_1 := blk_frozen BK137.out 1
                  have hfz48_2 := blk_frozen BK137.out 2
                  have hfz48_3 := blk_frozen BK137.out 3
                  have hfz48_4 := blk_frozen BK137.out 4
                  go_wp2
                  go_meet
                  case rel => exact ⟨_, (true), (by first | rfl | (simp; done) | (simp [*]; done)), H', ⟨by first | omega | exact Nat.le_refl _⟩, ⟨by (with_reducible repeat (first | refine blk_drewN ?_ _ | refine blk_drew ?_ | refine blk_alloc ?_ _)); exact BK137.out⟩, ⟨by (with_reducible repeat (first | refine blk_drewN ?_ _ | refine blk_drew ?_ | refine blk_alloc ?_ _)); exact BK138.out⟩, ⟨by repeat (first | (with_reducible first | exact HB.out | apply below_alloc | apply pw_below_drewN | apply below_drew1 | refine below_set ?_ GE137.out | refine below_set ?_ GE138.out) | exact HB.out)⟩⟩
            · rw [if_neg c33] at H
              have c33b0 : (a0_1 == 0) = false := beq_eq_false_iff_ne.mpr c33
              have c33b1 : (a0_1 != 0) = true := bne_iff_ne.mpr c33
              have H' := Aside0.mk H
              clear H
              have hnb49 := NB138_137.out
              have hnc49 := NB137_138.out
              have hcz50_0 : w5.cell? ⟨gb138, 0, none⟩ = some (.int .i64 a1) := (blk_cell BK138.out 0).trans rfl
              have hfz50_0 := blk_frozen BK138.out 0
              have hcz51_0 : w5.cell? ⟨gb137, 0, none⟩ = some (.int .i64 a0_0) := (blk_cell BK137.out 0).trans rfl
              have hcz51_1 : w5.cell? ⟨gb137, 1, none⟩ = some (.int .i64 a0_1) := (blk_cell BK137.out 1).trans rfl
              have hcz51_2 : w5.cell? ⟨gb137, 2, none⟩ = some (.string a0_2) := (blk_cell BK137.out 2).trans rfl
              have hcz51_3 : w5.cell? ⟨gb137, 3, none⟩ = some (.slice A0_3 l0_3.length c0_3) := (blk_cell BK137.out 3).trans rfl
              have hcz51_4 : w5.cell? ⟨gb137, 4, none⟩ = some (.slice A0_4 l0_4.length c0_4) := (blk_cell BK137.out 4).trans rfl
              have hfz51_0 := blk_frozen BK137.out 0
              have hfz51_1 := blk_frozen BK137.out 1
              have hfz51_2 := blk_frozen BK137.out 2
              have hfz51_3 := blk_frozen BK137.out 3
              have hfz51_4 := blk_frozen BK137.out 4
              go_wp2
              go_meet
              case rel => exact ⟨_, (true), (by first | rfl | (simp; done) | (simp [*]; done)), H', ⟨by first | omega | exact Nat.le_refl _⟩, ⟨by (with_reducible repeat (first | refine blk_drewN ?_ _ | refine blk_drew ?_ | refine blk_alloc ?_ _)); exact BK137.out⟩, ⟨by (with_reducible repeat (first | refine blk_drewN ?_ _ | refine blk_drew ?_ | refine blk_alloc ?_ _)); exact BK138.out⟩, ⟨by repeat (first | (with_reducible first | exact HB.out | apply below_alloc | apply pw_below_drewN | apply below_drew1 | refine below_set ?_ GE137.out | refine below_set ?_ GE138.out) | exact HB.out)⟩⟩
  case rest =>
    clear HC3
    try clear c1
    try clear c2
    try clear p2
    try clear c3
    try clear c4
    try clear c6
    try clear c6b0
    try clear c6b1
    try clear c7
    try clear c9
    try clear c9b0
    try clear c10
    try clear c13
    try clear c13b0
    try clear c14
    try clear c17
    try clear c17b0
    try clear c17b1
    try clear c18
    try clear c18b0
    try clear c18b1
    try clear c20
    try clear c24
    try clear c24b0
    try clear c24b1
    try clear c26
    try clear c27
    try clear c30
    try clear c33
    try clear c33b0
    try clear c33b1
    try clear c34
    try clear c34b0
    try clear c34b1
    try clear c36
    try clear c40
    try clear c40b0
    try clear c40b1
    try clear c42
    try clear c46
    try clear c49
    try clear hcz11_0
    try clear hcz12_0
    try clear hcz12_1
    try clear hcz12_2
    try clear hcz12_3
    try clear hcz12_4
    try clear hcz15_0
    try clear hcz16_0
    try clear hcz16_1
    try clear hcz16_2
    try clear hcz16_3
    try clear hcz16_4
    try clear hcz21_0
    try clear hcz22_0
    try clear hcz22_1
    try clear hcz22_2
    try clear hcz22_3
    try clear hcz22_4
    try clear hcz27_0
    try clear hcz28_0
    try clear hcz28_1
    try clear hcz28_2
    try clear hcz28_3
    try clear hcz28_4
    try clear hcz31_0
    try clear hcz32_0
    try clear hcz32_1
    try clear hcz32_2
    try clear hcz32_3
    try clear hcz32_4
    try clear hcz37_0
    try clear hcz38_0
    try clear hcz38_1
    try clear hcz38_2
    try clear hcz38_3
    try clear hcz38_4
    try clear hcz43_0
    try clear hcz44_0
    try clear hcz44_1
    try clear hcz44_2
    try clear hcz44_3
    try clear hcz44_4
    try clear hcz47_0
    try clear hcz48_0
    try clear hcz48_1
    try clear hcz48_2
    try clear hcz48_3
    try clear hcz48_4
    try clear hcz50_0
    try clear hcz51_0
    try clear hcz51_1
    try clear hcz51_2
    try clear hcz51_3
    try clear hcz51_4
    try clear hcz8_0
    try clear hfz11_0
    try clear hfz12_0
    try clear hfz12_1
    try clear hfz12_2
    try clear hfz12_3
    try clear hfz12_4
    try clear hfz15_0
    try clear hfz16_0
    try clear hfz16_1
    try clear hfz16_2
    try clear hfz16_3
    try clear hfz16_4
    try clear hfz21_0
    try clear hfz22_0
    try clear hfz22_1
    try clear hfz22_2
    try clear hfz22_3
    try clear hfz22_4
    try clear hfz27_0
    try clear hfz28_0
    try clear hfz28_1
    try clear hfz28_2
    try clear hfz28_3
    try clear hfz28_4
    try clear hfz31_0
    try clear hfz32_0
    try clear hfz32_1
    try clear hfz32_2
    try clear hfz32_3
    try clear hfz32_4
    try clear hfz37_0
    try clear hfz38_0
    try clear hfz38_1
    try clear hfz38_2
    try clear hfz38_3
    try clear hfz38_4
    try clear hfz43_0
    try clear hfz44_0
    try clear hfz44_1
    try clear hfz44_2
    try clear hfz44_3
    try clear hfz44_4
    try clear hfz47_0
    try clear hfz48_0
    try clear hfz48_1
    try clear hfz48_2
    try clear hfz48_3
    try clear hfz48_4
    try clear hfz50_0
    try clear hfz51_0
    try clear hfz51_1
    try clear hfz51_2
    try clear hfz51_3
    try clear hfz51_4
    try clear hfz8_0
    obtain ⟨kq, x45_2, rfl, HA, HJ2, BK137, BK138, HB⟩ := hcut
    cases kq with
    | zero => exact absurd HA.out (by simp [json_formed.j0])
    | succ kj2 =>
      have H := HA.out
      clear HA
      simp only [json_formed.j0] at H
      by_cases c52 : x45_2 = true
      · subst c52
        have H1 : (some false) = some r := by rw [if_pos rfl] at H; exact H
        clear H
        have H := H1
        clear H1
        obtain rfl := Option.some.inj H
        go_wp2
        go_ret
        exact ⟨by first | rfl | (simp [errW_none, errW_some] <;> rfl) | (simp [*, errW_none, errW_some] <;> rfl), by repeat (first | (with_reducible first | exact HB.out | apply below_alloc | apply pw_below_drewN | apply below_drew1 | refine below_set ?_ GE137.out | refine below_set ?_ GE138.out) | exact HB.out)⟩
      · replace c52 := Bool.eq_false_iff.mpr c52
        subst c52
        have H1 : (if a0_0 < 5 then (if (l0_4.length : Int) = 0 then (some ((l0_3.length : Int) == 0)) else (some false)) else (if a0_0 = 6 then (json_formed.j1 kj2 (l0_4.length : Int) a0_0 a0_1 a0_2 l0_3 l0_4 a1) else (json_formed.j1 kj2 0 a0_0 a0_1 a0_2 l0_3 l0_4 a1))) = some r := by rw [if_neg (show ¬ (false = true) by decide)] at H; exact H
        clear H
        have H := H1
        clear H1
        by_cases c53 : a0_0 < 5
        · rw [if_pos c53] at H
          have c53b0 : decide (a0_0 < 5) = true := decide_eq_true c53
          clear c53
          by_cases c54 : (l0_4.length : Int) = 0
          · rw [if_pos c54] at H
            have c54b0 : ((l0_4.length : Int) == 0) = true := beq_iff_eq.mpr c54
            have c54b1 : ((l0_4.length : Int) != 0) = false := bne_eq_false_iff_eq.mpr c54
            clear c54
            obtain rfl := Option.some.inj H
            have hnb55 := NB137_138.out
            have hnc55 := NB138_137.out
            have hcz56_0 : wc.cell? ⟨gb137, 0, none⟩ = some (.int .i64 a0_0) := (blk_cell BK137.out 0).trans rfl
            have hcz56_1 : wc.cell? ⟨gb137, 1, none⟩ = some (.int .i64 a0_1) := (blk_cell BK137.out 1).trans rfl
            have hcz56_2 : wc.cell? ⟨gb137, 2, none⟩ = some (.string a0_2) := (blk_cell BK137.out 2).trans rfl
            have hcz56_3 : wc.cell? ⟨gb137, 3, none⟩ = some (.slice A0_3 l0_3.length c0_3) := (blk_cell BK137.out 3).trans rfl
            have hcz56_4 : wc.cell? ⟨gb137, 4, none⟩ = some (.slice A0_4 l0_4.length c0_4) := (blk_cell BK137.out 4).trans rfl
            have hfz56_0 := blk_frozen BK137.out 0
            have hfz56_1 := blk_frozen BK137.out 1
            have hfz56_2 := blk_frozen BK137.out 2
            have hfz56_3 := blk_frozen BK137.out 3
            have hfz56_4 := blk_frozen BK137.out 4
            go_wp2
            go_ret
            exact ⟨by first | rfl | (simp [errW_none, errW_some] <;> rfl) | (simp [*, errW_none, errW_some] <;> rfl), by repeat (first | (with_reducible first | exact HB.out | apply below_alloc | apply pw_below_drewN | apply below_drew1 | refine below_set ?_ GE137.out | refine below_set ?_ GE138.out) | exact HB.out)⟩
          · rw [if_neg c54] at H
            have c54b0 : ((l0_4.length : Int) == 0) = false := beq_eq_false_iff_ne.mpr c54
            have c54b1 : ((l0_4.length : Int) != 0) = true := bne_iff_ne.mpr c54
            have c54b2 : ¬ (l0_4 = []) := fun h_ => c54 (by rw [h_]; rfl)
            obtain rfl := Option.some.inj H
            have hnb57 := NB137_138.out
            have hnc57 := NB138_137.out
            have hcz58_0 : wc.cell? ⟨gb137, 0, none⟩ = some (.int .i64 a0_0) := (blk_cell BK137.out 0).trans rfl
            have hcz58_1 : wc.cell? ⟨gb137, 1, none⟩ = some (.int .i64 a0_1) := (blk_cell BK137.out 1).trans rfl
            have hcz58_2 : wc.cell? ⟨gb137, 2, none⟩ = some (.string a0_2) := (blk_cell BK137.out 2).trans rfl
            have hcz58_3 : wc.cell? ⟨gb137, 3, none⟩ = some (.slice A0_3 l0_3.length c0_3) := (blk_cell BK137.out 3).trans rfl
            have hcz58_4 : wc.cell? ⟨gb137, 4, none⟩ = some (.slice A0_4 l0_4.length c0_4) := (blk_cell BK137.out 4).trans rfl
            have hfz58_0 := blk_frozen BK137.out 0
            have hfz58_1 := blk_frozen BK137.out 1
            have hfz58_2 := blk_frozen BK137.out 2
            have hfz58_3 := blk_frozen BK137.out 3
            have hfz58_4 := blk_frozen BK137.out 4
            go_wp2
            go_ret
            exact ⟨by first | rfl | (simp [errW_none, errW_some] <;> rfl) | (simp [*, errW_none, errW_some] <;> rfl), by repeat (first | (with_reducible first | exact HB.out | apply below_alloc | apply pw_below_drewN | apply below_drew1 | refine below_set ?_ GE137.out | refine below_set ?_ GE138.out) | exact HB.out)⟩
        · rw [if_neg c53] at H
          have c53b0 : decide (a0_0 < 5) = false := decide_eq_false c53
          clear c53
          have HC59 := Aside0.mk H
          clear H
          have hnb60 := NB137_138.out
          have hnc60 := NB138_137.out
          have hcz61_0 : wc.cell? ⟨gb137, 0, none⟩ = some (.int .i64 a0_0) := (blk_cell BK137.out 0).trans rfl
          have hcz61_1 : wc.cell? ⟨gb137, 1, none⟩ = some (.int .i64 a0_1) := (blk_cell BK137.out 1).trans rfl
          have hcz61_2 : wc.cell? ⟨gb137, 2, none⟩ = some (.string a0_2) := (blk_cell BK137.out 2).trans rfl
          have hcz61_3 : wc.cell? ⟨gb137, 3, none⟩ = some (.slice A0_3 l0_3.length c0_3) := (blk_cell BK137.out 3).trans rfl
          have hcz61_4 : wc.cell? ⟨gb137, 4, none⟩ = some (.slice A0_4 l0_4.length c0_4) := (blk_cell BK137.out 4).trans rfl
          have hfz61_0 := blk_frozen BK137.out 0
          have hfz61_1 := blk_frozen BK137.out 1
          have hfz61_2 := blk_frozen BK137.out 2
          have hfz61_3 := blk_frozen BK137.out 3
          have hfz61_4 := blk_frozen BK137.out 4
          go_upto_if 61 with (fail)
          go_cut [5] (fun v5 wc => ∃ (kq : Nat) (x5_58 : Int), v5 = .int .i64 x5_58 ∧ Aside0 (json_formed.j1 kq x5_58 a0_0 a0_1 a0_2 l0_3 l0_4 a1 = some r) ∧ Aside0 (kq ≤ kj2) ∧ Aside0 (wc.heap[gb137]? = some (.cells #[.int .i64 a0_0, .int .i64 a0_1, .string a0_2, (.slice A0_3 l0_3.length c0_3), (.slice A0_4 l0_4.length c0_4)] 30 (0, 0))) ∧ Aside0 (wc.heap[gb138]? = some (.cells #[.int .i64 a1] 3 (0, 0))) ∧ Aside0 (Below w.heap.size w wc))
          case first =>
            have H := HC59.out
            clear HC59
            by_cases c62 : a0_0 = 6
            · rw [if_pos c62] at H
              have c62b0 : (a0_0 == 6) = true := beq_iff_eq.mpr c62
              have c62b1 : (a0_0 != 6) = false := bne_eq_false_iff_eq.mpr c62
              clear c62
              (first | rw [c62b0] | (simp only [i64_w, i32_w]; rw [c62b0]) | skip)
              have H' := Aside0.mk H
              clear H
              have hnb63 := NB137_138.out
              have hnc63 := NB138_137.out
              have hcz64_0 : wc.cell? ⟨gb137, 0, none⟩ = some (.int .i64 a0_0) := (blk_cell BK137.out 0).trans rfl
              have hcz64_1 : wc.cell? ⟨gb137, 1, none⟩ = some (.int .i64 a0_1) := (blk_cell BK137.out 1).trans rfl
              have hcz64_2 : wc.cell? ⟨gb137, 2, none⟩ = some (.string a0_2) := (blk_cell BK137.out 2).trans rfl
              have hcz64_3 : wc.cell? ⟨gb137, 3, none⟩ = some (.slice A0_3 l0_3.length c0_3) := (blk_cell BK137.out 3).trans rfl
              have hcz64_4 : wc.cell? ⟨gb137, 4, none⟩ = some (.slice A0_4 l0_4.length c0_4) := (blk_cell BK137.out 4).trans rfl
              have hfz64_0 := blk_frozen BK137.out 0
              have hfz64_1 := blk_frozen BK137.out 1
              have hfz64_2 := blk_frozen BK137.out 2
              have hfz64_3 := blk_frozen BK137.out 3
              have hfz64_4 := blk_frozen BK137.out 4
              go_wp2
              go_meet
              case rel => exact ⟨_, ((l0_4.length : Int)), (by first | rfl | (simp; done) | (simp [*]; done)), H', ⟨by have := HJ2.out; first | omega | exact Nat.le_refl _⟩, ⟨by (with_reducible repeat (first | refine blk_drewN ?_ _ | refine blk_drew ?_ | refine blk_alloc ?_ _)); exact BK137.out⟩, ⟨by (with_reducible repeat (first | refine blk_drewN ?_ _ | refine blk_drew ?_ | refine blk_alloc ?_ _)); exact BK138.out⟩, ⟨by repeat (first | (with_reducible first | exact HB.out | apply below_alloc | apply pw_below_drewN | apply below_drew1 | refine below_set ?_ GE137.out | refine below_set ?_ GE138.out) | exact HB.out)⟩⟩
            · rw [if_neg c62] at H
              have c62b0 : (a0_0 == 6) = false := beq_eq_false_iff_ne.mpr c62
              have c62b1 : (a0_0 != 6) = true := bne_iff_ne.mpr c62
              (first | rw [c62b0] | (simp only [i64_w, i32_w]; rw [c62b0]) | skip)
              have H' := Aside0.mk H
              clear H
              go_wp2
              go_meet
              case rel => exact ⟨_, (0), (by first | rfl | (simp; done) | (simp [*]; done)), H', ⟨by have := HJ2.out; first | omega | exact Nat.le_refl _⟩, ⟨by (with_reducible repeat (first | refine blk_drewN ?_ _ | refine blk_drew ?_ | refine blk_alloc ?_ _)); exact BK137.out⟩, ⟨by (with_reducible repeat (first | refine blk_drewN ?_ _ | refine blk_drew ?_ | refine blk_alloc ?_ _)); exact BK138.out⟩, ⟨by repeat (first | (with_reducible first | exact HB.out | apply below_alloc | apply pw_below_drewN | apply below_drew1 | refine below_set ?_ GE137.out | refine below_set ?_ GE138.out) | exact HB.out)⟩⟩
          case rest =>
            clear HC59
            try clear c1
            try clear c2
            try clear p2
            try clear c3
            try clear c4
            try clear c5
            try clear c6
            try clear c6b0
            try clear c6b1
            try clear c7
            try clear c9
            try clear c9b0
            try clear c10
            try clear c13
            try clear c13b0
            try clear c14
            try clear c17
            try clear c17b0
            try clear c17b1
            try clear c18
            try clear c18b0
            try clear c18b1
            try clear c20
            try clear c24
            try clear c24b0
            try clear c24b1
            try clear c26
            try clear c27
            try clear c30
            try clear c33
            try clear c33b0
            try clear c33b1
            try clear c34
            try clear c34b0
            try clear c34b1
            try clear c36
            try clear c40
            try clear c40b0
            try clear c40b1
            try clear c42
            try clear c46
            try clear c49
            try clear c52
            try clear c53
            try clear c53b0
            try clear c54
            try clear c54b0
            try clear c54b1
            try clear c54b2
            try clear c55
            try clear c57
            try clear c60
            try clear c62
            try clear c62b0
            try clear c62b1
            try clear c63
            try clear hcz11_0
            try clear hcz12_0
            try clear hcz12_1
            try clear hcz12_2
            try clear hcz12_3
            try clear hcz12_4
            try clear hcz15_0
            try clear hcz16_0
            try clear hcz16_1
            try clear hcz16_2
            try clear hcz16_3
            try clear hcz16_4
            try clear hcz21_0
            try clear hcz22_0
            try clear hcz22_1
            try clear hcz22_2
            try clear hcz22_3
            try clear hcz22_4
            try clear hcz27_0
            try clear hcz28_0
            try clear hcz28_1
            try clear hcz28_2
            try clear hcz28_3
            try clear hcz28_4
            try clear hcz31_0
            try clear hcz32_0
            try clear hcz32_1
            try clear hcz32_2
            try clear hcz32_3
            try clear hcz32_4
            try clear hcz37_0
            try clear hcz38_0
            try clear hcz38_1
            try clear hcz38_2
            try clear hcz38_3
            try clear hcz38_4
            try clear hcz43_0
            try clear hcz44_0
            try clear hcz44_1
            try clear hcz44_2
            try clear hcz44_3
            try clear hcz44_4
            try clear hcz47_0
            try clear hcz48_0
            try clear hcz48_1
            try clear hcz48_2
            try clear hcz48_3
            try clear hcz48_4
            try clear hcz50_0
            try clear hcz51_0
            try clear hcz51_1
            try clear hcz51_2
            try clear hcz51_3
            try clear hcz51_4
            try clear hcz56_0
            try clear hcz56_1
            try clear hcz56_2
            try clear hcz56_3
            try clear hcz56_4
            try clear hcz58_0
            try clear hcz58_1
            try clear hcz58_2
            try clear hcz58_3
            try clear hcz58_4
            try clear hcz61_0
            try clear hcz61_1
            try clear hcz61_2
            try clear hcz61_3
            try clear hcz61_4
            try clear hcz64_0
            try clear hcz64_1
            try clear hcz64_2
            try clear hcz64_3
            try clear hcz64_4
            try clear hcz8_0
            try clear hfz11_0
            try clear hfz12_0
            try clear hfz12_1
            try clear hfz12_2
            try clear hfz12_3
            try clear hfz12_4
            try clear hfz15_0
            try clear hfz16_0
            try clear hfz16_1
            try clear hfz16_2
            try clear hfz16_3
            try clear hfz16_4
            try clear hfz21_0
            try clear hfz22_0
            try clear hfz22_1
            try clear hfz22_2
            try clear hfz22_3
            try clear hfz22_4
            try clear hfz27_0
            try clear hfz28_0
            try clear hfz28_1
            try clear hfz28_2
            try clear hfz28_3
            try clear hfz28_4
            try clear hfz31_0
            try clear hfz32_0
            try clear hfz32_1
            try clear hfz32_2
            try clear hfz32_3
            try clear hfz32_4
            try clear hfz37_0
            try clear hfz38_0
            try clear hfz38_1
            try clear hfz38_2
            try clear hfz38_3
            try clear hfz38_4
            try clear hfz43_0
            try clear hfz44_0
            try clear hfz44_1
            try clear hfz44_2
            try clear hfz44_3
            try clear hfz44_4
            try clear hfz47_0
            try clear hfz48_0
            try clear hfz48_1
            try clear hfz48_2
            try clear hfz48_3
            try clear hfz48_4
            try clear hfz50_0
            try clear hfz51_0
            try clear hfz51_1
            try clear hfz51_2
            try clear hfz51_3
            try clear hfz51_4
            try clear hfz56_0
            try clear hfz56_1
            try clear hfz56_2
            try clear hfz56_3
            try clear hfz56_4
            try clear hfz58_0
            try clear hfz58_1
            try clear hfz58_2
            try clear hfz58_3
            try clear hfz58_4
            try clear hfz61_0
            try clear hfz61_1
            try clear hfz61_2
            try clear hfz61_3
            try clear hfz61_4
            try clear hfz64_0
            try clear hfz64_1
            try clear hfz64_2
            try clear hfz64_3
            try clear hfz64_4
            try clear hfz8_0
            try clear p2
            obtain ⟨kq, x5_58, rfl, HA, HJ58, BK137, BK138, HB⟩ := hcut
            cases kq with
            | zero => exact absurd HA.out (by simp [json_formed.j1])
            | succ kj58 =>
              have H := HA.out
              clear HA
              simp only [json_formed.j1] at H
              have HC65 := Aside0.mk H
              clear H
              go_upto_region 8 with (fail)
              go_cut [75] (fun v75 wc => ∃ (kq : Nat) (x75_64 : Bool), v75 = .bool x75_64 ∧ Aside0 (json_formed.j2 kq x75_64 a0_0 a0_1 a0_2 l0_3 l0_4 a1 = some r) ∧ Aside0 (kq ≤ kj58) ∧ Aside0 (wc.heap[gb137]? = some (.cells #[.int .i64 a0_0, .int .i64 a0_1, .string a0_2, (.slice A0_3 l0_3.length c0_3), (.slice A0_4 l0_4.length c0_4)] 30 (0, 0))) ∧ Aside0 (wc.heap[gb138]? = some (.cells #[.int .i64 a1] 3 (0, 0))) ∧ Aside0 (Below w.heap.size w wc))
              case first =>
                have H := HC65.out
                clear HC65
                by_cases c66 : (l0_4.length : Int) > 24
                · rw [if_pos c66] at H
                  have c66b0 : decide (24 < (l0_4.length : Int)) = true := decide_eq_true c66
                  have c66b1 : decide (24 < l0_4.length) = true := decide_eq_true (by omega)
                  clear c66
                  (first | rw [c66b0] | (simp only [i64_w, i32_w]; rw [c66b0]) | skip)
                  have H' := Aside0.mk H
                  clear H
                  have hnb67 := NB137_138.out
                  have hnc67 := NB138_137.out
                  have hcz68_0 : wc.cell? ⟨gb137, 0, none⟩ = some (.int .i64 a0_0) := (blk_cell BK137.out 0).trans rfl
                  have hcz68_1 : wc.cell? ⟨gb137, 1, none⟩ = some (.int .i64 a0_1) := (blk_cell BK137.out 1).trans rfl
                  have hcz68_2 : wc.cell? ⟨gb137, 2, none⟩ = some (.string a0_2) := (blk_cell BK137.out 2).trans rfl
                  have hcz68_3 : wc.cell? ⟨gb137, 3, none⟩ = some (.slice A0_3 l0_3.length c0_3) := (blk_cell BK137.out 3).trans rfl
                  have hcz68_4 : wc.cell? ⟨gb137, 4, none⟩ = some (.slice A0_4 l0_4.length c0_4) := (blk_cell BK137.out 4).trans rfl
                  have hfz68_0 := blk_frozen BK137.out 0
                  have hfz68_1 := blk_frozen BK137.out 1
                  have hfz68_2 := blk_frozen BK137.out 2
                  have hfz68_3 := blk_frozen BK137.out 3
                  have hfz68_4 := blk_frozen BK137.out 4
                  go_wp2
                  go_meet
                  case rel => exact ⟨_, (true), (by first | rfl | (simp; done) | (simp [*]; done)), H', ⟨by have := HJ2.out; have := HJ58.out; first | omega | exact Nat.le_refl _⟩, ⟨by (with_reducible repeat (first | refine blk_drewN ?_ _ | refine blk_drew ?_ | refine blk_alloc ?_ _)); exact BK137.out⟩, ⟨by (with_reducible repeat (first | refine blk_drewN ?_ _ | refine blk_drew ?_ | refine blk_alloc ?_ _)); exact BK138.out⟩, ⟨by repeat (first | (with_reducible first | exact HB.out | apply below_alloc | apply pw_below_drewN | apply below_drew1 | refine below_set ?_ GE137.out | refine below_set ?_ GE138.out) | exact HB.out)⟩⟩
                · rw [if_neg c66] at H
                  have c66b0 : decide (24 < (l0_4.length : Int)) = false := decide_eq_false c66
                  have c66b1 : decide (24 < l0_4.length) = false := decide_eq_false (by omega)
                  clear c66
                  (first | rw [c66b0] | (simp only [i64_w, i32_w]; rw [c66b0]) | skip)
                  have H' := Aside0.mk H
                  clear H
                  have hnb69 := NB137_138.out
                  have hnc69 := NB138_137.out
                  have hcz70_0 : wc.cell? ⟨gb137, 0, none⟩ = some (.int .i64 a0_0) := (blk_cell BK137.out 0).trans rfl
                  have hcz70_1 : wc.cell? ⟨gb137, 1, none⟩ = some (.int .i64 a0_1) := (blk_cell BK137.out 1).trans rfl
                  have hcz70_2 : wc.cell? ⟨gb137, 2, none⟩ = some (.string a0_2) := (blk_cell BK137.out 2).trans rfl
                  have hcz70_3 : wc.cell? ⟨gb137, 3, none⟩ = some (.slice A0_3 l0_3.length c0_3) := (blk_cell BK137.out 3).trans rfl
                  have hcz70_4 : wc.cell? ⟨gb137, 4, none⟩ = some (.slice A0_4 l0_4.length c0_4) := (blk_cell BK137.out 4).trans rfl
                  have hfz70_0 := blk_frozen BK137.out 0
                  have hfz70_1 := blk_frozen BK137.out 1
                  have hfz70_2 := blk_frozen BK137.out 2
                  have hfz70_3 := blk_frozen BK137.out 3
                  have hfz70_4 := blk_frozen BK137.out 4
                  go_wp2
                  go_meet
                  case rel => exact ⟨_, (((l0_3.length : Int) != x5_58)), (by first | rfl | (simp; done) | (simp [*]; done)), H', ⟨by have := HJ2.out; have := HJ58.out; first | omega | exact Nat.le_refl _⟩, ⟨by (with_reducible repeat (first | refine blk_drewN ?_ _ | refine blk_drew ?_ | refine blk_alloc ?_ _)); exact BK137.out⟩, ⟨by (with_reducible repeat (first | refine blk_drewN ?_ _ | refine blk_drew ?_ | refine blk_alloc ?_ _)); exact BK138.out⟩, ⟨by repeat (first | (with_reducible first | exact HB.out | apply below_alloc | apply pw_below_drewN | apply below_drew1 | refine below_set ?_ GE137.out | refine below_set ?_ GE138.out) | exact HB.out)⟩⟩
              case rest =>
                clear HC65
                try clear c1
                try clear c2
                try clear p2
                try clear c3
                try clear c4
                try clear c5
                try clear c6
                try clear c6b0
                try clear c6b1
                try clear c7
                try clear c9
                try clear c9b0
                try clear c10
                try clear c13
                try clear c13b0
                try clear c14
                try clear c17
                try clear c17b0
                try clear c17b1
                try clear c18
                try clear c18b0
                try clear c18b1
                try clear c20
                try clear c24
                try clear c24b0
                try clear c24b1
                try clear c26
                try clear c27
                try clear c30
                try clear c33
                try clear c33b0
                try clear c33b1
                try clear c34
                try clear c34b0
                try clear c34b1
                try clear c36
                try clear c40
                try clear c40b0
                try clear c40b1
                try clear c42
                try clear c46
                try clear c49
                try clear c52
                try clear c53
                try clear c53b0
                try clear c54
                try clear c54b0
                try clear c54b1
                try clear c54b2
                try clear c55
                try clear c57
                try clear c60
                try clear c62
                try clear c62b0
                try clear c62b1
                try clear c63
                try clear c66
                try clear c66b0
                try clear c66b1
                try clear c67
                try clear c69
                try clear hcz11_0
                try clear hcz12_0
                try clear hcz12_1
                try clear hcz12_2
                try clear hcz12_3
                try clear hcz12_4
                try clear hcz15_0
                try clear hcz16_0
                try clear hcz16_1
                try clear hcz16_2
                try clear hcz16_3
                try clear hcz16_4
                try clear hcz21_0
                try clear hcz22_0
                try clear hcz22_1
                try clear hcz22_2
                try clear hcz22_3
                try clear hcz22_4
                try clear hcz27_0
                try clear hcz28_0
                try clear hcz28_1
                try clear hcz28_2
                try clear hcz28_3
                try clear hcz28_4
                try clear hcz31_0
                try clear hcz32_0
                try clear hcz32_1
                try clear hcz32_2
                try clear hcz32_3
                try clear hcz32_4
                try clear hcz37_0
                try clear hcz38_0
                try clear hcz38_1
                try clear hcz38_2
                try clear hcz38_3
                try clear hcz38_4
                try clear hcz43_0
                try clear hcz44_0
                try clear hcz44_1
                try clear hcz44_2
                try clear hcz44_3
                try clear hcz44_4
                try clear hcz47_0
                try clear hcz48_0
                try clear hcz48_1
                try clear hcz48_2
                try clear hcz48_3
                try clear hcz48_4
                try clear hcz50_0
                try clear hcz51_0
                try clear hcz51_1
                try clear hcz51_2
                try clear hcz51_3
                try clear hcz51_4
                try clear hcz56_0
                try clear hcz56_1
                try clear hcz56_2
                try clear hcz56_3
                try clear hcz56_4
                try clear hcz58_0
                try clear hcz58_1
                try clear hcz58_2
                try clear hcz58_3
                try clear hcz58_4
                try clear hcz61_0
                try clear hcz61_1
                try clear hcz61_2
                try clear hcz61_3
                try clear hcz61_4
                try clear hcz64_0
                try clear hcz64_1
                try clear hcz64_2
                try clear hcz64_3
                try clear hcz64_4
                try clear hcz68_0
                try clear hcz68_1
                try clear hcz68_2
                try clear hcz68_3
                try clear hcz68_4
                try clear hcz70_0
                try clear hcz70_1
                try clear hcz70_2
                try clear hcz70_3
                try clear hcz70_4
                try clear hcz8_0
                try clear hfz11_0
                try clear hfz12_0
                try clear hfz12_1
                try clear hfz12_2
                try clear hfz12_3
                try clear hfz12_4
                try clear hfz15_0
                try clear hfz16_0
                try clear hfz16_1
                try clear hfz16_2
                try clear hfz16_3
                try clear hfz16_4
                try clear hfz21_0
                try clear hfz22_0
                try clear hfz22_1
                try clear hfz22_2
                try clear hfz22_3
                try clear hfz22_4
                try clear hfz27_0
                try clear hfz28_0
                try clear hfz28_1
                try clear hfz28_2
                try clear hfz28_3
                try clear hfz28_4
                try clear hfz31_0
                try clear hfz32_0
                try clear hfz32_1
                try clear hfz32_2
                try clear hfz32_3
                try clear hfz32_4
                try clear hfz37_0
                try clear hfz38_0
                try clear hfz38_1
                try clear hfz38_2
                try clear hfz38_3
                try clear hfz38_4
                try clear hfz43_0
                try clear hfz44_0
                try clear hfz44_1
                try clear hfz44_2
                try clear hfz44_3
                try clear hfz44_4
                try clear hfz47_0
                try clear hfz48_0
                try clear hfz48_1
                try clear hfz48_2
                try clear hfz48_3
                try clear hfz48_4
                try clear hfz50_0
                try clear hfz51_0
                try clear hfz51_1
                try clear hfz51_2
                try clear hfz51_3
                try clear hfz51_4
                try clear hfz56_0
                try clear hfz56_1
                try clear hfz56_2
                try clear hfz56_3
                try clear hfz56_4
                try clear hfz58_0
                try clear hfz58_1
                try clear hfz58_2
                try clear hfz58_3
                try clear hfz58_4
                try clear hfz61_0
                try clear hfz61_1
                try clear hfz61_2
                try clear hfz61_3
                try clear hfz61_4
                try clear hfz64_0
                try clear hfz64_1
                try clear hfz64_2
                try clear hfz64_3
                try clear hfz64_4
                try clear hfz68_0
                try clear hfz68_1
                try clear hfz68_2
                try clear hfz68_3
                try clear hfz68_4
                try clear hfz70_0
                try clear hfz70_1
                try clear hfz70_2
                try clear hfz70_3
                try clear hfz70_4
                try clear hfz8_0
                try clear p2
                obtain ⟨kq, x75_64, rfl, HA, HJ64, BK137, BK138, HB⟩ := hcut
                cases kq with
                | zero => exact absurd HA.out (by simp [json_formed.j2])
                | succ kj64 =>
                  have H := HA.out
                  clear HA
                  simp only [json_formed.j2] at H
                  by_cases c71 : x75_64 = true
                  · subst c71
                    have H1 : (some false) = some r := by rw [if_pos rfl] at H; exact H
                    clear H
                    have H := H1
                    clear H1
                    obtain rfl := Option.some.inj H
                    go_wp2
                    go_ret
                    exact ⟨by first | rfl | (simp [errW_none, errW_some] <;> rfl) | (simp [*, errW_none, errW_some] <;> rfl), by repeat (first | (with_reducible first | exact HB.out | apply below_alloc | apply pw_below_drewN | apply below_drew1 | refine below_set ?_ GE137.out | refine below_set ?_ GE138.out) | exact HB.out)⟩
                  · replace c71 := Bool.eq_false_iff.mpr c71
                    subst c71
                    have H1 : (json_formed.l0 kj64 l0_3 (l0_3.length : Int) 0 a0_0 a0_1 a0_2 l0_3 l0_4 a1) = some r := by rw [if_neg (show ¬ (false = true) by decide)] at H; exact H
                    clear H
                    have H := H1
                    clear H1
                    have H' := Aside0.mk H
                    clear H
                    have hnb72 := NB137_138.out
                    have hnc72 := NB138_137.out
                    have hcz73_0 : wc.cell? ⟨gb137, 0, none⟩ = some (.int .i64 a0_0) := (blk_cell BK137.out 0).trans rfl
                    have hcz73_1 : wc.cell? ⟨gb137, 1, none⟩ = some (.int .i64 a0_1) := (blk_cell BK137.out 1).trans rfl
                    have hcz73_2 : wc.cell? ⟨gb137, 2, none⟩ = some (.string a0_2) := (blk_cell BK137.out 2).trans rfl
                    have hcz73_3 : wc.cell? ⟨gb137, 3, none⟩ = some (.slice A0_3 l0_3.length c0_3) := (blk_cell BK137.out 3).trans rfl
                    have hcz73_4 : wc.cell? ⟨gb137, 4, none⟩ = some (.slice A0_4 l0_4.length c0_4) := (blk_cell BK137.out 4).trans rfl
                    have hfz73_0 := blk_frozen BK137.out 0
                    have hfz73_1 := blk_frozen BK137.out 1
                    have hfz73_2 := blk_frozen BK137.out 2
                    have hfz73_3 := blk_frozen BK137.out 3
                    have hfz73_4 := blk_frozen BK137.out 4
                    go_wp2
                    go_loopg [79] kj64 (fun kq v79 w' => ∃ (x79_4 : Int), v79 = .int .i64 x79_4 ∧ Aside0 (json_formed.l0 kq l0_3 (l0_3.length : Int) x79_4 a0_0 a0_1 a0_2 l0_3 l0_4 a1 = some r) ∧ Aside0 (kq ≤ kj64) ∧ Aside0 (w'.heap[gb137]? = some (.cells #[.int .i64 a0_0, .int .i64 a0_1, .string a0_2, (.slice A0_3 l0_3.length c0_3), (.slice A0_4 l0_4.length c0_4)] 30 (0, 0))) ∧ Aside0 (w'.heap[gb138]? = some (.cells #[.int .i64 a1] 3 (0, 0))) ∧ Aside0 (Below w.heap.size w w'))
                    case atStart => exact ⟨(0), (by first | rfl | (simp; done) | (simp [*]; done)), H', ⟨Nat.le_refl _⟩, ⟨by (with_reducible repeat (first | refine blk_drewN ?_ _ | refine blk_drew ?_ | refine blk_alloc ?_ _)); exact BK137.out⟩, ⟨by (with_reducible repeat (first | refine blk_drewN ?_ _ | refine blk_drew ?_ | refine blk_alloc ?_ _)); exact BK138.out⟩, ⟨by repeat (first | (with_reducible first | exact HB.out | apply below_alloc | apply pw_below_drewN | apply below_drew1 | refine below_set ?_ GE137.out | refine below_set ?_ GE138.out) | exact HB.out)⟩⟩
                    case round =>
                      clear H'
                      try clear c1
                      try clear c2
                      try clear p2
                      try clear c3
                      try clear c4
                      try clear c5
                      try clear c6
                      try clear c6b0
                      try clear c6b1
                      try clear c7
                      try clear c9
                      try clear c9b0
                      try clear c10
                      try clear c13
                      try clear c13b0
                      try clear c14
                      try clear c17
                      try clear c17b0
                      try clear c17b1
                      try clear c18
                      try clear c18b0
                      try clear c18b1
                      try clear c20
                      try clear c24
                      try clear c24b0
                      try clear c24b1
                      try clear c26
                      try clear c27
                      try clear c30
                      try clear c33
                      try clear c33b0
                      try clear c33b1
                      try clear c34
                      try clear c34b0
                      try clear c34b1
                      try clear c36
                      try clear c40
                      try clear c40b0
                      try clear c40b1
                      try clear c42
                      try clear c46
                      try clear c49
                      try clear c52
                      try clear c53
                      try clear c53b0
                      try clear c54
                      try clear c54b0
                      try clear c54b1
                      try clear c54b2
                      try clear c55
                      try clear c57
                      try clear c60
                      try clear c62
                      try clear c62b0
                      try clear c62b1
                      try clear c63
                      try clear c66
                      try clear c66b0
                      try clear c66b1
                      try clear c67
                      try clear c69
                      try clear c71
                      try clear c72
                      try clear hcz11_0
                      try clear hcz12_0
                      try clear hcz12_1
                      try clear hcz12_2
                      try clear hcz12_3
                      try clear hcz12_4
                      try clear hcz15_0
                      try clear hcz16_0
                      try clear hcz16_1
                      try clear hcz16_2
                      try clear hcz16_3
                      try clear hcz16_4
                      try clear hcz21_0
                      try clear hcz22_0
                      try clear hcz22_1
                      try clear hcz22_2
                      try clear hcz22_3
                      try clear hcz22_4
                      try clear hcz27_0
                      try clear hcz28_0
                      try clear hcz28_1
                      try clear hcz28_2
                      try clear hcz28_3
                      try clear hcz28_4
                      try clear hcz31_0
                      try clear hcz32_0
                      try clear hcz32_1
                      try clear hcz32_2
                      try clear hcz32_3
                      try clear hcz32_4
                      try clear hcz37_0
                      try clear hcz38_0
                      try clear hcz38_1
                      try clear hcz38_2
                      try clear hcz38_3
                      try clear hcz38_4
                      try clear hcz43_0
                      try clear hcz44_0
                      try clear hcz44_1
                      try clear hcz44_2
                      try clear hcz44_3
                      try clear hcz44_4
                      try clear hcz47_0
                      try clear hcz48_0
                      try clear hcz48_1
                      try clear hcz48_2
                      try clear hcz48_3
                      try clear hcz48_4
                      try clear hcz50_0
                      try clear hcz51_0
                      try clear hcz51_1
                      try clear hcz51_2
                      try clear hcz51_3
                      try clear hcz51_4
                      try clear hcz56_0
                      try clear hcz56_1
                      try clear hcz56_2
                      try clear hcz56_3
                      try clear hcz56_4
                      try clear hcz58_0
                      try clear hcz58_1
                      try clear hcz58_2
                      try clear hcz58_3
                      try clear hcz58_4
                      try clear hcz61_0
                      try clear hcz61_1
                      try clear hcz61_2
                      try clear hcz61_3
                      try clear hcz61_4
                      try clear hcz64_0
                      try clear hcz64_1
                      try clear hcz64_2
                      try clear hcz64_3
                      try clear hcz64_4
                      try clear hcz68_0
                      try clear hcz68_1
                      try clear hcz68_2
                      try clear hcz68_3
                      try clear hcz68_4
                      try clear hcz70_0
                      try clear hcz70_1
                      try clear hcz70_2
                      try clear hcz70_3
                      try clear hcz70_4
                      try clear hcz73_0
                      try clear hcz73_1
                      try clear hcz73_2
                      try clear hcz73_3
                      try clear hcz73_4
                      try clear hcz8_0
                      try clear hfz11_0
                      try clear hfz12_0
                      try clear hfz12_1
                      try clear hfz12_2
                      try clear hfz12_3
                      try clear hfz12_4
                      try clear hfz15_0
                      try clear hfz16_0
                      try clear hfz16_1
                      try clear hfz16_2
                      try clear hfz16_3
                      try clear hfz16_4
                      try clear hfz21_0
                      try clear hfz22_0
                      try clear hfz22_1
                      try clear hfz22_2
                      try clear hfz22_3
                      try clear hfz22_4
                      try clear hfz27_0
                      try clear hfz28_0
                      try clear hfz28_1
                      try clear hfz28_2
                      try clear hfz28_3
                      try clear hfz28_4
                      try clear hfz31_0
                      try clear hfz32_0
                      try clear hfz32_1
                      try clear hfz32_2
                      try clear hfz32_3
                      try clear hfz32_4
                      try clear hfz37_0
                      try clear hfz38_0
                      try clear hfz38_1
                      try clear hfz38_2
                      try clear hfz38_3
                      try clear hfz38_4
                      try clear hfz43_0
                      try clear hfz44_0
                      try clear hfz44_1
                      try clear hfz44_2
                      try clear hfz44_3
                      try clear hfz44_4
                      try clear hfz47_0
                      try clear hfz48_0
                      try clear hfz48_1
                      try clear hfz48_2
                      try clear hfz48_3
                      try clear hfz48_4
                      try clear hfz50_0
                      try clear hfz51_0
                      try clear hfz51_1
                      try clear hfz51_2
                      try clear hfz51_3
                      try clear hfz51_4
                      try clear hfz56_0
                      try clear hfz56_1
                      try clear hfz56_2
                      try clear hfz56_3
                      try clear hfz56_4
                      try clear hfz58_0
                      try clear hfz58_1
                      try clear hfz58_2
                      try clear hfz58_3
                      try clear hfz58_4
                      try clear hfz61_0
                      try clear hfz61_1
                      try clear hfz61_2
                      try clear hfz61_3
                      try clear hfz61_4
                      try clear hfz64_0
                      try clear hfz64_1
                      try clear hfz64_2
                      try clear hfz64_3
                      try clear hfz64_4
                      try clear hfz68_0
                      try clear hfz68_1
                      try clear hfz68_2
                      try clear hfz68_3
                      try clear hfz68_4
                      try clear hfz70_0
                      try clear hfz70_1
                      try clear hfz70_2
                      try clear hfz70_3
                      try clear hfz70_4
                      try clear hfz73_0
                      try clear hfz73_1
                      try clear hfz73_2
                      try clear hfz73_3
                      try clear hfz73_4
                      try clear hfz8_0
                      try clear p2
                      obtain ⟨x79_4, rfl, HA, HK4, BK137, BK138, HB⟩ := hrel
                      cases gk with
                      | zero => exact absurd HA.out (by simp [json_formed.l0])
                      | succ k4 =>
                        have H := HA.out
                        clear HA
                        simp only [json_formed.l0] at H
                        by_cases c74 : x79_4 < (l0_3.length : Int)
                        · rw [if_pos c74] at H
                          have c74b0 : decide (x79_4 < (l0_3.length : Int)) = true := decide_eq_true c74
                          clear c74
                          by_cases c75 : 0 ≤ x79_4
                          · rw [if_pos c75] at H
                            have c75b0 : decide (0 ≤ x79_4) = true := decide_eq_true c75
                            clear c75
                            by_cases c76 : x79_4 < (l0_3.length : Int)
                            · rw [if_pos c76] at H
                              have c76b0 : decide (x79_4 < (l0_3.length : Int)) = true := decide_eq_true c76
                              clear c76
                              replace H := Option.bind_eq_some_iff.mp H
                              obtain ⟨t144, A770, H⟩ := H
                              replace H : (if t144 = true then (if x79_4 > 0 then (if 0 ≤ (wrap64 (x79_4 - 1)) then (if (wrap64 (x79_4 - 1)) < (l0_3.length : Int) then (if ((Op.bytesLess ((rdOf ByteArray.empty l0_3 (wrap64 (x79_4 - 1))).toList) ((rdOf ByteArray.empty l0_3 x79_4).toList)) = true) then (json_formed.l0 k4 l0_3 (l0_3.length : Int) (wrap64 (x79_4 + 1)) a0_0 a0_1 a0_2 l0_3 l0_4 a1) else (some false)) else (none)) else (none)) else (json_formed.l0 k4 l0_3 (l0_3.length : Int) (wrap64 (x79_4 + 1)) a0_0 a0_1 a0_2 l0_3 l0_4 a1)) else (some false)) = some r := H
                              have A77 := Aside0.mk A770
                              clear A770
                              by_cases c78 : t144 = true
                              · subst c78
                                have H1 : (if x79_4 > 0 then (if 0 ≤ (wrap64 (x79_4 - 1)) then (if (wrap64 (x79_4 - 1)) < (l0_3.length : Int) then (if ((Op.bytesLess ((rdOf ByteArray.empty l0_3 (wrap64 (x79_4 - 1))).toList) ((rdOf ByteArray.empty l0_3 x79_4).toList)) = true) then (json_formed.l0 k4 l0_3 (l0_3.length : Int) (wrap64 (x79_4 + 1)) a0_0 a0_1 a0_2 l0_3 l0_4 a1) else (some false)) else (none)) else (none)) else (json_formed.l0 k4 l0_3 (l0_3.length : Int) (wrap64 (x79_4 + 1)) a0_0 a0_1 a0_2 l0_3 l0_4 a1)) = some r := by rw [if_pos rfl] at H; exact H
                                clear H
                                have H := H1
                                clear H1
                                by_cases c79 : x79_4 > 0
                                · rw [if_pos c79] at H
                                  have c79b0 : decide (0 < x79_4) = true := decide_eq_true c79
                                  clear c79
                                  obtain ⟨ji80, hji80⟩ : ∃ j_ : Int, (wrap64 (x79_4 - 1)) = j_ := ⟨_, rfl⟩
                                  replace H : (if 0 ≤ (ji80) then (if (ji80) < (l0_3.length : Int) then (if ((Op.bytesLess ((rdOf ByteArray.empty l0_3 (ji80)).toList) ((rdOf ByteArray.empty l0_3 x79_4).toList)) = true) then (json_formed.l0 k4 l0_3 (l0_3.length : Int) (wrap64 (x79_4 + 1)) a0_0 a0_1 a0_2 l0_3 l0_4 a1) else (some false)) else (none)) else (none)) = some r := by first | (rw [hji80] at H; exact H) | (simp only [hji80] at H ⊢; exact H)
                                  (try rw [hji80] at A77)
                                  have hji80w : (IntKind.i64.wrap (x79_4 - 1)) = ji80 := (i64_w _).trans hji80
                                  by_cases c81 : 0 ≤ (ji80)
                                  · rw [if_pos c81] at H
                                    have c81b0 : decide (0 ≤ (ji80)) = true := decide_eq_true c81
                                    clear c81
                                    by_cases c82 : (ji80) < (l0_3.length : Int)
                                    · rw [if_pos c82] at H
                                      have c82b0 : decide ((ji80) < (l0_3.length : Int)) = true := decide_eq_true c82
                                      clear c82
                                      by_cases c83 : ((Op.bytesLess ((rdOf ByteArray.empty l0_3 (ji80)).toList) ((rdOf ByteArray.empty l0_3 x79_4).toList)) = true)
                                      · rw [if_pos c83] at H
                                        have c83b0 : (Op.bytesLess ((rdOf ByteArray.empty l0_3 (ji80)).toList) ((rdOf ByteArray.empty l0_3 x79_4).toList)) = true := c83
                                        clear c83
                                        have H' := Aside0.mk H
                                        clear H
                                        have p143 : 0 ≤ (x79_4 : Int) := of_decide_eq_true (by first | (with_reducible assumption) | assumption)
                                        have q143 : x79_4 < (l0_3.length : Int) := of_decide_eq_true (by first | (with_reducible assumption) | assumption)
                                        obtain ⟨ad143, e143, hx143_0⟩ := Kd.at_string HR0_3.out x79_4 p143 q143
                                        cases e143
                                        replace hx143_0 := (HB.out.cell (World.block_lt_of_cell? w _ hx143_0)).trans hx143_0
                                        replace p143 := eq_true p143
                                        replace q143 := eq_true q143
                                        go_wp2_with (first | ((with_reducible refine gate_callee (f := 43) rfl ?_); refine goesL_ (some 85) rfl rfl Tryd.func43 (by kernel_rfl) rfl #[.string (rdOf ByteArray.empty l0_3 x79_4)] rfl (by (try simp only [List.map_toArray, List.map_cons, List.map_nil]); first | done | rfl | (simp only [List.length_drop, List.length_take]; rfl)) ?_; (with_reducible refine (json_text.calls (rdOf ByteArray.empty l0_3 x79_4) true _ ?side1 A77.out).mono ?_); (case side1 => first | exact HT.out | (refine tabs_below HT.out ?_; repeat (first | exact HB.out | (with_reducible first | apply below_alloc | apply pw_below_drewN | apply below_drew1 | exact Below.refl _ _) | (refine below_set ?_ (Aside0.out (by assumption)))))); rintro e w84 ⟨rfl, hb⟩; refine ⟨_, rfl, ?_⟩; have n0_ := Aside0.mk (blk_below (g := gb137) (o := .cells #[.int .i64 a0_0, .int .i64 a0_1, .string a0_2, .slice (some ad143) l0_3.length c0_3, .slice A0_4 l0_4.length c0_4] 30 (0, 0)) (by (with_reducible repeat (first | refine blk_drewN ?_ _ | refine blk_drew ?_ | refine blk_alloc ?_ _)); exact BK137.out) hb); have n1_ := Aside0.mk (blk_below (g := gb138) (o := .cells #[.int .i64 a1] 3 (0, 0)) (by (with_reducible repeat (first | refine blk_drewN ?_ _ | refine blk_drew ?_ | refine blk_alloc ?_ _)); exact BK138.out) hb); have n2_ := Aside0.mk (below_step (by repeat (first | (with_reducible first | exact HB.out | apply below_alloc | apply pw_below_drewN | apply below_drew1 | refine below_set ?_ GE137.out | refine below_set ?_ GE138.out) | exact HB.out)) hb); clear BK137; clear BK138; clear HB; have BK137 := n0_; have BK138 := n1_; have HB := n2_; clear n0_ n1_ n2_; (try clear hb); (try clear hb2); (try clear hk); (try clear hi); have hnb85 := NB137_138.out; have hnc85 := NB138_137.out; have hcz86_0 : w84.cell? ⟨gb137, 0, none⟩ = some (.int .i64 a0_0) := (blk_cell BK137.out 0).trans rfl; have hcz86_1 : w84.cell? ⟨gb137, 1, none⟩ = some (.int .i64 a0_1) := (blk_cell BK137.out 1).trans rfl; have hcz86_2 : w84.cell? ⟨gb137, 2, none⟩ = some (.string a0_2) := (blk_cell BK137.out 2).trans rfl; have hcz86_3 : w84.cell? ⟨gb137, 3, none⟩ = some (.slice (some ad143) l0_3.length c0_3) := (blk_cell BK137.out 3).trans rfl; have hcz86_4 : w84.cell? ⟨gb137, 4, none⟩ = some (.slice A0_4 l0_4.length c0_4) := (blk_cell BK137.out 4).trans rfl; have hfz86_0 := blk_frozen BK137.out 0; have hfz86_1 := blk_frozen BK137.out 1; have hfz86_2 := blk_frozen BK137.out 2; have hfz86_3 := blk_frozen BK137.out 3; have hfz86_4 := blk_frozen BK137.out 4; have p145 : 0 ≤ ((ji80) : Int) := of_decide_eq_true (by first | (with_reducible assumption) | assumption); have q145 : (ji80) < (l0_3.length : Int) := of_decide_eq_true (by first | (with_reducible assumption) | assumption); obtain ⟨ad145, e145, hx145_0⟩ := Kd.at_string HR0_3.out (ji80) p145 q145; obtain rfl : ad143 = ad145 := (by injection e145); replace hx145_0 := (HB.out.cell (World.block_lt_of_cell? w _ hx145_0)).trans hx145_0; replace p145 := eq_true p145; replace q145 := eq_true q145))
                                        go_roundg k4
                                        case measure => have := HJ2.out; have := HJ58.out; have := HJ64.out; have := HK4.out; omega
                                        case rel => exact ⟨(wrap64 (x79_4 + 1)), (by first | rfl | (simp; done) | (simp [*]; done)), H', ⟨by have := HJ2.out; have := HJ58.out; have := HJ64.out; have := HK4.out; omega⟩, ⟨by (with_reducible repeat (first | refine blk_drewN ?_ _ | refine blk_drew ?_ | refine blk_alloc ?_ _)); exact BK137.out⟩, ⟨by (with_reducible repeat (first | refine blk_drewN ?_ _ | refine blk_drew ?_ | refine blk_alloc ?_ _)); exact BK138.out⟩, ⟨by repeat (first | (with_reducible first | exact HB.out | apply below_alloc | apply pw_below_drewN | apply below_drew1 | refine below_set ?_ GE137.out | refine below_set ?_ GE138.out) | exact HB.out)⟩⟩
                                      · rw [if_neg c83] at H
                                        have c83b0 : (Op.bytesLess ((rdOf ByteArray.empty l0_3 (ji80)).toList) ((rdOf ByteArray.empty l0_3 x79_4).toList)) = false := by simpa using c83
                                        clear c83
                                        obtain rfl := Option.some.inj H
                                        have p143 : 0 ≤ (x79_4 : Int) := of_decide_eq_true (by first | (with_reducible assumption) | assumption)
                                        have q143 : x79_4 < (l0_3.length : Int) := of_decide_eq_true (by first | (with_reducible assumption) | assumption)
                                        obtain ⟨ad143, e143, hx143_0⟩ := Kd.at_string HR0_3.out x79_4 p143 q143
                                        cases e143
                                        replace hx143_0 := (HB.out.cell (World.block_lt_of_cell? w _ hx143_0)).trans hx143_0
                                        replace p143 := eq_true p143
                                        replace q143 := eq_true q143
                                        go_wp2_with (first | ((with_reducible refine gate_callee (f := 43) rfl ?_); refine goesL_ (some 85) rfl rfl Tryd.func43 (by kernel_rfl) rfl #[.string (rdOf ByteArray.empty l0_3 x79_4)] rfl (by (try simp only [List.map_toArray, List.map_cons, List.map_nil]); first | done | rfl | (simp only [List.length_drop, List.length_take]; rfl)) ?_; (with_reducible refine (json_text.calls (rdOf ByteArray.empty l0_3 x79_4) true _ ?side1 A77.out).mono ?_); (case side1 => first | exact HT.out | (refine tabs_below HT.out ?_; repeat (first | exact HB.out | (with_reducible first | apply below_alloc | apply pw_below_drewN | apply below_drew1 | exact Below.refl _ _) | (refine below_set ?_ (Aside0.out (by assumption)))))); rintro e w87 ⟨rfl, hb⟩; refine ⟨_, rfl, ?_⟩; have n0_ := Aside0.mk (blk_below (g := gb137) (o := .cells #[.int .i64 a0_0, .int .i64 a0_1, .string a0_2, .slice (some ad143) l0_3.length c0_3, .slice A0_4 l0_4.length c0_4] 30 (0, 0)) (by (with_reducible repeat (first | refine blk_drewN ?_ _ | refine blk_drew ?_ | refine blk_alloc ?_ _)); exact BK137.out) hb); have n1_ := Aside0.mk (blk_below (g := gb138) (o := .cells #[.int .i64 a1] 3 (0, 0)) (by (with_reducible repeat (first | refine blk_drewN ?_ _ | refine blk_drew ?_ | refine blk_alloc ?_ _)); exact BK138.out) hb); have n2_ := Aside0.mk (below_step (by repeat (first | (with_reducible first | exact HB.out | apply below_alloc | apply pw_below_drewN | apply below_drew1 | refine below_set ?_ GE137.out | refine below_set ?_ GE138.out) | exact HB.out)) hb); clear BK137; clear BK138; clear HB; have BK137 := n0_; have BK138 := n1_; have HB := n2_; clear n0_ n1_ n2_; (try clear hb); (try clear hb2); (try clear hk); (try clear hi); have hnb88 := NB137_138.out; have hnc88 := NB138_137.out; have hcz89_0 : w87.cell? ⟨gb137, 0, none⟩ = some (.int .i64 a0_0) := (blk_cell BK137.out 0).trans rfl; have hcz89_1 : w87.cell? ⟨gb137, 1, none⟩ = some (.int .i64 a0_1) := (blk_cell BK137.out 1).trans rfl; have hcz89_2 : w87.cell? ⟨gb137, 2, none⟩ = some (.string a0_2) := (blk_cell BK137.out 2).trans rfl; have hcz89_3 : w87.cell? ⟨gb137, 3, none⟩ = some (.slice (some ad143) l0_3.length c0_3) := (blk_cell BK137.out 3).trans rfl; have hcz89_4 : w87.cell? ⟨gb137, 4, none⟩ = some (.slice A0_4 l0_4.length c0_4) := (blk_cell BK137.out 4).trans rfl; have hfz89_0 := blk_frozen BK137.out 0; have hfz89_1 := blk_frozen BK137.out 1; have hfz89_2 := blk_frozen BK137.out 2; have hfz89_3 := blk_frozen BK137.out 3; have hfz89_4 := blk_frozen BK137.out 4; have p145 : 0 ≤ ((ji80) : Int) := of_decide_eq_true (by first | (with_reducible assumption) | assumption); have q145 : (ji80) < (l0_3.length : Int) := of_decide_eq_true (by first | (with_reducible assumption) | assumption); obtain ⟨ad145, e145, hx145_0⟩ := Kd.at_string HR0_3.out (ji80) p145 q145; obtain rfl : ad143 = ad145 := (by injection e145); replace hx145_0 := (HB.out.cell (World.block_lt_of_cell? w _ hx145_0)).trans hx145_0; replace p145 := eq_true p145; replace q145 := eq_true q145))
                                        go_ret
                                        exact ⟨by first | rfl | (simp [errW_none, errW_some] <;> rfl) | (simp only [← hji80]; first | rfl | (simp [errW_none, errW_some] <;> rfl)) | (simp [*, errW_none, errW_some] <;> rfl), by repeat (first | (with_reducible first | exact HB.out | apply below_alloc | apply pw_below_drewN | apply below_drew1 | refine below_set ?_ GE137.out | refine below_set ?_ GE138.out) | exact HB.out)⟩
                                    · rw [if_neg c82] at H
                                      exact absurd H (by simp)
                                  · rw [if_neg c81] at H
                                    exact absurd H (by simp)
                                · rw [if_neg c79] at H
                                  have c79b0 : decide (0 < x79_4) = false := decide_eq_false c79
                                  clear c79
                                  have H' := Aside0.mk H
                                  clear H
                                  have p143 : 0 ≤ (x79_4 : Int) := of_decide_eq_true (by first | (with_reducible assumption) | assumption)
                                  have q143 : x79_4 < (l0_3.length : Int) := of_decide_eq_true (by first | (with_reducible assumption) | assumption)
                                  obtain ⟨ad143, e143, hx143_0⟩ := Kd.at_string HR0_3.out x79_4 p143 q143
                                  cases e143
                                  replace hx143_0 := (HB.out.cell (World.block_lt_of_cell? w _ hx143_0)).trans hx143_0
                                  replace p143 := eq_true p143
                                  replace q143 := eq_true q143
                                  go_wp2_with (first | ((with_reducible refine gate_callee (f := 43) rfl ?_); refine goesL_ (some 85) rfl rfl Tryd.func43 (by kernel_rfl) rfl #[.string (rdOf ByteArray.empty l0_3 x79_4)] rfl (by (try simp only [List.map_toArray, List.map_cons, List.map_nil]); first | done | rfl | (simp only [List.length_drop, List.length_take]; rfl)) ?_; (with_reducible refine (json_text.calls (rdOf ByteArray.empty l0_3 x79_4) true _ ?side1 A77.out).mono ?_); (case side1 => first | exact HT.out | (refine tabs_below HT.out ?_; repeat (first | exact HB.out | (with_reducible first | apply below_alloc | apply pw_below_drewN | apply below_drew1 | exact Below.refl _ _) | (refine below_set ?_ (Aside0.out (by assumption)))))); rintro e w90 ⟨rfl, hb⟩; refine ⟨_, rfl, ?_⟩; have n0_ := Aside0.mk (blk_below (g := gb137) (o := .cells #[.int .i64 a0_0, .int .i64 a0_1, .string a0_2, .slice (some ad143) l0_3.length c0_3, .slice A0_4 l0_4.length c0_4] 30 (0, 0)) (by (with_reducible repeat (first | refine blk_drewN ?_ _ | refine blk_drew ?_ | refine blk_alloc ?_ _)); exact BK137.out) hb); have n1_ := Aside0.mk (blk_below (g := gb138) (o := .cells #[.int .i64 a1] 3 (0, 0)) (by (with_reducible repeat (first | refine blk_drewN ?_ _ | refine blk_drew ?_ | refine blk_alloc ?_ _)); exact BK138.out) hb); have n2_ := Aside0.mk (below_step (by repeat (first | (with_reducible first | exact HB.out | apply below_alloc | apply pw_below_drewN | apply below_drew1 | refine below_set ?_ GE137.out | refine below_set ?_ GE138.out) | exact HB.out)) hb); clear BK137; clear BK138; clear HB; have BK137 := n0_; have BK138 := n1_; have HB := n2_; clear n0_ n1_ n2_; (try clear hb); (try clear hb2); (try clear hk); (try clear hi)))
                                  go_roundg k4
                                  case measure => have := HJ2.out; have := HJ58.out; have := HJ64.out; have := HK4.out; omega
                                  case rel => exact ⟨(wrap64 (x79_4 + 1)), (by first | rfl | (simp; done) | (simp [*]; done)), H', ⟨by have := HJ2.out; have := HJ58.out; have := HJ64.out; have := HK4.out; omega⟩, ⟨by (with_reducible repeat (first | refine blk_drewN ?_ _ | refine blk_drew ?_ | refine blk_alloc ?_ _)); exact BK137.out⟩, ⟨by (with_reducible repeat (first | refine blk_drewN ?_ _ | refine blk_drew ?_ | refine blk_alloc ?_ _)); exact BK138.out⟩, ⟨by repeat (first | (with_reducible first | exact HB.out | apply below_alloc | apply pw_below_drewN | apply below_drew1 | refine below_set ?_ GE137.out | refine below_set ?_ GE138.out) | exact HB.out)⟩⟩
                              · replace c78 := Bool.eq_false_iff.mpr c78
                                subst c78
                                have H1 : (some false) = some r := by rw [if_neg (show ¬ (false = true) by decide)] at H; exact H
                                clear H
                                have H := H1
                                clear H1
                                obtain rfl := Option.some.inj H
                                have p143 : 0 ≤ (x79_4 : Int) := of_decide_eq_true (by first | (with_reducible assumption) | assumption)
                                have q143 : x79_4 < (l0_3.length : Int) := of_decide_eq_true (by first | (with_reducible assumption) | assumption)
                                obtain ⟨ad143, e143, hx143_0⟩ := Kd.at_string HR0_3.out x79_4 p143 q143
                                cases e143
                                replace hx143_0 := (HB.out.cell (World.block_lt_of_cell? w _ hx143_0)).trans hx143_0
                                replace p143 := eq_true p143
                                replace q143 := eq_true q143
                                go_wp2_with (first | ((with_reducible refine gate_callee (f := 43) rfl ?_); refine goesL_ (some 85) rfl rfl Tryd.func43 (by kernel_rfl) rfl #[.string (rdOf ByteArray.empty l0_3 x79_4)] rfl (by (try simp only [List.map_toArray, List.map_cons, List.map_nil]); first | done | rfl | (simp only [List.length_drop, List.length_take]; rfl)) ?_; (with_reducible refine (json_text.calls (rdOf ByteArray.empty l0_3 x79_4) false _ ?side1 A77.out).mono ?_); (case side1 => first | exact HT.out | (refine tabs_below HT.out ?_; repeat (first | exact HB.out | (with_reducible first | apply below_alloc | apply pw_below_drewN | apply below_drew1 | exact Below.refl _ _) | (refine below_set ?_ (Aside0.out (by assumption)))))); rintro e w91 ⟨rfl, hb⟩; refine ⟨_, rfl, ?_⟩; have n0_ := Aside0.mk (blk_below (g := gb137) (o := .cells #[.int .i64 a0_0, .int .i64 a0_1, .string a0_2, .slice (some ad143) l0_3.length c0_3, .slice A0_4 l0_4.length c0_4] 30 (0, 0)) (by (with_reducible repeat (first | refine blk_drewN ?_ _ | refine blk_drew ?_ | refine blk_alloc ?_ _)); exact BK137.out) hb); have n1_ := Aside0.mk (blk_below (g := gb138) (o := .cells #[.int .i64 a1] 3 (0, 0)) (by (with_reducible repeat (first | refine blk_drewN ?_ _ | refine blk_drew ?_ | refine blk_alloc ?_ _)); exact BK138.out) hb); have n2_ := Aside0.mk (below_step (by repeat (first | (with_reducible first | exact HB.out | apply below_alloc | apply pw_below_drewN | apply below_drew1 | refine below_set ?_ GE137.out | refine below_set ?_ GE138.out) | exact HB.out)) hb); clear BK137; clear BK138; clear HB; have BK137 := n0_; have BK138 := n1_; have HB := n2_; clear n0_ n1_ n2_; (try clear hb); (try clear hb2); (try clear hk); (try clear hi)))
                                go_ret
                                exact ⟨by first | rfl | (simp [errW_none, errW_some] <;> rfl) | (simp [*, errW_none, errW_some] <;> rfl), by repeat (first | (with_reducible first | exact HB.out | apply below_alloc | apply pw_below_drewN | apply below_drew1 | refine below_set ?_ GE137.out | refine below_set ?_ GE138.out) | exact HB.out)⟩
                            · rw [if_neg c76] at H
                              exact absurd H (by simp)
                          · rw [if_neg c75] at H
                            exact absurd H (by simp)
                        · rw [if_neg c74] at H
                          have c74b0 : decide (x79_4 < (l0_3.length : Int)) = false := decide_eq_false c74
                          clear c74
                          replace H := Option.bind_eq_some_iff.mp H
                          obtain ⟨t146, A920, H⟩ := H
                          replace H : (some (!t146)) = some r := H
                          have A92 := Aside0.mk A920
                          clear A920
                          obtain rfl := Option.some.inj H
                          have hnb93 := NB137_138.out
                          have hnc93 := NB138_137.out
                          have hcz94_0 : wr.cell? ⟨gb137, 0, none⟩ = some (.int .i64 a0_0) := (blk_cell BK137.out 0).trans rfl
                          have hcz94_1 : wr.cell? ⟨gb137, 1, none⟩ = some (.int .i64 a0_1) := (blk_cell BK137.out 1).trans rfl
                          have hcz94_2 : wr.cell? ⟨gb137, 2, none⟩ = some (.string a0_2) := (blk_cell BK137.out 2).trans rfl
                          have hcz94_3 : wr.cell? ⟨gb137, 3, none⟩ = some (.slice A0_3 l0_3.length c0_3) := (blk_cell BK137.out 3).trans rfl
                          have hcz94_4 : wr.cell? ⟨gb137, 4, none⟩ = some (.slice A0_4 l0_4.length c0_4) := (blk_cell BK137.out 4).trans rfl
                          have hfz94_0 := blk_frozen BK137.out 0
                          have hfz94_1 := blk_frozen BK137.out 1
                          have hfz94_2 := blk_frozen BK137.out 2
                          have hfz94_3 := blk_frozen BK137.out 3
                          have hfz94_4 := blk_frozen BK137.out 4
                          have hcz95_0 : wr.cell? ⟨gb138, 0, none⟩ = some (.int .i64 a1) := (blk_cell BK138.out 0).trans rfl
                          have hfz95_0 := blk_frozen BK138.out 0
                          have HLIT := fun (W : World) (hbk : W.heap[gb138]? = some (.cells #[.int .i64 a1] 3 (0, 0))) (hT_ : Tabs W) => json_formed.lit_all k4 gb138 a1 W hbk hT_ (fun a0_0 a0_1 a0_2 A0_3 c0_3 l0_3 A0_4 c0_4 l0_4 a1 r w hr0_3 hc0_3 hr0_4 hc0_4 hT h => ih k4 (by have := HJ2.out; have := HJ58.out; have := HJ64.out; have := HK4.out; omega) a0_0 a0_1 a0_2 A0_3 c0_3 l0_3 A0_4 c0_4 l0_4 a1 r w hr0_3 hc0_3 hr0_4 hc0_4 hT h)
                          have HLIT := Aside0.mk HLIT
                          go_wp2_with (first | ((with_reducible refine gate_callee (f := 32) rfl ?_); refine goesL_ (some 105) rfl rfl Tryd.func32 (by kernel_rfl) rfl #[.slice A0_4 l0_4.length c0_4, .func (.func 44) #[] #[.pointer (some ⟨gb138, 0, none⟩)]] rfl (by (try simp only [List.map_toArray, List.map_cons, List.map_nil]); first | done | rfl | (simp only [List.length_drop, List.length_take]; rfl)) ?_; (refine (json_formed.contains (fun x_ => (json_formed.f k4 x_.f0 x_.f1 x_.f2 x_.f3 x_.f4 (wrap64 (a1 - 1))).map (!·)) gb138 _ c0_4 l0_4 _ _ ?sideA HC0_4.out ?sideB A92.out).mono ?_); (case sideA => repeat (first | exact (Kd.C_below HR0_4.out HB.out) | (with_reducible refine Kd.C_alloc ?_ _) | (with_reducible refine Kd.C_drewN ?_ _) | (with_reducible refine Kd.C_drew ?_))); (case sideB => exact HLIT.out _ (by repeat (first | (with_reducible refine blk_drewN ?_ _) | (with_reducible refine blk_drew ?_) | (with_reducible refine blk_alloc ?_ _) | exact BK138.out)) (by first | exact HT.out | (refine tabs_below HT.out ?_; repeat (first | (with_reducible first | exact HB.out | apply below_alloc | apply pw_below_drewN | apply below_drew1) | exact HB.out)))); rintro e w96 ⟨rfl, hb⟩; refine ⟨_, rfl, ?_⟩; have n0_ := Aside0.mk (blk_below (g := gb137) (o := .cells #[.int .i64 a0_0, .int .i64 a0_1, .string a0_2, .slice A0_3 l0_3.length c0_3, .slice A0_4 l0_4.length c0_4] 30 (0, 0)) (by (with_reducible repeat (first | refine blk_drewN ?_ _ | refine blk_drew ?_ | refine blk_alloc ?_ _)); exact BK137.out) hb); have n1_ := Aside0.mk (blk_below (g := gb138) (o := .cells #[.int .i64 a1] 3 (0, 0)) (by (with_reducible repeat (first | refine blk_drewN ?_ _ | refine blk_drew ?_ | refine blk_alloc ?_ _)); exact BK138.out) hb); have n2_ := Aside0.mk (below_step (by repeat (first | (with_reducible first | exact HB.out | apply below_alloc | apply pw_below_drewN | apply below_drew1 | refine below_set ?_ GE137.out | refine below_set ?_ GE138.out) | exact HB.out)) hb); clear BK137; clear BK138; clear HB; have BK137 := n0_; have BK138 := n1_; have HB := n2_; clear n0_ n1_ n2_; (try clear hb); (try clear hb2); (try clear hk); (try clear hi)))
                          go_ret
                          exact ⟨by first | rfl | (simp [errW_none, errW_some] <;> rfl) | (simp [*, errW_none, errW_some] <;> rfl), by repeat (first | (with_reducible first | exact HB.out | apply below_alloc | apply pw_below_drewN | apply below_drew1 | refine below_set ?_ GE137.out | refine below_set ?_ GE138.out) | exact HB.out)⟩
end Go.Proofs.YtegcbfgoomopdaaDoor.PO
