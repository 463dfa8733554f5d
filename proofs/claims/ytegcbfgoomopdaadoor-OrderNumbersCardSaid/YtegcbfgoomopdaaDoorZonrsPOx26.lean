import Derived.Test.YtegcbfgoomopdaaDoorZonrsPOx0
namespace Go.Proofs.YtegcbfgoomopdaaDoor.PO
open Go.RowKit Go.Proofs.YtegcbfgoomopdaaDoorW.PrintWords Go.Proofs.YtegcbfgoomopdaaDoorW.PrintLast Go.Proofs.YtegcbfgoomopdaaDoorW.PrintMore
attribute [local go_sem] max2_mx_ min2_mn_ max_two min_two max_three min_three max_four min_four   -- for this text's walks alone
set_option linter.unusedVariables false
set_option linter.unusedSimpArgs false
/-- A letter, or none. -/
def munimentlaw03_letters.one (x : Int) : List Int := if 0 < Int.tmod x 5 then [(97 + Int.tmod x 5) % 256] else []
def munimentlaw03_letters.pre (a0 a1 a2 : Int) : Nat → List Int
  | 0 => []
  | 1 => [] ++ munimentlaw03_letters.one a0
  | 2 => ([] ++ munimentlaw03_letters.one a0) ++ munimentlaw03_letters.one a1
  | _ => (([] ++ munimentlaw03_letters.one a0) ++ munimentlaw03_letters.one a1) ++ munimentlaw03_letters.one a2
theorem munimentlaw03_letters.one_len (x : Int) : (munimentlaw03_letters.one x).length ≤ 1 := by
  unfold munimentlaw03_letters.one
  split <;> simp
theorem munimentlaw03_letters.short (a0 a1 a2 : Int) (n : Nat) (h : n ≤ 3) : (munimentlaw03_letters.pre a0 a1 a2 n).length ≤ 3 := by
  have h0 := munimentlaw03_letters.one_len a0
  have h1 := munimentlaw03_letters.one_len a1
  have h2 := munimentlaw03_letters.one_len a2
  match n with
  | 0 => simp [munimentlaw03_letters.pre]
  | 1 => simp only [munimentlaw03_letters.pre, List.length_append, List.length_nil]; omega
  | 2 => simp only [munimentlaw03_letters.pre, List.length_append, List.length_nil]; omega
  | n + 3 => simp only [munimentlaw03_letters.pre, List.length_append, List.length_nil]; omega
def munimentlaw03_letters.f (a0_0 : Int) (a0_1 : Int) (a0_2 : Int) : Option (ByteArray) := some (strOfNums (munimentlaw03_letters.pre a0_0 a0_1 a0_2 3))
set_option maxHeartbeats 4000000 in
set_option maxRecDepth 100000 in
theorem munimentlaw03_letters.calls (a0_0 : Int) (a0_1 : Int) (a0_2 : Int) (r : ByteArray) (w : World) (h : munimentlaw03_letters.f a0_0 a0_1 a0_2 = some r) :
    Calls Tryd.prog 20 #[.agg #[.int .u8 a0_0, .int .u8 a0_1, .int .u8 a0_2]] w fun e w' => e = .returned (.string r) ∧ Below w.heap.size w w' := by
  have info5 : (Tryd.prog.info? 5).map (fun i => (i.zero, i.size, i.bytes)) = some (some (.int .u8 0), 1, 1) := by kernel_rfl
  obtain rfl := Option.some.inj h
  clear h
  obtain ⟨x3, hx3⟩ : ∃ xs, xs = munimentlaw03_letters.pre a0_0 a0_1 a0_2 3 := ⟨_, rfl⟩
  rw [← hx3]
  have HX3 := Aside0.mk hx3
  clear hx3
  have hu36 := Tryd.underlying36
  go_enter Tryd.func20, Tryd.ntmps20
  go_wp2_with (first | ((with_reducible refine gate_dst (N := 1) rfl ?_); refine box_event ?hg (N := 1) ?hd (cs := #[.int .u8 a0_0, .int .u8 a0_1, .int .u8 a0_2]) (t := 36) ?hr ?_; (case hd => rfl); (case hg => rfl); (case hr => first | (go_simp; done) | (go_simp; rfl)); intro g hg w9 hbox hb; have HB := Aside0.mk hb; have BK := Aside0.mk hbox; have GE := Aside0.mk (show w.heap.size ≤ g by rw [hg]; exact Nat.le_refl _); clear hb hbox hg))
  go_loopg [3, 4] 4 (fun kq v3 v4 w' => ∃ (n : Nat), v4 = .int .i64 (n : Int) ∧ Aside0 (n + kq = 4 ∧ n ≤ 3) ∧ Aside0 (Kd.R (Kd.int .u8) 5 w' w.heap.size (fun k_ => k_ ≠ g) v3 (munimentlaw03_letters.pre a0_0 a0_1 a0_2 n)) ∧ Aside0 (w'.heap[g]? = some (.cells #[.int .u8 a0_0, .int .u8 a0_1, .int .u8 a0_2] 36 (0, 0))) ∧ Aside0 (Below w.heap.size w w'))
  case atStart => exact ⟨0, rfl, ⟨by omega⟩, ⟨Kd.R_nil _ _ _ _ _⟩, BK, HB⟩
  case round =>
    clear HB BK
    obtain ⟨n, rfl, HN, HO, BK, HB⟩ := hrel
    have hn := HN.out
    obtain rfl | rfl | rfl | rfl : n = 0 ∨ n = 1 ∨ n = 2 ∨ n = 3 := by omega
    · obtain ⟨k1, rfl⟩ : ∃ k1, gk = k1 + 1 := ⟨gk - 1, by omega⟩
      have hcc : wr.cell? ⟨g, 0, none⟩ = some (.int .u8 a0_0) := (blk_cell BK.out 0).trans rfl
      have hone : munimentlaw03_letters.pre a0_0 a0_1 a0_2 1 = munimentlaw03_letters.pre a0_0 a0_1 a0_2 0 ++ munimentlaw03_letters.one a0_0 := rfl
      obtain ⟨xs, hxs⟩ : ∃ xs, xs = munimentlaw03_letters.pre a0_0 a0_1 a0_2 0 := ⟨_, rfl⟩
      have hxl : xs.length ≤ 3 := by rw [hxs]; exact munimentlaw03_letters.short _ _ _ 0 (by omega)
      rw [← hxs] at hone HO
      have HL := Aside0.mk hxl
      have HX := Aside0.mk hone
      clear hxs hxl hone hn
      by_cases c : 0 < Int.tmod a0_0 5
      · have c1 : decide (0 < Int.tmod a0_0 5) = true := decide_eq_true c
        have hon : munimentlaw03_letters.one a0_0 = [(97 + Int.tmod a0_0 5) % 256] := by unfold munimentlaw03_letters.one; rw [if_pos c]
        have HON := Aside0.mk hon
        clear hon c
        go_wp2_with (first | ((with_reducible refine gate_builtin (b := .append) (xs := #[.tmp 14, .tmp 20]) rfl ?_); at_builtin; refine Kd.R_append (Kd.int .u8) (w0 := w) w.heap.size rfl (.tmp 14) (.tmp 20) 46 5 (.int .u8 0) 1 rfl Tryd.underlying46 info5 rfl (by decide) (by omega) u3 xs ((97 + Int.tmod a0_0 5) % 256) [.int .u8 ((97 + Int.tmod a0_0 5) % 256)] (fun k_ => k_ ≠ g) (fun _ => False) rfl rfl ?aP (fun _ hk => hk.elim) ?aF ?aO ?aB ?aS ?aL ?_; (case aP => exact rfl); (case aB => exact (by repeat (first | (with_reducible first | exact HB.out | apply below_alloc | apply pw_below_drewN | apply below_drew1) | exact HB.out))); (case aF => exact (fun k_ hk => by have h1_ := blk_lt BK.out; have h2_ : wr.heap.size ≤ k_ := (by first | exact hk | exact Nat.le_of_succ_le hk | (simp at hk; omega)); omega)); (case aO => exact (by (with_reducible repeat (first | apply Kd.R_alloc | apply Kd.R_drewN | apply Kd.R_drew)); exact HO.out)); (case aS => exact (below_size (by repeat (first | (with_reducible first | exact HB.out | apply below_alloc | apply pw_below_drewN | apply below_drew1) | exact HB.out)))); (case aL => have := HL.out; omega); intro v105 w8 ho hb hg hat; rw [← HON.out, ← HX.out] at ho; have n1_ := Aside0.mk (blk_grown (g := g) (o := .cells #[.int .u8 a0_0, .int .u8 a0_1, .int .u8 a0_2] 36 (0, 0)) (by (with_reducible repeat (first | refine blk_drewN ?_ _ | refine blk_drew ?_ | refine blk_alloc ?_ _)); exact BK.out) hg (Kd.R_away HO.out (fun _ hk => hk))); have n0_ := Aside0.mk hb; have n2_ := Aside0.mk ho; clear HB HO BK hcc; have HB := n0_; have BK := n1_; have HO := n2_; clear n0_ n1_ n2_; clear ho hb hg hat))
        go_roundg k1
        case measure => omega
        case rel => exact ⟨1, by rfl, ⟨by have := HN.out; omega⟩, ⟨by (with_reducible repeat (first | apply Kd.R_alloc | apply Kd.R_drewN | apply Kd.R_drew)); exact HO.out⟩, ⟨by (with_reducible repeat (first | refine blk_drewN ?_ _ | refine blk_drew ?_ | refine blk_alloc ?_ _)); exact BK.out⟩, ⟨by repeat (first | (with_reducible first | exact HB.out | apply below_alloc | apply pw_below_drewN | apply below_drew1) | exact HB.out)⟩⟩
      · have c1 : decide (0 < Int.tmod a0_0 5) = false := decide_eq_false c
        have hon : munimentlaw03_letters.one a0_0 = [] := by unfold munimentlaw03_letters.one; rw [if_neg c]
        have HX2 : Aside0 (munimentlaw03_letters.pre a0_0 a0_1 a0_2 1 = xs) := ⟨by rw [HX.out, hon, List.append_nil]⟩
        clear hon c HX
        go_wp2
        go_roundg k1
        case measure => omega
        case rel => exact ⟨1, by rfl, ⟨by have := HN.out; omega⟩, ⟨by rw [HX2.out]; exact HO.out⟩, BK, HB⟩
    · obtain ⟨k1, rfl⟩ : ∃ k1, gk = k1 + 1 := ⟨gk - 1, by omega⟩
      have hcc : wr.cell? ⟨g, 1, none⟩ = some (.int .u8 a0_1) := (blk_cell BK.out 1).trans rfl
      have hone : munimentlaw03_letters.pre a0_0 a0_1 a0_2 2 = munimentlaw03_letters.pre a0_0 a0_1 a0_2 1 ++ munimentlaw03_letters.one a0_1 := rfl
      obtain ⟨xs, hxs⟩ : ∃ xs, xs = munimentlaw03_letters.pre a0_0 a0_1 a0_2 1 := ⟨_, rfl⟩
      have hxl : xs.length ≤ 3 := by rw [hxs]; exact munimentlaw03_letters.short _ _ _ 1 (by omega)
      rw [← hxs] at hone HO
      have HL := Aside0.mk hxl
      have HX := Aside0.mk hone
      clear hxs hxl hone hn
      by_cases c : 0 < Int.tmod a0_1 5
      · have c1 : decide (0 < Int.tmod a0_1 5) = true := decide_eq_true c
        have hon : munimentlaw03_letters.one a0_1 = [(97 + Int.tmod a0_1 5) % 256] := by unfold munimentlaw03_letters.one; rw [if_pos c]
        have HON := Aside0.mk hon
        clear hon c
        go_wp2_with (first | ((with_reducible refine gate_builtin (b := .append) (xs := #[.tmp 14, .tmp 20]) rfl ?_); at_builtin; refine Kd.R_append (Kd.int .u8) (w0 := w) w.heap.size rfl (.tmp 14) (.tmp 20) 46 5 (.int .u8 0) 1 rfl Tryd.underlying46 info5 rfl (by decide) (by omega) u3 xs ((97 + Int.tmod a0_1 5) % 256) [.int .u8 ((97 + Int.tmod a0_1 5) % 256)] (fun k_ => k_ ≠ g) (fun _ => False) rfl rfl ?aP (fun _ hk => hk.elim) ?aF ?aO ?aB ?aS ?aL ?_; (case aP => exact rfl); (case aB => exact (by repeat (first | (with_reducible first | exact HB.out | apply below_alloc | apply pw_below_drewN | apply below_drew1) | exact HB.out))); (case aF => exact (fun k_ hk => by have h1_ := blk_lt BK.out; have h2_ : wr.heap.size ≤ k_ := (by first | exact hk | exact Nat.le_of_succ_le hk | (simp at hk; omega)); omega)); (case aO => exact (by (with_reducible repeat (first | apply Kd.R_alloc | apply Kd.R_drewN | apply Kd.R_drew)); exact HO.out)); (case aS => exact (below_size (by repeat (first | (with_reducible first | exact HB.out | apply below_alloc | apply pw_below_drewN | apply below_drew1) | exact HB.out)))); (case aL => have := HL.out; omega); intro v105 w8 ho hb hg hat; rw [← HON.out, ← HX.out] at ho; have n1_ := Aside0.mk (blk_grown (g := g) (o := .cells #[.int .u8 a0_0, .int .u8 a0_1, .int .u8 a0_2] 36 (0, 0)) (by (with_reducible repeat (first | refine blk_drewN ?_ _ | refine blk_drew ?_ | refine blk_alloc ?_ _)); exact BK.out) hg (Kd.R_away HO.out (fun _ hk => hk))); have n0_ := Aside0.mk hb; have n2_ := Aside0.mk ho; clear HB HO BK hcc; have HB := n0_; have BK := n1_; have HO := n2_; clear n0_ n1_ n2_; clear ho hb hg hat))
        go_roundg k1
        case measure => omega
        case rel => exact ⟨2, by rfl, ⟨by have := HN.out; omega⟩, ⟨by (with_reducible repeat (first | apply Kd.R_alloc | apply Kd.R_drewN | apply Kd.R_drew)); exact HO.out⟩, ⟨by (with_reducible repeat (first | refine blk_drewN ?_ _ | refine blk_drew ?_ | refine blk_alloc ?_ _)); exact BK.out⟩, ⟨by repeat (first | (with_reducible first | exact HB.out | apply below_alloc | apply pw_below_drewN | apply below_drew1) | exact HB.out)⟩⟩
      · have c1 : decide (0 < Int.tmod a0_1 5) = false := decide_eq_false c
        have hon : munimentlaw03_letters.one a0_1 = [] := by unfold munimentlaw03_letters.one; rw [if_neg c]
        have HX2 : Aside0 (munimentlaw03_letters.pre a0_0 a0_1 a0_2 2 = xs) := ⟨by rw [HX.out, hon, List.append_nil]⟩
        clear hon c HX
        go_wp2
        go_roundg k1
        case measure => omega
        case rel => exact ⟨2, by rfl, ⟨by have := HN.out; omega⟩, ⟨by rw [HX2.out]; exact HO.out⟩, BK, HB⟩
    · obtain ⟨k1, rfl⟩ : ∃ k1, gk = k1 + 1 := ⟨gk - 1, by omega⟩
      have hcc : wr.cell? ⟨g, 2, none⟩ = some (.int .u8 a0_2) := (blk_cell BK.out 2).trans rfl
      have hone : munimentlaw03_letters.pre a0_0 a0_1 a0_2 3 = munimentlaw03_letters.pre a0_0 a0_1 a0_2 2 ++ munimentlaw03_letters.one a0_2 := rfl
      obtain ⟨xs, hxs⟩ : ∃ xs, xs = munimentlaw03_letters.pre a0_0 a0_1 a0_2 2 := ⟨_, rfl⟩
      have hxl : xs.length ≤ 3 := by rw [hxs]; exact munimentlaw03_letters.short _ _ _ 2 (by omega)
      rw [← hxs] at hone HO
      have HL := Aside0.mk hxl
      have HX := Aside0.mk hone
      clear hxs hxl hone hn
      by_cases c : 0 < Int.tmod a0_2 5
      · have c1 : decide (0 < Int.tmod a0_2 5) = true := decide_eq_true c
        have hon : munimentlaw03_letters.one a0_2 = [(97 + Int.tmod a0_2 5) % 256] := by unfold munimentlaw03_letters.one; rw [if_pos c]
        have HON := Aside0.mk hon
        clear hon c
        go_wp2_with (first | ((with_reducible refine gate_builtin (b := .append) (xs := #[.tmp 14, .tmp 20]) rfl ?_); at_builtin; refine Kd.R_append (Kd.int .u8) (w0 := w) w.heap.size rfl (.tmp 14) (.tmp 20) 46 5 (.int .u8 0) 1 rfl Tryd.underlying46 info5 rfl (by decide) (by omega) u3 xs ((97 + Int.tmod a0_2 5) % 256) [.int .u8 ((97 + Int.tmod a0_2 5) % 256)] (fun k_ => k_ ≠ g) (fun _ => False) rfl rfl ?aP (fun _ hk => hk.elim) ?aF ?aO ?aB ?aS ?aL ?_; (case aP => exact rfl); (case aB => exact (by repeat (first | (with_reducible first | exact HB.out | apply below_alloc | apply pw_below_drewN | apply below_drew1) | exact HB.out))); (case aF => exact (fun k_ hk => by have h1_ := blk_lt BK.out; have h2_ : wr.heap.size ≤ k_ := (by first | exact hk | exact Nat.le_of_succ_le hk | (simp at hk; omega)); omega)); (case aO => exact (by (with_reducible repeat (first | apply Kd.R_alloc | apply Kd.R_drewN | apply Kd.R_drew)); exact HO.out)); (case aS => exact (below_size (by repeat (first | (with_reducible first | exact HB.out | apply below_alloc | apply pw_below_drewN | apply below_drew1) | exact HB.out)))); (case aL => have := HL.out; omega); intro v105 w8 ho hb hg hat; rw [← HON.out, ← HX.out] at ho; have n1_ := Aside0.mk (blk_grown (g := g) (o := .cells #[.int .u8 a0_0, .int .u8 a0_1, .int .u8 a0_2] 36 (0, 0)) (by (with_reducible repeat (first | refine blk_drewN ?_ _ | refine blk_drew ?_ | refine blk_alloc ?_ _)); exact BK.out) hg (Kd.R_away HO.out (fun _ hk => hk))); have n0_ := Aside0.mk hb; have n2_ := Aside0.mk ho; clear HB HO BK hcc; have HB := n0_; have BK := n1_; have HO := n2_; clear n0_ n1_ n2_; clear ho hb hg hat))
        go_roundg k1
        case measure => omega
        case rel => exact ⟨3, by rfl, ⟨by have := HN.out; omega⟩, ⟨by (with_reducible repeat (first | apply Kd.R_alloc | apply Kd.R_drewN | apply Kd.R_drew)); exact HO.out⟩, ⟨by (with_reducible repeat (first | refine blk_drewN ?_ _ | refine blk_drew ?_ | refine blk_alloc ?_ _)); exact BK.out⟩, ⟨by repeat (first | (with_reducible first | exact HB.out | apply below_alloc | apply pw_below_drewN | apply below_drew1) | exact HB.out)⟩⟩
      · have c1 : decide (0 < Int.tmod a0_2 5) = false := decide_eq_false c
        have hon : munimentlaw03_letters.one a0_2 = [] := by unfold munimentlaw03_letters.one; rw [if_neg c]
        have HX2 : Aside0 (munimentlaw03_letters.pre a0_0 a0_1 a0_2 3 = xs) := ⟨by rw [HX.out, hon, List.append_nil]⟩
        clear hon c HX
        go_wp2
        go_roundg k1
        case measure => omega
        case rel => exact ⟨3, by rfl, ⟨by have := HN.out; omega⟩, ⟨by rw [HX2.out]; exact HO.out⟩, BK, HB⟩
    · have hcv := Kd.R_reads HO.out
      rw [← HX3.out] at hcv
      obtain ⟨A, c, rfl, hle, hC⟩ := hcv
      have hcv := Kd.C_string (P := Tryd.prog) (A := A) (c := c) Tryd.underlying46 Tryd.underlying5 Tryd.underlying9 hC
      clear hle hC HO hn HN HX3
      go_wp2
      go_ret
      exact ⟨rfl, HB.out⟩
end Go.Proofs.YtegcbfgoomopdaaDoor.PO
