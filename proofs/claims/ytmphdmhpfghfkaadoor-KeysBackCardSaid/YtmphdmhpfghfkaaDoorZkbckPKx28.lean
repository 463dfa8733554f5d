import Derived.Test.YtmphdmhpfghfkaaDoorZkbckPKx0
import Derived.Test.YtmphdmhpfghfkaaDoorZkbckPKx25
import Derived.Test.YtmphdmhpfghfkaaDoorZkbckPKx26
import Derived.Test.YtmphdmhpfghfkaaDoorZkbckPKx27
namespace Go.Proofs.YtmphdmhpfghfkaaDoor.PK
open Go.RowKit Go.Proofs.YtmphdmhpfghfkaaDoorW.PrintWords Go.Proofs.YtmphdmhpfghfkaaDoorW.PrintLast Go.Proofs.YtmphdmhpfghfkaaDoorW.PrintMore
attribute [local go_sem] max2_mx_ min2_mn_ max_two min_two max_three min_three max_four min_four   -- for this text's walks alone
set_option linter.unusedVariables false
set_option linter.unusedSimpArgs false
theorem keys_reader_value.info9 : (Tryd.prog.info? 9).map (fun i => (i.zero, i.size, i.bytes)) = some (some (.string ⟨#[]⟩), 1, 16) := by kernel_rfl
def keys_eight.n : Nat → List Int → List Int → Int → Bool → Option (List Int × Int × Bool)
  | 0, acc, _, a, b => some (acc, a, b)
  | m + 1, acc, s, a, b => (keys_reader_next.f s a b).bind fun t => keys_eight.n m (acc ++ [t.1]) s t.2.1 t.2.2
def keys_eight.f (k : Nat) (s : List Int) (a : Int) (b : Bool) : Option (Int × Int × Bool) := (keys_eight.n 8 [] s a b).bind fun t => (keys_get64.f k t.1).bind fun x => some (x, t.2.1, t.2.2)
theorem keys_eight.mono : ∀ a0 a1 a2 k, LeO (keys_eight.f k a0 a1 a2) (keys_eight.f (k + 1) a0 a1 a2) := by
  intro a0 a1 a2 k
  unfold keys_eight.f
  exact LeO.bind (LeO.refl _) (fun t => LeO.bind (keys_get64.mono _ _) (fun _ => LeO.refl _))
def keys_eight.pad (acc : List Int) : List Int := acc ++ List.replicate (8 - acc.length) 0
def keys_eight.arr (acc : List Int) : Array Value := ((keys_eight.pad acc).map (Value.int .u8)).toArray
theorem keys_eight.get (acc : List Int) (h : acc.length < 8) : (keys_eight.arr acc)[acc.length]? = some (.int .u8 0) := by
  unfold keys_eight.arr keys_eight.pad
  rw [List.getElem?_toArray, List.getElem?_map, List.getElem?_append_right (Nat.le_refl _), Nat.sub_self, List.getElem?_replicate, if_pos (by omega)]
  rfl
theorem keys_eight.put (acc : List Int) (b : Int) (h : acc.length < 8) : (keys_eight.arr acc).setIfInBounds acc.length (.int .u8 b) = keys_eight.arr (acc ++ [b]) := by
  unfold keys_eight.arr keys_eight.pad
  obtain ⟨m, hm⟩ : ∃ m, 8 - acc.length = m + 1 := ⟨8 - acc.length - 1, by omega⟩
  have e2 : 8 - (acc ++ [b]).length = m := by rw [List.length_append, List.length_singleton]; omega
  rw [hm, e2, List.setIfInBounds_toArray]
  congr 1
  rw [List.map_append, List.set_append_right _ _ (by simp), List.replicate_succ]
  simp
theorem keys_eight.bytes (w : World) (g : Nat) (acc : List Int) (t : TypeId) (h : acc.length = 8) (hb : w.heap[g]? = some (.cells (keys_eight.arr acc) t (0, 0))) : Kd.C (Kd.int .u8) w (some ⟨g, 0, none⟩) acc.length acc := by
  refine ⟨rfl, by omega, fun _ => ⟨⟨g, 0, none⟩, rfl, fun j p hj => ?_⟩⟩
  refine ⟨[.int .u8 p], rfl, rfl, fun i u hu => ?_⟩
  have hi : i = 0 := by
    have := (List.getElem?_eq_some_iff.1 hu).1
    simpa using this
  subst hi
  have hju : u = .int .u8 p := by simpa using hu.symm
  subst hju
  have hlt : j < acc.length := (List.getElem?_eq_some_iff.1 hj).1
  have e1 : (⟨g, 0, none⟩ : Addr).add (j * (Kd.int .u8).sz + 0) = ⟨g, j, none⟩ := by
    show (⟨g, 0, none⟩ : Addr).add (j * 1 + 0) = _
    simp only [Nat.mul_one, Nat.add_zero]
    unfold Addr.add
    split
    · simp_all
    · simp
  rw [e1, blk_cell hb j]
  unfold keys_eight.arr keys_eight.pad
  rw [List.getElem?_toArray, List.getElem?_map, List.getElem?_append_left hlt, hj]
  rfl
mutual
def keys_reader_value.j0 : Nat → Int → Bool → List Int → Int → Bool → Int → Int → ByteArray → Option (Int × Int × ByteArray × List ByteArray × (List (S25)) × Int × Bool)
  | 0, _, _, _, _, _, _, _, _ => none
  | k + 1, x1, x25, x1000, x1001, x1002, x372000, x372001, x372002 => if x25 = true then (keys_reader_value.j1 k x1 x1000 x1001 true x372000 x372001 x372002) else (keys_reader_value.j1 k x1 x1000 x1001 x1002 x372000 x372001 x372002)
def keys_reader_value.j1 : Nat → Int → List Int → Int → Bool → Int → Int → ByteArray → Option (Int × Int × ByteArray × List ByteArray × (List (S25)) × Int × Bool)
  | 0, _, _, _, _, _, _, _ => none
  | k + 1, x1, x1000, x1001, x1002, x372000, x372001, x372002 => if x372000 = 3 then ((keys_eight.f k x1000 x1001 x1002).bind fun bt372 => (some (x372000, wrap64 (Go.bits .xor .u64 bt372.1 9223372036854775808), x372002, ([] : List ByteArray), ([] : List (S25)), bt372.2.1, bt372.2.2))) else (if x372000 = 4 then ((keys_reader_text.f k x1000 x1001 x1002).bind fun bt375 => (some (x372000, x372001, bt375.1, ([] : List ByteArray), ([] : List (S25)), bt375.2.1, bt375.2.2))) else (if x372000 = 5 then (keys_reader_value.j2 k x1 (x372000 == 5) x1000 x1001 x1002 x372000 x372001 x372002) else (keys_reader_value.j2 k x1 (x372000 == 6) x1000 x1001 x1002 x372000 x372001 x372002)))
def keys_reader_value.j2 : Nat → Int → Bool → List Int → Int → Bool → Int → Int → ByteArray → Option (Int × Int × ByteArray × List ByteArray × (List (S25)) × Int × Bool)
  | 0, _, _, _, _, _, _, _, _ => none
  | k + 1, x1, x51, x1000, x1001, x1002, x372000, x372001, x372002 => if x51 = true then (keys_reader_value.l0 k x1 x1000 x1001 x1002 x372000 x372001 x372002 ([] : List ByteArray) ([] : List (S25))) else (some (x372000, x372001, x372002, ([] : List ByteArray), ([] : List (S25)), x1001, x1002))
def keys_reader_value.l0 : Nat → Int → List Int → Int → Bool → Int → Int → ByteArray → List ByteArray → List (S25) → Option (Int × Int × ByteArray × List ByteArray × (List (S25)) × Int × Bool)
  | 0, _, _, _, _, _, _, _, _, _ => none
  | k + 1, x1, x1000, x1001, x1002, x372000, x372001, x372002, x372003, x372004 => if x1002 = true then (keys_reader_value.j4 k x1 false x1000 x1001 x1002 x372000 x372001 x372002 x372003 x372004) else (keys_reader_value.j4 k x1 (decide ((x372004.length : Int) ≤ 24)) x1000 x1001 x1002 x372000 x372001 x372002 x372003 x372004)
def keys_reader_value.j4 : Nat → Int → Bool → List Int → Int → Bool → Int → Int → ByteArray → List ByteArray → List (S25) → Option (Int × Int × ByteArray × List ByteArray × (List (S25)) × Int × Bool)
  | 0, _, _, _, _, _, _, _, _, _, _ => none
  | k + 1, x1, x64, x1000, x1001, x1002, x372000, x372001, x372002, x372003, x372004 => if x64 = true then ((keys_reader_next.f x1000 x1001 x1002).bind fun bt378 => (if bt378.1 = 0 then (some (x372000, x372001, x372002, x372003, x372004, bt378.2.1, bt378.2.2)) else (if x372000 = 6 then (if bt378.2.2 = true then (keys_reader_value.j5 k x1 x1000 bt378.2.1 true x372000 x372001 x372002 x372003 x372004) else (keys_reader_value.j5 k x1 x1000 bt378.2.1 (bt378.1 != 1) x372000 x372001 x372002 x372003 x372004)) else (if bt378.2.2 = true then (keys_reader_value.l0 k x1 x1000 (wrap64 (bt378.2.1 - 1)) bt378.2.2 x372000 x372001 x372002 x372003 x372004) else ((keys_reader_value.f k x1000 (wrap64 (bt378.2.1 - 1)) bt378.2.2 (wrap64 (x1 - 1))).bind fun bt401 => (if x372004.length < 1759218604441 then (keys_reader_value.l0 k x1 x1000 bt401.2.2.2.2.2.1 bt401.2.2.2.2.2.2 x372000 x372001 x372002 x372003 (x372004 ++ [(⟨bt401.1, bt401.2.1, bt401.2.2.1, bt401.2.2.2.1, bt401.2.2.2.2.1⟩ : S25)])) else (none))))))) else (some (x372000, x372001, x372002, x372003, x372004, x1001, x1002))
def keys_reader_value.j5 : Nat → Int → List Int → Int → Bool → Int → Int → ByteArray → List ByteArray → List (S25) → Option (Int × Int × ByteArray × List ByteArray × (List (S25)) × Int × Bool)
  | 0, _, _, _, _, _, _, _, _, _ => none
  | k + 1, x1, x1000, x1001, x1002, x372000, x372001, x372002, x372003, x372004 => (keys_reader_text.f k x1000 x1001 x1002).bind fun bt381 => (if x372003.length < 8796093022208 then ((some (x372003 ++ [bt381.1] : List ByteArray)).bind fun y384 => (if bt381.2.2 = true then (keys_reader_value.l0 k x1 x1000 bt381.2.1 bt381.2.2 x372000 x372001 x372002 y384 x372004) else ((keys_reader_value.f k x1000 bt381.2.1 bt381.2.2 (wrap64 (x1 - 1))).bind fun bt387 => (if x372004.length < 1759218604441 then (keys_reader_value.l0 k x1 x1000 bt387.2.2.2.2.2.1 bt387.2.2.2.2.2.2 x372000 x372001 x372002 y384 (x372004 ++ [(⟨bt387.1, bt387.2.1, bt387.2.2.1, bt387.2.2.2.1, bt387.2.2.2.2.1⟩ : S25)])) else (none))))) else (none))
def keys_reader_value.f : Nat → List Int → Int → Bool → Int → Option (Int × Int × ByteArray × List ByteArray × (List (S25)) × Int × Bool)
  | 0, _, _, _, _ => none
  | k + 1, s0_0, s0_1, s0_2, a1 => (keys_reader_next.f s0_0 s0_1 s0_2).bind fun bt368 => (if a1 = 0 then (keys_reader_value.j0 k a1 true s0_0 bt368.2.1 bt368.2.2 (wrap64 ((wrap64 (bt368.1)) - 1)) 0 (⟨#[]⟩ : ByteArray)) else (if (wrap64 ((wrap64 (bt368.1)) - 1)) < 0 then (keys_reader_value.j0 k a1 true s0_0 bt368.2.1 bt368.2.2 (wrap64 ((wrap64 (bt368.1)) - 1)) 0 (⟨#[]⟩ : ByteArray)) else (keys_reader_value.j0 k a1 (decide ((wrap64 ((wrap64 (bt368.1)) - 1)) > 6)) s0_0 bt368.2.1 bt368.2.2 (wrap64 ((wrap64 (bt368.1)) - 1)) 0 (⟨#[]⟩ : ByteArray))))
end
def keys_reader_value.T22 : Bool × List (List Nat × List Nat) := (true, [([], []), ([0], [0]), ([], []), ([2], [2]), ([3], [3]), ([1, 4, 3], [1, 4]), ([0, 1, 2, 3, 4, 5], []), ([6, 5, 5, 0, 1, 2, 3, 4, 5], [5, 6])])
def keys_reader_value.B22 : List Nat := [0, 1, 0, 4, 12, 31, 63, 127]
theorem keys_reader_value.tab22 : rtab .any (opsOf Tryd.f47 22) = keys_reader_value.T22 := by kernel_rfl
theorem keys_reader_value.bits22 : waitsOk keys_reader_value.T22.2 keys_reader_value.B22 = true := by kernel_rfl
def keys_reader_value.T25 : Bool × List (List Nat × List Nat) := (true, [([], []), ([0], [0]), ([], []), ([], []), ([3], [3]), ([2, 4], [2, 4]), ([5], [5]), ([1, 6, 5], [1, 6]), ([0, 1, 2, 3, 4, 5, 6, 7], []), ([8, 7, 7, 0, 1, 2, 3, 4, 5, 6, 7], [7, 8])])
def keys_reader_value.B25 : List Nat := [0, 1, 0, 0, 8, 28, 60, 127, 255, 511]
theorem keys_reader_value.tab25 : rtab .any (opsOf Tryd.f47 25) = keys_reader_value.T25 := by kernel_rfl
theorem keys_reader_value.bits25 : waitsOk keys_reader_value.T25.2 keys_reader_value.B25 = true := by kernel_rfl
set_option maxHeartbeats 8000000 in
set_option maxRecDepth 100000 in
theorem keys_reader_value.calls (k : Nat) : ∀ (g : Nat) (s0_0 : List Int) (s0_1 : Int) (s0_2 : Bool) (a1 : Int) (r1 : Int) (r2 : Int) (r3 : ByteArray) (r4 : List ByteArray) (r5 : List (S25)) (r6 : Int) (r7 : Bool) (w0 w : World) (hI : IsS54 w0 w g s0_0 s0_1 s0_2) (hB : Below w0.heap.size w0 w) (h : keys_reader_value.f k s0_0 s0_1 s0_2 a1 = some (r1, r2, r3, r4, r5, r6, r7)),
    Calls Tryd.prog 47 #[.pointer (some ⟨g, 0, none⟩), .int .i64 a1] w fun e w' => ∃ v3_ v4_ : Value, e = .returned (.agg #[.int .i64 r1, .int .i64 r2, .string r3, v3_, v4_]) ∧ Kd.R Kd.string 9 w' w.heap.size (fun _ => True) v3_ r4 ∧ Kd.R k25 25 w' w.heap.size (fun k_ => some k_ ≠ (v3_ : Value).ownBlock) v4_ r5 ∧ IsS54 w0 w' g s0_0 r6 r7 ∧ Below w0.heap.size w0 w' ∧ KeepBut w w' g none := by
  induction k using Nat.strongRecOn with
  | _ k ih =>
  intro g s0_0 s0_1 s0_2 a1 r1 r2 r3 r4 r5 r6 r7 w0 w hI hB h
  cases k with
  | zero => exact absurd h (by simp [keys_reader_value.f])
  | succ k =>
  simp only [keys_reader_value.f] at h
  have hu25 := Tryd.underlying25
  have HI0 := Aside0.mk hI
  have HK := Aside0.mk (KeepBut.refl w g none)
  have HL := Aside0.mk hB.size
  clear hI
  have HW0 := Aside0.mk hB.size
  have HB := Aside0.mk hB
  clear hB
  have H : ((keys_reader_next.f s0_0 s0_1 s0_2).bind fun bt368 => (if a1 = 0 then (keys_reader_value.j0 k a1 true s0_0 bt368.2.1 bt368.2.2 (wrap64 ((wrap64 (bt368.1)) - 1)) 0 (⟨#[]⟩ : ByteArray)) else (if (wrap64 ((wrap64 (bt368.1)) - 1)) < 0 then (keys_reader_value.j0 k a1 true s0_0 bt368.2.1 bt368.2.2 (wrap64 ((wrap64 (bt368.1)) - 1)) 0 (⟨#[]⟩ : ByteArray)) else (keys_reader_value.j0 k a1 (decide ((wrap64 ((wrap64 (bt368.1)) - 1)) > 6)) s0_0 bt368.2.1 bt368.2.2 (wrap64 ((wrap64 (bt368.1)) - 1)) 0 (⟨#[]⟩ : ByteArray))))) = some (r1, r2, r3, r4, r5, r6, r7) := h
  clear h
  replace H := Option.bind_eq_some_iff.mp H
  obtain ⟨⟨t368, t369, t370⟩, A30, H⟩ := H
  replace H : (if a1 = 0 then (keys_reader_value.j0 k a1 true s0_0 t369 t370 (wrap64 ((wrap64 (t368)) - 1)) 0 (⟨#[]⟩ : ByteArray)) else (if (wrap64 ((wrap64 (t368)) - 1)) < 0 then (keys_reader_value.j0 k a1 true s0_0 t369 t370 (wrap64 ((wrap64 (t368)) - 1)) 0 (⟨#[]⟩ : ByteArray)) else (keys_reader_value.j0 k a1 (decide ((wrap64 ((wrap64 (t368)) - 1)) > 6)) s0_0 t369 t370 (wrap64 ((wrap64 (t368)) - 1)) 0 (⟨#[]⟩ : ByteArray)))) = some (r1, r2, r3, r4, r5, r6, r7) := H
  have A3 := Aside0.mk A30
  clear A30
  have HC4 := Aside0.mk H
  clear H
  go_enter Tryd.func47, Tryd.ntmps47
  go_upto_region 2 with (first | ((with_reducible refine gate_dst (N := 4) rfl ?_); (try (refine gate_guard (by rfl) ?_; dsimp only)); refine box_event ?hg (N := 4) ?hd (cs := #[.int .i64 0, .int .i64 0, .string (⟨#[]⟩ : ByteArray), .slice none 0 0, .slice none 0 0]) (t := 25) ?hr ?_; (case hd => rfl); (case hg => rfl); (case hr => first | (go_simp; done) | (go_simp; rfl)); intro gb367 hg w5 hbox hb; have n0_ := Aside0.mk (IsS54.below (by repeat (first | (with_reducible first | exact HI0.out | apply IsS54.alloc | apply IsS54.drewN | apply IsS54.drew | apply IsS54.set_1 | apply IsS54.set_2) | exact HI0.out)) hb); have n1_ := Aside0.mk (KeepBut.trans (by repeat (first | (with_reducible first | exact HK.out | apply KeepBut.set_ | apply keep_drewN | apply keep_drew | apply keep_alloc) | exact HK.out)) (KeepBut.of_below hb g none) (.inl rfl)); have n2_ := Aside0.mk (below_step (by repeat (first | (with_reducible first | exact HB.out | apply below_alloc | apply pw_below_drewN | apply below_drew1 | refine below_set ?_ (IsS54.ge HI0.out)) | exact HB.out)) hb); have n3_ := Aside0.mk (hbox); have n4_ := Aside0.mk ((by rw [hg]; exact (keep_size (w := w) (g := g) (row := none) (by repeat (first | (with_reducible first | exact HK.out | apply KeepBut.set_ | apply keep_drewN | apply keep_drew | apply keep_alloc) | exact HK.out))) : w.heap.size ≤ gb367)); have n5_ := Aside0.mk ((Nat.le_trans HW0.out (by rw [hg]; exact (keep_size (w := w) (g := g) (row := none) (by repeat (first | (with_reducible first | exact HK.out | apply KeepBut.set_ | apply keep_drewN | apply keep_drew | apply keep_alloc) | exact HK.out))) : w.heap.size ≤ gb367) : w0.heap.size ≤ gb367)); have n6_ := Aside0.mk ((by rw [hg]; exact Nat.ne_of_lt (IsS54.lt (show IsS54 w0 _ g s0_0 s0_1 s0_2 from by repeat (first | (with_reducible first | exact HI0.out | apply IsS54.alloc | apply IsS54.drewN | apply IsS54.drew | apply IsS54.set_1 | apply IsS54.set_2) | exact HI0.out))) : g ≠ gb367)); have n7_ := Aside0.mk ((by rw [hg]; exact Nat.ne_of_gt (IsS54.lt (show IsS54 w0 _ g s0_0 s0_1 s0_2 from by repeat (first | (with_reducible first | exact HI0.out | apply IsS54.alloc | apply IsS54.drewN | apply IsS54.drew | apply IsS54.set_1 | apply IsS54.set_2) | exact HI0.out))) : gb367 ≠ g)); clear HI0; clear HK; clear HB; have HI0 := n0_; have HK := n1_; have HB := n2_; have BK367 := n3_; have GW367 := n4_; have GE367 := n5_; have NB0_367 := n6_; have NB367_0 := n7_; clear n0_ n1_ n2_ n3_ n4_ n5_ n6_ n7_; clear hb hbox hg) | ((with_reducible refine gate_callee (f := 57) rfl ?_); refine goesL_ (some 10) rfl rfl Tryd.func57 (by kernel_rfl) rfl #[.pointer (some ⟨g, 0, none⟩)] rfl (by (try simp only [List.map_toArray, List.map_cons, List.map_nil]); first | done | rfl | (simp only [List.length_drop, List.length_take]; rfl)) ?_; (with_reducible refine (keys_reader_next.calls g s0_0 s0_1 s0_2 t368 t369 t370 w0 _ ?side1 ?side2 A3.out).mono ?_); (case side1 => repeat (first | (with_reducible first | exact HI0.out | apply IsS54.alloc | apply IsS54.drewN | apply IsS54.drew | apply IsS54.set_1 | apply IsS54.set_2 | refine IsS54.far ?_ NB0_367.out _) | exact HI0.out)); (case side2 => repeat (first | (with_reducible first | exact HB.out | apply below_alloc | apply pw_below_drewN | apply below_drew1 | refine below_set ?_ (IsS54.ge HI0.out) | refine below_set ?_ GE367.out) | exact HB.out)); rintro e w6 ⟨rfl, hi, hb, hk⟩; refine ⟨_, rfl, ?_⟩; have n0_ := Aside0.mk (KeepBut.blk hk (g' := gb367) (o := .cells #[.int .i64 0, .int .i64 0, .string (⟨#[]⟩ : ByteArray), .slice none 0 0, .slice none 0 0] 25 (0, 0)) (by (with_reducible repeat (first | refine blk_drewN ?_ _ | refine blk_drew ?_ | refine blk_alloc ?_ _)); exact BK367.out) NB367_0.out (by simp)); have n1_ := Aside0.mk (KeepBut.trans (by repeat (first | (with_reducible first | exact HK.out | apply KeepBut.set_ | apply keep_drewN | apply keep_drew | apply keep_alloc | refine keep_far ?_ GW367.out _) | exact HK.out)) hk (.inl rfl)); have n2_ := Aside0.mk (hb); have n3_ := Aside0.mk (hi); clear BK367; clear HK; clear HB; clear HI0; have BK367 := n0_; have HK := n1_; have HB := n2_; have HI0 := n3_; clear n0_ n1_ n2_ n3_; (try clear hb); (try clear hb2); (try clear hk); (try clear hi)) | ((with_reducible refine gate_dst (N := 5) rfl ?_); (try (refine gate_guard (by rfl) ?_; dsimp only)); refine box_event ?hg (N := 5) ?hd (cs := #[.int .i64 0, .int .i64 0, .string (⟨#[]⟩ : ByteArray), .slice none 0 0, .slice none 0 0]) (t := 25) ?hr ?_; (case hd => rfl); (case hg => rfl); (case hr => first | (go_simp; done) | (go_simp; rfl)); intro gb371 hg w7 hbox hb; have n0_ := Aside0.mk (IsS54.below (by repeat (first | (with_reducible first | exact HI0.out | apply IsS54.alloc | apply IsS54.drewN | apply IsS54.drew | apply IsS54.set_1 | apply IsS54.set_2 | refine IsS54.far ?_ NB0_367.out _) | exact HI0.out)) hb); have n1_ := Aside0.mk (blk_below (g := gb367) (o := .cells #[.int .i64 0, .int .i64 0, .string (⟨#[]⟩ : ByteArray), .slice none 0 0, .slice none 0 0] 25 (0, 0)) (by (with_reducible repeat (first | refine blk_drewN ?_ _ | refine blk_drew ?_ | refine blk_alloc ?_ _)); exact BK367.out) hb); have n2_ := Aside0.mk (KeepBut.trans (by repeat (first | (with_reducible first | exact HK.out | apply KeepBut.set_ | apply keep_drewN | apply keep_drew | apply keep_alloc | refine keep_far ?_ GW367.out _) | exact HK.out)) (KeepBut.of_below hb g none) (.inl rfl)); have n3_ := Aside0.mk (below_step (by repeat (first | (with_reducible first | exact HB.out | apply below_alloc | apply pw_below_drewN | apply below_drew1 | refine below_set ?_ (IsS54.ge HI0.out) | refine below_set ?_ GE367.out) | exact HB.out)) hb); have n4_ := Aside0.mk (hbox); have n5_ := Aside0.mk ((by rw [hg]; exact (keep_size (w := w) (g := g) (row := none) (by repeat (first | (with_reducible first | exact HK.out | apply KeepBut.set_ | apply keep_drewN | apply keep_drew | apply keep_alloc | refine keep_far ?_ GW367.out _) | exact HK.out))) : w.heap.size ≤ gb371)); have n6_ := Aside0.mk ((Nat.le_trans HW0.out (by rw [hg]; exact (keep_size (w := w) (g := g) (row := none) (by repeat (first | (with_reducible first | exact HK.out | apply KeepBut.set_ | apply keep_drewN | apply keep_drew | apply keep_alloc | refine keep_far ?_ GW367.out _) | exact HK.out))) : w.heap.size ≤ gb371) : w0.heap.size ≤ gb371)); have n7_ := Aside0.mk ((by rw [hg]; exact Nat.ne_of_lt (blk_lt (g := gb367) (o := .cells #[.int .i64 0, .int .i64 0, .string (⟨#[]⟩ : ByteArray), .slice none 0 0, .slice none 0 0] 25 (0, 0)) (by (with_reducible repeat (first | refine blk_drewN ?_ _ | refine blk_drew ?_ | refine blk_alloc ?_ _)); exact BK367.out)) : gb367 ≠ gb371)); have n8_ := Aside0.mk ((by rw [hg]; exact Nat.ne_of_gt (blk_lt (g := gb367) (o := .cells #[.int .i64 0, .int .i64 0, .string (⟨#[]⟩ : ByteArray), .slice none 0 0, .slice none 0 0] 25 (0, 0)) (by (with_reducible repeat (first | refine blk_drewN ?_ _ | refine blk_drew ?_ | refine blk_alloc ?_ _)); exact BK367.out)) : gb371 ≠ gb367)); have n9_ := Aside0.mk ((by rw [hg]; exact Nat.ne_of_lt (IsS54.lt (show IsS54 w0 _ g s0_0 t369 t370 from by repeat (first | (with_reducible first | exact HI0.out | apply IsS54.alloc | apply IsS54.drewN | apply IsS54.drew | apply IsS54.set_1 | apply IsS54.set_2 | refine IsS54.far ?_ NB0_367.out _) | exact HI0.out))) : g ≠ gb371)); have n10_ := Aside0.mk ((by rw [hg]; exact Nat.ne_of_gt (IsS54.lt (show IsS54 w0 _ g s0_0 t369 t370 from by repeat (first | (with_reducible first | exact HI0.out | apply IsS54.alloc | apply IsS54.drewN | apply IsS54.drew | apply IsS54.set_1 | apply IsS54.set_2 | refine IsS54.far ?_ NB0_367.out _) | exact HI0.out))) : gb371 ≠ g)); clear HI0; clear BK367; clear HK; clear HB; have HI0 := n0_; have BK367 := n1_; have HK := n2_; have HB := n3_; have BK371 := n4_; have GW371 := n5_; have GE371 := n6_; have NB367_371 := n7_; have NB371_367 := n8_; have NB0_371 := n9_; have NB371_0 := n10_; clear n0_ n1_ n2_ n3_ n4_ n5_ n6_ n7_ n8_ n9_ n10_; clear hb hbox hg; have hnb8 := NB371_367.out; have hnc8 := NB367_371.out; have hnb9 := NB371_0.out; have hnc9 := NB0_371.out; have hcz10_0 : w7.cell? ⟨gb371, 0, none⟩ = some (.int .i64 0) := (blk_cell BK371.out 0).trans rfl; have hcz10_1 : w7.cell? ⟨gb371, 1, none⟩ = some (.int .i64 0) := (blk_cell BK371.out 1).trans rfl; have hcz10_2 : w7.cell? ⟨gb371, 2, none⟩ = some (.string (⟨#[]⟩ : ByteArray)) := (blk_cell BK371.out 2).trans rfl; have hcz10_3 : w7.cell? ⟨gb371, 3, none⟩ = some (.slice none 0 0) := (blk_cell BK371.out 3).trans rfl; have hcz10_4 : w7.cell? ⟨gb371, 4, none⟩ = some (.slice none 0 0) := (blk_cell BK371.out 4).trans rfl; have hfz10_0 := blk_frozen BK371.out 0; have hfz10_1 := blk_frozen BK371.out 1; have hfz10_2 := blk_frozen BK371.out 2; have hfz10_3 := blk_frozen BK371.out 3; have hfz10_4 := blk_frozen BK371.out 4))
  (try simp only [u64_ones_, Act.put, List.setIfInBounds_toArray, List.set_cons_zero, List.set_cons_succ])
  go_cut [25] (fun v25 wc => ∃ (kq : Nat) (x25_3 : Bool), v25 = .bool x25_3 ∧ Aside0 (keys_reader_value.j0 kq a1 x25_3 s0_0 t369 t370 (wrap64 ((wrap64 (t368)) - 1)) 0 (⟨#[]⟩ : ByteArray) = some (r1, r2, r3, r4, r5, r6, r7)) ∧ Aside0 (kq ≤ k) ∧ Aside0 (wc.heap[gb367]? = some (.cells #[.int .i64 0, .int .i64 0, .string (⟨#[]⟩ : ByteArray), (.slice none 0 0), (.slice none 0 0)] 25 (0, 0))) ∧ Aside0 (wc.heap[gb371]? = some (.cells #[.int .i64 (wrap64 ((wrap64 (t368)) - 1)), .int .i64 0, .string (⟨#[]⟩ : ByteArray), (.slice none 0 0), (.slice none 0 0)] 25 (0, 0))) ∧ Aside0 (IsS54 w0 wc g s0_0 t369 t370) ∧ Aside0 (KeepBut w wc g none) ∧ Aside0 (Below w0.heap.size w0 wc))
  case first =>
    have H := HC4.out
    clear HC4
    by_cases c11 : a1 = 0
    · rw [if_pos c11] at H
      have c11b0 : (a1 == 0) = true := beq_iff_eq.mpr c11
      have c11b1 : (a1 != 0) = false := bne_eq_false_iff_eq.mpr c11
      clear c11
      (first | rw [c11b0] | (simp only [i64_w, i32_w]; rw [c11b0]) | skip)
      have H' := Aside0.mk H
      clear H
      go_wp2
      go_meet
      case rel => exact ⟨_, (true), (by first | rfl | (simp; done) | (simp [*]; done)), H', ⟨by first | omega | exact Nat.le_refl _⟩, ⟨by (with_reducible repeat (first | refine blk_drewN ?_ _ | refine blk_drew ?_ | refine blk_alloc ?_ _)); refine blk_far ?_ NB367_371.out _; (with_reducible repeat (first | refine blk_drewN ?_ _ | refine blk_drew ?_ | refine blk_alloc ?_ _)); refine blk_far ?_ NB367_371.out _; (with_reducible repeat (first | refine blk_drewN ?_ _ | refine blk_drew ?_ | refine blk_alloc ?_ _)); refine blk_far ?_ NB367_371.out _; (with_reducible repeat (first | refine blk_drewN ?_ _ | refine blk_drew ?_ | refine blk_alloc ?_ _)); refine blk_far ?_ NB367_371.out _; (with_reducible repeat (first | refine blk_drewN ?_ _ | refine blk_drew ?_ | refine blk_alloc ?_ _)); refine blk_far ?_ NB367_371.out _; (with_reducible repeat (first | refine blk_drewN ?_ _ | refine blk_drew ?_ | refine blk_alloc ?_ _)); exact BK367.out⟩, ⟨by (with_reducible repeat (first | refine blk_drewN ?_ _ | refine blk_drew ?_ | refine blk_alloc ?_ _)); refine blk_put (cs := #[.int .i64 (wrap64 ((wrap64 (t368)) - 1)), .int .i64 0, .string (⟨#[]⟩ : ByteArray), .slice none 0 0, .slice none 0 0]) ?_ 4 _ rfl; (with_reducible repeat (first | refine blk_drewN ?_ _ | refine blk_drew ?_ | refine blk_alloc ?_ _)); refine blk_put (cs := #[.int .i64 (wrap64 ((wrap64 (t368)) - 1)), .int .i64 0, .string (⟨#[]⟩ : ByteArray), .slice none 0 0, .slice none 0 0]) ?_ 3 _ rfl; (with_reducible repeat (first | refine blk_drewN ?_ _ | refine blk_drew ?_ | refine blk_alloc ?_ _)); refine blk_put (cs := #[.int .i64 (wrap64 ((wrap64 (t368)) - 1)), .int .i64 0, .string (⟨#[]⟩ : ByteArray), .slice none 0 0, .slice none 0 0]) ?_ 2 _ rfl; (with_reducible repeat (first | refine blk_drewN ?_ _ | refine blk_drew ?_ | refine blk_alloc ?_ _)); refine blk_put (cs := #[.int .i64 (wrap64 ((wrap64 (t368)) - 1)), .int .i64 0, .string (⟨#[]⟩ : ByteArray), .slice none 0 0, .slice none 0 0]) ?_ 1 _ rfl; (with_reducible repeat (first | refine blk_drewN ?_ _ | refine blk_drew ?_ | refine blk_alloc ?_ _)); refine blk_put (cs := #[.int .i64 0, .int .i64 0, .string (⟨#[]⟩ : ByteArray), .slice none 0 0, .slice none 0 0]) ?_ 0 _ rfl; (with_reducible repeat (first | refine blk_drewN ?_ _ | refine blk_drew ?_ | refine blk_alloc ?_ _)); exact BK371.out⟩, ⟨by repeat (first | (with_reducible first | exact HI0.out | apply IsS54.alloc | apply IsS54.drewN | apply IsS54.drew | apply IsS54.set_1 | apply IsS54.set_2 | refine IsS54.far ?_ NB0_367.out _ | refine IsS54.far ?_ NB0_371.out _) | exact HI0.out)⟩, ⟨by repeat (first | (with_reducible first | exact HK.out | apply KeepBut.set_ | apply keep_drewN | apply keep_drew | apply keep_alloc | refine keep_far ?_ GW367.out _ | refine keep_far ?_ GW371.out _) | exact HK.out)⟩, ⟨by repeat (first | (with_reducible first | exact HB.out | apply below_alloc | apply pw_below_drewN | apply below_drew1 | refine below_set ?_ (IsS54.ge HI0.out) | refine below_set ?_ GE367.out | refine below_set ?_ GE371.out) | exact HB.out)⟩⟩
    · rw [if_neg c11] at H
      have c11b0 : (a1 == 0) = false := beq_eq_false_iff_ne.mpr c11
      have c11b1 : (a1 != 0) = true := bne_iff_ne.mpr c11
      (first | rw [c11b0] | (simp only [i64_w, i32_w]; rw [c11b0]) | skip)
      by_cases c12 : (wrap64 ((wrap64 (t368)) - 1)) < 0
      · rw [if_pos c12] at H
        have c12b0 : decide ((wrap64 ((wrap64 (t368)) - 1)) < 0) = true := decide_eq_true c12
        clear c12
        have H' := Aside0.mk H
        clear H
        have hnb13 := NB371_367.out
        have hnc13 := NB367_371.out
        have hnb14 := NB371_0.out
        have hnc14 := NB0_371.out
        have hcz15_0 : w7.cell? ⟨gb371, 0, none⟩ = some (.int .i64 0) := (blk_cell BK371.out 0).trans rfl
        have hcz15_1 : w7.cell? ⟨gb371, 1, none⟩ = some (.int .i64 0) := (blk_cell BK371.out 1).trans rfl
        have hcz15_2 : w7.cell? ⟨gb371, 2, none⟩ = some (.string (⟨#[]⟩ : ByteArray)) := (blk_cell BK371.out 2).trans rfl
        have hcz15_3 : w7.cell? ⟨gb371, 3, none⟩ = some (.slice none 0 0) := (blk_cell BK371.out 3).trans rfl
        have hcz15_4 : w7.cell? ⟨gb371, 4, none⟩ = some (.slice none 0 0) := (blk_cell BK371.out 4).trans rfl
        have hfz15_0 := blk_frozen BK371.out 0
        have hfz15_1 := blk_frozen BK371.out 1
        have hfz15_2 := blk_frozen BK371.out 2
        have hfz15_3 := blk_frozen BK371.out 3
        have hfz15_4 := blk_frozen BK371.out 4
        go_wp2
        go_meet
        case rel => exact ⟨_, (true), (by first | rfl | (simp; done) | (simp [*]; done)), H', ⟨by first | omega | exact Nat.le_refl _⟩, ⟨by (with_reducible repeat (first | refine blk_drewN ?_ _ | refine blk_drew ?_ | refine blk_alloc ?_ _)); refine blk_far ?_ NB367_371.out _; (with_reducible repeat (first | refine blk_drewN ?_ _ | refine blk_drew ?_ | refine blk_alloc ?_ _)); refine blk_far ?_ NB367_371.out _; (with_reducible repeat (first | refine blk_drewN ?_ _ | refine blk_drew ?_ | refine blk_alloc ?_ _)); refine blk_far ?_ NB367_371.out _; (with_reducible repeat (first | refine blk_drewN ?_ _ | refine blk_drew ?_ | refine blk_alloc ?_ _)); refine blk_far ?_ NB367_371.out _; (with_reducible repeat (first | refine blk_drewN ?_ _ | refine blk_drew ?_ | refine blk_alloc ?_ _)); refine blk_far ?_ NB367_371.out _; (with_reducible repeat (first | refine blk_drewN ?_ _ | refine blk_drew ?_ | refine blk_alloc ?_ _)); exact BK367.out⟩, ⟨by (with_reducible repeat (first | refine blk_drewN ?_ _ | refine blk_drew ?_ | refine blk_alloc ?_ _)); refine blk_put (cs := #[.int .i64 (wrap64 ((wrap64 (t368)) - 1)), .int .i64 0, .string (⟨#[]⟩ : ByteArray), .slice none 0 0, .slice none 0 0]) ?_ 4 _ rfl; (with_reducible repeat (first | refine blk_drewN ?_ _ | refine blk_drew ?_ | refine blk_alloc ?_ _)); refine blk_put (cs := #[.int .i64 (wrap64 ((wrap64 (t368)) - 1)), .int .i64 0, .string (⟨#[]⟩ : ByteArray), .slice none 0 0, .slice none 0 0]) ?_ 3 _ rfl; (with_reducible repeat (first | refine blk_drewN ?_ _ | refine blk_drew ?_ | refine blk_alloc ?_ _)); refine blk_put (cs := #[.int .i64 (wrap64 ((wrap64 (t368)) - 1)), .int .i64 0, .string (⟨#[]⟩ : ByteArray), .slice none 0 0, .slice none 0 0]) ?_ 2 _ rfl; (with_reducible repeat (first | refine blk_drewN ?_ _ | refine blk_drew ?_ | refine blk_alloc ?_ _)); refine blk_put (cs := #[.int .i64 (wrap64 ((wrap64 (t368)) - 1)), .int .i64 0, .string (⟨#[]⟩ : ByteArray), .slice none 0 0, .slice none 0 0]) ?_ 1 _ rfl; (with_reducible repeat (first | refine blk_drewN ?_ _ | refine blk_drew ?_ | refine blk_alloc ?_ _)); refine blk_put (cs := #[.int .i64 0, .int .i64 0, .string (⟨#[]⟩ : ByteArray), .slice none 0 0, .slice none 0 0]) ?_ 0 _ rfl; (with_reducible repeat (first | refine blk_drewN ?_ _ | refine blk_drew ?_ | refine blk_alloc ?_ _)); exact BK371.out⟩, ⟨by repeat (first | (with_reducible first | exact HI0.out | apply IsS54.alloc | apply IsS54.drewN | apply IsS54.drew | apply IsS54.set_1 | apply IsS54.set_2 | refine IsS54.far ?_ NB0_367.out _ | refine IsS54.far ?_ NB0_371.out _) | exact HI0.out)⟩, ⟨by repeat (first | (with_reducible first | exact HK.out | apply KeepBut.set_ | apply keep_drewN | apply keep_drew | apply keep_alloc | refine keep_far ?_ GW367.out _ | refine keep_far ?_ GW371.out _) | exact HK.out)⟩, ⟨by repeat (first | (with_reducible first | exact HB.out | apply below_alloc | apply pw_below_drewN | apply below_drew1 | refine below_set ?_ (IsS54.ge HI0.out) | refine below_set ?_ GE367.out | refine below_set ?_ GE371.out) | exact HB.out)⟩⟩
      · rw [if_neg c12] at H
        have c12b0 : decide ((wrap64 ((wrap64 (t368)) - 1)) < 0) = false := decide_eq_false c12
        clear c12
        have H' := Aside0.mk H
        clear H
        have hnb16 := NB371_367.out
        have hnc16 := NB367_371.out
        have hnb17 := NB371_0.out
        have hnc17 := NB0_371.out
        have hcz18_0 : w7.cell? ⟨gb371, 0, none⟩ = some (.int .i64 0) := (blk_cell BK371.out 0).trans rfl
        have hcz18_1 : w7.cell? ⟨gb371, 1, none⟩ = some (.int .i64 0) := (blk_cell BK371.out 1).trans rfl
        have hcz18_2 : w7.cell? ⟨gb371, 2, none⟩ = some (.string (⟨#[]⟩ : ByteArray)) := (blk_cell BK371.out 2).trans rfl
        have hcz18_3 : w7.cell? ⟨gb371, 3, none⟩ = some (.slice none 0 0) := (blk_cell BK371.out 3).trans rfl
        have hcz18_4 : w7.cell? ⟨gb371, 4, none⟩ = some (.slice none 0 0) := (blk_cell BK371.out 4).trans rfl
        have hfz18_0 := blk_frozen BK371.out 0
        have hfz18_1 := blk_frozen BK371.out 1
        have hfz18_2 := blk_frozen BK371.out 2
        have hfz18_3 := blk_frozen BK371.out 3
        have hfz18_4 := blk_frozen BK371.out 4
        go_wp2
        go_meet
        case rel => exact ⟨_, (decide ((wrap64 ((wrap64 (t368)) - 1)) > 6)), (by first | rfl | (simp; done) | (simp [*]; done)), H', ⟨by first | omega | exact Nat.le_refl _⟩, ⟨by (with_reducible repeat (first | refine blk_drewN ?_ _ | refine blk_drew ?_ | refine blk_alloc ?_ _)); refine blk_far ?_ NB367_371.out _; (with_reducible repeat (first | refine blk_drewN ?_ _ | refine blk_drew ?_ | refine blk_alloc ?_ _)); refine blk_far ?_ NB367_371.out _; (with_reducible repeat (first | refine blk_drewN ?_ _ | refine blk_drew ?_ | refine blk_alloc ?_ _)); refine blk_far ?_ NB367_371.out _; (with_reducible repeat (first | refine blk_drewN ?_ _ | refine blk_drew ?_ | refine blk_alloc ?_ _)); refine blk_far ?_ NB367_371.out _; (with_reducible repeat (first | refine blk_drewN ?_ _ | refine blk_drew ?_ | refine blk_alloc ?_ _)); refine blk_far ?_ NB367_371.out _; (with_reducible repeat (first | refine blk_drewN ?_ _ | refine blk_drew ?_ | refine blk_alloc ?_ _)); exact BK367.out⟩, ⟨by (with_reducible repeat (first | refine blk_drewN ?_ _ | refine blk_drew ?_ | refine blk_alloc ?_ _)); refine blk_put (cs := #[.int .i64 (wrap64 ((wrap64 (t368)) - 1)), .int .i64 0, .string (⟨#[]⟩ : ByteArray), .slice none 0 0, .slice none 0 0]) ?_ 4 _ rfl; (with_reducible repeat (first | refine blk_drewN ?_ _ | refine blk_drew ?_ | refine blk_alloc ?_ _)); refine blk_put (cs := #[.int .i64 (wrap64 ((wrap64 (t368)) - 1)), .int .i64 0, .string (⟨#[]⟩ : ByteArray), .slice none 0 0, .slice none 0 0]) ?_ 3 _ rfl; (with_reducible repeat (first | refine blk_drewN ?_ _ | refine blk_drew ?_ | refine blk_alloc ?_ _)); refine blk_put (cs := #[.int .i64 (wrap64 ((wrap64 (t368)) - 1)), .int .i64 0, .string (⟨#[]⟩ : ByteArray), .slice none 0 0, .slice none 0 0]) ?_ 2 _ rfl; (with_reducible repeat (first | refine blk_drewN ?_ _ | refine blk_drew ?_ | refine blk_alloc ?_ _)); refine blk_put (cs := #[.int .i64 (wrap64 ((wrap64 (t368)) - 1)), .int .i64 0, .string (⟨#[]⟩ : ByteArray), .slice none 0 0, .slice none 0 0]) ?_ 1 _ rfl; (with_reducible repeat (first | refine blk_drewN ?_ _ | refine blk_drew ?_ | refine blk_alloc ?_ _)); refine blk_put (cs := #[.int .i64 0, .int .i64 0, .string (⟨#[]⟩ : ByteArray), .slice none 0 0, .slice none 0 0]) ?_ 0 _ rfl; (with_reducible repeat (first | refine blk_drewN ?_ _ | refine blk_drew ?_ | refine blk_alloc ?_ _)); exact BK371.out⟩, ⟨by repeat (first | (with_reducible first | exact HI0.out | apply IsS54.alloc | apply IsS54.drewN | apply IsS54.drew | apply IsS54.set_1 | apply IsS54.set_2 | refine IsS54.far ?_ NB0_367.out _ | refine IsS54.far ?_ NB0_371.out _) | exact HI0.out)⟩, ⟨by repeat (first | (with_reducible first | exact HK.out | apply KeepBut.set_ | apply keep_drewN | apply keep_drew | apply keep_alloc | refine keep_far ?_ GW367.out _ | refine keep_far ?_ GW371.out _) | exact HK.out)⟩, ⟨by repeat (first | (with_reducible first | exact HB.out | apply below_alloc | apply pw_below_drewN | apply below_drew1 | refine below_set ?_ (IsS54.ge HI0.out) | refine below_set ?_ GE367.out | refine below_set ?_ GE371.out) | exact HB.out)⟩⟩
  case rest =>
    clear HC4
    try clear c1
    try clear p2
    try clear c4
    try clear c5
    try clear p6
    try clear c8
    try clear c9
    try clear c11
    try clear c11b0
    try clear c11b1
    try clear c12
    try clear c12b0
    try clear c13
    try clear c14
    try clear c16
    try clear c17
    try clear hcz10_0
    try clear hcz10_1
    try clear hcz10_2
    try clear hcz10_3
    try clear hcz10_4
    try clear hcz15_0
    try clear hcz15_1
    try clear hcz15_2
    try clear hcz15_3
    try clear hcz15_4
    try clear hcz18_0
    try clear hcz18_1
    try clear hcz18_2
    try clear hcz18_3
    try clear hcz18_4
    try clear hfz10_0
    try clear hfz10_1
    try clear hfz10_2
    try clear hfz10_3
    try clear hfz10_4
    try clear hfz15_0
    try clear hfz15_1
    try clear hfz15_2
    try clear hfz15_3
    try clear hfz15_4
    try clear hfz18_0
    try clear hfz18_1
    try clear hfz18_2
    try clear hfz18_3
    try clear hfz18_4
    obtain ⟨kq, x25_3, rfl, HA, HJ3, BK367, BK371, HI0, HK, HB⟩ := hcut
    cases kq with
    | zero => exact absurd HA.out (by simp [keys_reader_value.j0])
    | succ kj3 =>
      have H := HA.out
      clear HA
      simp only [keys_reader_value.j0] at H
      have HC19 := Aside0.mk H
      clear H
      go_upto_if 25 with (fail)
      go_cut [] (fun wc => ∃ (kq : Nat) (x1002_18 : Bool), Aside0 (keys_reader_value.j1 kq a1 s0_0 t369 x1002_18 (wrap64 ((wrap64 (t368)) - 1)) 0 (⟨#[]⟩ : ByteArray) = some (r1, r2, r3, r4, r5, r6, r7)) ∧ Aside0 (kq ≤ kj3) ∧ Aside0 (wc.heap[gb367]? = some (.cells #[.int .i64 0, .int .i64 0, .string (⟨#[]⟩ : ByteArray), (.slice none 0 0), (.slice none 0 0)] 25 (0, 0))) ∧ Aside0 (wc.heap[gb371]? = some (.cells #[.int .i64 (wrap64 ((wrap64 (t368)) - 1)), .int .i64 0, .string (⟨#[]⟩ : ByteArray), (.slice none 0 0), (.slice none 0 0)] 25 (0, 0))) ∧ Aside0 (IsS54 w0 wc g s0_0 t369 x1002_18) ∧ Aside0 (KeepBut w wc g none) ∧ Aside0 (Below w0.heap.size w0 wc))
      case first =>
        have H := HC19.out
        clear HC19
        by_cases c20 : x25_3 = true
        · subst c20
          have H1 : (keys_reader_value.j1 kj3 a1 s0_0 t369 true (wrap64 ((wrap64 (t368)) - 1)) 0 (⟨#[]⟩ : ByteArray)) = some (r1, r2, r3, r4, r5, r6, r7) := by rw [if_pos rfl] at H; exact H
          clear H
          have H := H1
          clear H1
          have H' := Aside0.mk H
          clear H
          obtain ⟨ASz21_0, cSz21_0, HGz21, hgz21, HSz21_0⟩ := HI0.out
          have hcz21_0 := cellS54_0 HGz21
          have hcz21_1 := cellS54_1 HGz21
          have hcz21_2 := cellS54_2 HGz21
          have hfz21_1 := blk_frozen HGz21 1
          have hfz21_2 := blk_frozen HGz21 2
          clear HGz21 hgz21
          go_wp2
          go_meet
          case rel => exact ⟨_, (true), H', ⟨by have := HJ3.out; first | omega | exact Nat.le_refl _⟩, ⟨by (with_reducible repeat (first | refine blk_drewN ?_ _ | refine blk_drew ?_ | refine blk_alloc ?_ _)); refine blk_far ?_ NB367_0.out _; (with_reducible repeat (first | refine blk_drewN ?_ _ | refine blk_drew ?_ | refine blk_alloc ?_ _)); exact BK367.out⟩, ⟨by (with_reducible repeat (first | refine blk_drewN ?_ _ | refine blk_drew ?_ | refine blk_alloc ?_ _)); refine blk_far ?_ NB371_0.out _; (with_reducible repeat (first | refine blk_drewN ?_ _ | refine blk_drew ?_ | refine blk_alloc ?_ _)); exact BK371.out⟩, ⟨by repeat (first | (with_reducible first | exact HI0.out | apply IsS54.alloc | apply IsS54.drewN | apply IsS54.drew | apply IsS54.set_1 | apply IsS54.set_2 | refine IsS54.far ?_ NB0_367.out _ | refine IsS54.far ?_ NB0_371.out _) | exact HI0.out)⟩, ⟨by repeat (first | (with_reducible first | exact HK.out | apply KeepBut.set_ | apply keep_drewN | apply keep_drew | apply keep_alloc | refine keep_far ?_ GW367.out _ | refine keep_far ?_ GW371.out _) | exact HK.out)⟩, ⟨by repeat (first | (with_reducible first | exact HB.out | apply below_alloc | apply pw_below_drewN | apply below_drew1 | refine below_set ?_ (IsS54.ge HI0.out) | refine below_set ?_ GE367.out | refine below_set ?_ GE371.out) | exact HB.out)⟩⟩
        · replace c20 := Bool.eq_false_iff.mpr c20
          subst c20
          have H1 : (keys_reader_value.j1 kj3 a1 s0_0 t369 t370 (wrap64 ((wrap64 (t368)) - 1)) 0 (⟨#[]⟩ : ByteArray)) = some (r1, r2, r3, r4, r5, r6, r7) := by rw [if_neg (show ¬ (false = true) by decide)] at H; exact H
          clear H
          have H := H1
          clear H1
          have H' := Aside0.mk H
          clear H
          go_wp2
          go_meet
          case rel => exact ⟨_, (t370), H', ⟨by have := HJ3.out; first | omega | exact Nat.le_refl _⟩, ⟨by (with_reducible repeat (first | refine blk_drewN ?_ _ | refine blk_drew ?_ | refine blk_alloc ?_ _)); exact BK367.out⟩, ⟨by (with_reducible repeat (first | refine blk_drewN ?_ _ | refine blk_drew ?_ | refine blk_alloc ?_ _)); exact BK371.out⟩, ⟨by repeat (first | (with_reducible first | exact HI0.out | apply IsS54.alloc | apply IsS54.drewN | apply IsS54.drew | apply IsS54.set_1 | apply IsS54.set_2 | refine IsS54.far ?_ NB0_367.out _ | refine IsS54.far ?_ NB0_371.out _) | exact HI0.out)⟩, ⟨by repeat (first | (with_reducible first | exact HK.out | apply KeepBut.set_ | apply keep_drewN | apply keep_drew | apply keep_alloc | refine keep_far ?_ GW367.out _ | refine keep_far ?_ GW371.out _) | exact HK.out)⟩, ⟨by repeat (first | (with_reducible first | exact HB.out | apply below_alloc | apply pw_below_drewN | apply below_drew1 | refine below_set ?_ (IsS54.ge HI0.out) | refine below_set ?_ GE367.out | refine below_set ?_ GE371.out) | exact HB.out)⟩⟩
      case rest =>
        clear HC19
        try clear c1
        try clear c2
        try clear p2
        try clear c4
        try clear c5
        try clear p6
        try clear c8
        try clear c9
        try clear c11
        try clear c11b0
        try clear c11b1
        try clear c12
        try clear c12b0
        try clear c13
        try clear c14
        try clear c16
        try clear c17
        try clear c20
        try clear hcz10_0
        try clear hcz10_1
        try clear hcz10_2
        try clear hcz10_3
        try clear hcz10_4
        try clear hcz15_0
        try clear hcz15_1
        try clear hcz15_2
        try clear hcz15_3
        try clear hcz15_4
        try clear hcz18_0
        try clear hcz18_1
        try clear hcz18_2
        try clear hcz18_3
        try clear hcz18_4
        try clear hcz21_0
        try clear hcz21_1
        try clear hcz21_2
        try clear hfz10_0
        try clear hfz10_1
        try clear hfz10_2
        try clear hfz10_3
        try clear hfz10_4
        try clear hfz15_0
        try clear hfz15_1
        try clear hfz15_2
        try clear hfz15_3
        try clear hfz15_4
        try clear hfz18_0
        try clear hfz18_1
        try clear hfz18_2
        try clear hfz18_3
        try clear hfz18_4
        try clear hfz21_1
        try clear hfz21_2
        try clear p2
        try clear p6
        obtain ⟨kq, x1002_18, HA, HJ18, BK367, BK371, HI0, HK, HB⟩ := hcut
        cases kq with
        | zero => exact absurd HA.out (by simp [keys_reader_value.j1])
        | succ kj18 =>
          have H := HA.out
          clear HA
          simp only [keys_reader_value.j1] at H
          by_cases c22 : (wrap64 ((wrap64 (t368)) - 1)) = 3
          · rw [if_pos c22] at H
            have c22b0 : ((wrap64 ((wrap64 (t368)) - 1)) == 3) = true := beq_iff_eq.mpr c22
            have c22b1 : ((wrap64 ((wrap64 (t368)) - 1)) != 3) = false := bne_eq_false_iff_eq.mpr c22
            clear c22
            replace H := Option.bind_eq_some_iff.mp H
            obtain ⟨⟨t372, t373, t374⟩, A230, H⟩ := H
            replace H : (some ((wrap64 ((wrap64 (t368)) - 1)), wrap64 (Go.bits .xor .u64 t372 9223372036854775808), (⟨#[]⟩ : ByteArray), ([] : List ByteArray), ([] : List (S25)), t373, t374)) = some (r1, r2, r3, r4, r5, r6, r7) := H
            have A23 := Aside0.mk A230
            clear A230
            simp only [Option.some.injEq, Prod.mk.injEq] at H
            obtain ⟨rfl, rfl, rfl, rfl, rfl, rfl, rfl⟩ := H
            have hnb24 := NB371_367.out
            have hnc24 := NB367_371.out
            have hnb25 := NB371_0.out
            have hnc25 := NB0_371.out
            have hcz26_0 : wc.cell? ⟨gb371, 0, none⟩ = some (.int .i64 (wrap64 ((wrap64 (t368)) - 1))) := (blk_cell BK371.out 0).trans rfl
            have hcz26_1 : wc.cell? ⟨gb371, 1, none⟩ = some (.int .i64 0) := (blk_cell BK371.out 1).trans rfl
            have hcz26_2 : wc.cell? ⟨gb371, 2, none⟩ = some (.string (⟨#[]⟩ : ByteArray)) := (blk_cell BK371.out 2).trans rfl
            have hcz26_3 : wc.cell? ⟨gb371, 3, none⟩ = some (.slice none 0 0) := (blk_cell BK371.out 3).trans rfl
            have hcz26_4 : wc.cell? ⟨gb371, 4, none⟩ = some (.slice none 0 0) := (blk_cell BK371.out 4).trans rfl
            have hfz26_0 := blk_frozen BK371.out 0
            have hfz26_1 := blk_frozen BK371.out 1
            have hfz26_2 := blk_frozen BK371.out 2
            have hfz26_3 := blk_frozen BK371.out 3
            have hfz26_4 := blk_frozen BK371.out 4
            obtain ⟨⟨bs, at8, no8⟩, A8, A9⟩ := Option.bind_eq_some_iff.mp (show (keys_eight.n 8 [] s0_0 t369 x1002_18).bind (fun t => (keys_get64.f kj18 t.1).bind fun x => some (x, t.2.1, t.2.2)) = some (t372, t373, t374) from A23.out)
            obtain ⟨x8, A10, A11⟩ := Option.bind_eq_some_iff.mp A9
            simp only [Option.some.injEq, Prod.mk.injEq] at A11
            obtain ⟨hx_, ha_, hn_⟩ := A11
            have hx_ := hx_.symm
            have ha_ := ha_.symm
            have hn_ := hn_.symm
            subst hx_
            subst ha_
            subst hn_
            have HA8 := Aside0.mk A8
            have HA10 := Aside0.mk A10
            clear A8 A9 A10 A23
            have hu81 := Tryd.underlying81
            go_wp2_with (first | ((with_reducible refine gate_dst (N := 6) rfl ?_); refine box_event ?hg (N := 6) ?hd (cs := keys_eight.arr []) (t := 81) ?hr ?_; (case hd => rfl); (case hg => rfl); (case hr => first | (go_simp; done) | (go_simp; rfl)); intro g6 hg6 w6 hbox hb; have n0_ := Aside0.mk (blk_below BK367.out hb); have n1_ := Aside0.mk (blk_below BK371.out hb); have n2_ := Aside0.mk (IsS54.below HI0.out hb); have n3_ := Aside0.mk (KeepBut.trans HK.out (KeepBut.of_grown (grown_of_below hb none) g) (.inl rfl)); have n4_ := Aside0.mk (below_then HB.out HB.out.size hb); have n5_ := Aside0.mk hbox; have NB6_0 : Aside0 (g6 ≠ g) := ⟨by have := IsS54.lt HI0.out; omega⟩; have NB6_367 : Aside0 (gb367 ≠ g6) := ⟨by have := blk_lt BK367.out; omega⟩; have NB6_371 : Aside0 (gb371 ≠ g6) := ⟨by have := blk_lt BK371.out; omega⟩; have GE6 : Aside0 (w0.heap.size ≤ g6) := ⟨by have := HB.out.size; omega⟩; have GW6 : Aside0 (w.heap.size ≤ g6) := ⟨by have := HK.out.1; omega⟩; clear BK367 BK371 HI0 HK HB; have BK367 := n0_; have BK371 := n1_; have HI0 := n2_; have HK := n3_; have HB := n4_; have BK6 := n5_; clear n0_ n1_ n2_ n3_ n4_ n5_ hbox hb hg6))
            go_loopg [33] 9 (fun kq v33 w' => ∃ (n : Nat) (acc : List Int) (at_ : Int) (no_ : Bool), v33 = .int .i64 (n : Int) ∧ Aside0 (n + kq = 9 ∧ n ≤ 8 ∧ acc.length = n) ∧ Aside0 (keys_eight.n (8 - n) acc s0_0 at_ no_ = some (bs, t373, t374)) ∧ Aside0 (w'.heap[g6]? = some (.cells (keys_eight.arr acc) 81 (0, 0))) ∧ Aside0 (w'.heap[gb367]? = some (.cells #[.int .i64 0, .int .i64 0, .string (⟨#[]⟩ : ByteArray), .slice none 0 0, .slice none 0 0] 25 (0, 0))) ∧ Aside0 (w'.heap[gb371]? = some (.cells #[.int .i64 (wrap64 ((wrap64 (t368)) - 1)), .int .i64 0, .string (⟨#[]⟩ : ByteArray), .slice none 0 0, .slice none 0 0] 25 (0, 0))) ∧ Aside0 (IsS54 w0 w' g s0_0 at_ no_) ∧ Aside0 (KeepBut w w' g none) ∧ Aside0 (Below w0.heap.size w0 w'))
            case atStart => exact ⟨0, [], _, _, rfl, ⟨by simp⟩, HA8, BK6, BK367, BK371, HI0, HK, HB⟩
            case round =>
              clear BK6 BK367 BK371 HI0 HK HB HA8
              obtain ⟨n, acc, at_, no_, rfl, HN, HA, BK6, BK367, BK371, HI0, HK, HB⟩ := hrel
              have hn := HN.out
              by_cases cn : n < 8
              · obtain ⟨k1, rfl⟩ : ∃ k1, gk = k1 + 1 := ⟨gk - 1, by omega⟩
                obtain ⟨m, hm⟩ : ∃ m, 8 - n = m + 1 := ⟨8 - n - 1, by omega⟩
                have hA := HA.out
                rw [hm] at hA
                obtain ⟨⟨b, at2, no2⟩, hb1, hb2⟩ := Option.bind_eq_some_iff.mp hA
                have hm2 : 8 - (n + 1) = m := by omega
                rw [← hm2] at hb2
                have HB1 := Aside0.mk hb1
                have HB2 := Aside0.mk hb2
                have hln : acc.length = n := hn.2.2
                have HL8 := Aside0.mk (show acc.length < 8 by omega)
                have HLN := Aside0.mk hln
                have d0 : (0 : Int) ≤ (n : Int) := by omega
                have d1 : (n : Int) < 8 := by omega
                have e0 : decide ((0 : Int) ≤ (n : Int)) = true := decide_eq_true d0
                have e1 : decide ((n : Int) < 8) = true := decide_eq_true d1
                have e2 : decide (n < 8) = true := decide_eq_true cn
                clear hA hb1 hb2 hm hm2 hln hn HA
                go_wp2_with (first | ((with_reducible refine gate_callee (f := 57) rfl ?_); refine goesL_ (some 38) rfl rfl Tryd.func57 (by kernel_rfl) rfl #[.pointer (some ⟨g, 0, none⟩)] rfl (by (try simp only [List.map_toArray, List.map_cons, List.map_nil]); first | done | rfl) ?_; (with_reducible refine (keys_reader_next.calls g s0_0 at_ no_ b at2 no2 w0 _ ?side1 ?side2 HB1.out).mono ?_); (case side1 => exact HI0.out); (case side2 => exact HB.out); rintro e w7 ⟨rfl, hi, hb, hk⟩; refine ⟨_, rfl, ?_⟩; have n0_ := Aside0.mk (KeepBut.blk hk BK367.out NB367_0.out (by simp)); have n1_ := Aside0.mk (KeepBut.blk hk BK371.out NB371_0.out (by simp)); have n2_ := Aside0.mk (KeepBut.blk hk BK6.out NB6_0.out (by simp)); have n3_ := Aside0.mk (KeepBut.trans HK.out hk (.inl rfl)); have n4_ := Aside0.mk hb; have n5_ := Aside0.mk hi; clear BK367 BK371 BK6 HK HB HI0; have BK367 := n0_; have BK371 := n1_; have BK6 := n2_; have HK := n3_; have HB := n4_; have HI0 := n5_; clear n0_ n1_ n2_ n3_ n4_ n5_ hb hk hi; have hc6 : w7.cell? ⟨g6, n, none⟩ = some (.int .u8 0) := (by rw [← HLN.out]; exact (blk_cell BK6.out _).trans (keys_eight.get acc HL8.out)); have hf6 := blk_frozen BK6.out n))
                go_roundg k1
                case measure => omega
                case rel => exact ⟨n + 1, acc ++ [b], at2, no2, by go_num, ⟨by have := HN.out; have := HLN.out; simp; omega⟩, HB2, ⟨blk_put BK6.out n _ (by rw [← HLN.out]; exact keys_eight.put acc b HL8.out)⟩, ⟨blk_far BK367.out NB6_367.out _⟩, ⟨blk_far BK371.out NB6_371.out _⟩, ⟨IsS54.far HI0.out (fun h_ => NB6_0.out h_.symm) _⟩, ⟨keep_far HK.out GW6.out _⟩, ⟨below_set HB.out GE6.out⟩⟩
              · have hn8 : n = 8 := by omega
                subst hn8
                have hA := HA.out
                simp only [Nat.sub_self, keys_eight.n, Option.some.injEq, Prod.mk.injEq] at hA
                obtain ⟨h1_, h2_, h3_⟩ := hA
                have h2_ := h2_.symm
                have h3_ := h3_.symm
                subst h1_
                subst h2_
                subst h3_
                have hlen : acc.length = 8 := hn.2.2
                have HG : Calls Tryd.prog 58 #[.slice (some ⟨g6, 0, none⟩) 8 8] wr fun e w' => e = .returned (.int .u64 t372) ∧ Drawn0 wr w' := by
                  have := keys_get64.calls kj18 (some ⟨g6, 0, none⟩) 8 acc t372 wr (keys_eight.bytes wr g6 acc 81 hlen BK6.out) (by omega) HA10.out
                  rw [hlen] at this
                  exact this
                have HGA := Aside0.mk HG
                clear HG HA hn HN cn
                have hnb24 := NB371_367.out
                have hnc24 := NB367_371.out
                have hnb25 := NB371_0.out
                have hnc25 := NB0_371.out
                have hcz26_0 : wr.cell? ⟨gb371, 0, none⟩ = some (.int .i64 (wrap64 ((wrap64 (t368)) - 1))) := (blk_cell BK371.out 0).trans rfl
                have hcz26_1 : wr.cell? ⟨gb371, 1, none⟩ = some (.int .i64 0) := (blk_cell BK371.out 1).trans rfl
                have hcz26_2 : wr.cell? ⟨gb371, 2, none⟩ = some (.string (⟨#[]⟩ : ByteArray)) := (blk_cell BK371.out 2).trans rfl
                have hcz26_3 : wr.cell? ⟨gb371, 3, none⟩ = some (.slice none 0 0) := (blk_cell BK371.out 3).trans rfl
                have hcz26_4 : wr.cell? ⟨gb371, 4, none⟩ = some (.slice none 0 0) := (blk_cell BK371.out 4).trans rfl
                have hfz26_0 := blk_frozen BK371.out 0
                have hfz26_1 := blk_frozen BK371.out 1
                have hfz26_2 := blk_frozen BK371.out 2
                have hfz26_3 := blk_frozen BK371.out 3
                have hfz26_4 := blk_frozen BK371.out 4
                have hcz27_0 : wr.cell? ⟨gb367, 0, none⟩ = some (.int .i64 0) := (blk_cell BK367.out 0).trans rfl
                have hcz27_1 : wr.cell? ⟨gb367, 1, none⟩ = some (.int .i64 0) := (blk_cell BK367.out 1).trans rfl
                have hcz27_2 : wr.cell? ⟨gb367, 2, none⟩ = some (.string (⟨#[]⟩ : ByteArray)) := (blk_cell BK367.out 2).trans rfl
                have hcz27_3 : wr.cell? ⟨gb367, 3, none⟩ = some (.slice none 0 0) := (blk_cell BK367.out 3).trans rfl
                have hcz27_4 : wr.cell? ⟨gb367, 4, none⟩ = some (.slice none 0 0) := (blk_cell BK367.out 4).trans rfl
                have hfz27_0 := blk_frozen BK367.out 0
                have hfz27_1 := blk_frozen BK367.out 1
                have hfz27_2 := blk_frozen BK367.out 2
                have hfz27_3 := blk_frozen BK367.out 3
                have hfz27_4 := blk_frozen BK367.out 4
                go_wp2_with (first | ((with_reducible refine gate_callee (f := 58) rfl ?_); refine goesL_ (some 42) rfl rfl Tryd.func58 (by kernel_rfl) rfl #[.slice (some ⟨g6, 0, none⟩) 8 8] rfl (by (try simp only [List.map_toArray, List.map_cons, List.map_nil]); first | done | rfl) ?_; refine HGA.out.mono ?_; rintro e w27 ⟨rfl, ⟨nd, rfl⟩⟩; refine ⟨_, rfl, ?_⟩))
                refine bodyPost_ret (results_cell_row rfl _ _ gb367 25 #[.int .i64 (wrap64 ((wrap64 (t368)) - 1)), .int .i64 (wrap64 (Go.bits .xor .u64 t372 9223372036854775808)), .string (⟨#[]⟩ : ByteArray), .slice none 0 0, .slice none 0 0] (0, 0) _ rfl (by (with_reducible repeat (first | refine blk_drewN ?_ _ | refine blk_drew ?_ | refine blk_alloc ?_ _)); refine blk_put (cs := #[.int .i64 (wrap64 ((wrap64 (t368)) - 1)), .int .i64 (wrap64 (Go.bits .xor .u64 t372 9223372036854775808)), .string (⟨#[]⟩ : ByteArray), .slice none 0 0, .slice none 0 0]) ?_ 4 _ rfl; (with_reducible repeat (first | refine blk_drewN ?_ _ | refine blk_drew ?_ | refine blk_alloc ?_ _)); refine blk_put (cs := #[.int .i64 (wrap64 ((wrap64 (t368)) - 1)), .int .i64 (wrap64 (Go.bits .xor .u64 t372 9223372036854775808)), .string (⟨#[]⟩ : ByteArray), .slice none 0 0, .slice none 0 0]) ?_ 3 _ rfl; (with_reducible repeat (first | refine blk_drewN ?_ _ | refine blk_drew ?_ | refine blk_alloc ?_ _)); refine blk_put (cs := #[.int .i64 (wrap64 ((wrap64 (t368)) - 1)), .int .i64 (wrap64 (Go.bits .xor .u64 t372 9223372036854775808)), .string (⟨#[]⟩ : ByteArray), .slice none 0 0, .slice none 0 0]) ?_ 2 _ rfl; (with_reducible repeat (first | refine blk_drewN ?_ _ | refine blk_drew ?_ | refine blk_alloc ?_ _)); refine blk_put (cs := #[.int .i64 (wrap64 ((wrap64 (t368)) - 1)), .int .i64 0, .string (⟨#[]⟩ : ByteArray), .slice none 0 0, .slice none 0 0]) ?_ 1 _ rfl; (with_reducible repeat (first | refine blk_drewN ?_ _ | refine blk_drew ?_ | refine blk_alloc ?_ _)); refine blk_put (cs := #[.int .i64 0, .int .i64 0, .string (⟨#[]⟩ : ByteArray), .slice none 0 0, .slice none 0 0]) ?_ 0 _ rfl; (with_reducible repeat (first | refine blk_drewN ?_ _ | refine blk_drew ?_ | refine blk_alloc ?_ _)); refine blk_far ?_ NB367_371.out _; (with_reducible repeat (first | refine blk_drewN ?_ _ | refine blk_drew ?_ | refine blk_alloc ?_ _)); exact BK367.out) Tryd.underlying25 rfl (by kernel_rfl)) rfl ?_
                exact ⟨_, _, by first | rfl | (simp [errW_none, errW_some] <;> rfl) | (simp [*, errW_none, errW_some] <;> rfl), by first | exact Kd.R_nil _ _ _ _ _ | exact Kd.N_nil _ _ _ _ _ | exact Kd.V_nil _ _ _ _ _ | exact Kd.Q_nil _ _ _ _ _ | exact Kd.S_nil _ _ _ _ _, by first | exact Kd.R_nil _ _ _ _ _ | exact Kd.N_nil _ _ _ _ _ | exact Kd.V_nil _ _ _ _ _ | exact Kd.Q_nil _ _ _ _ _ | exact Kd.S_nil _ _ _ _ _, by repeat (first | (with_reducible first | exact HI0.out | apply IsS54.alloc | apply IsS54.drewN | apply IsS54.drew | apply IsS54.set_1 | apply IsS54.set_2 | refine IsS54.far ?_ NB0_367.out _ | refine IsS54.far ?_ NB0_371.out _) | exact HI0.out), by repeat (first | (with_reducible first | exact HB.out | apply below_alloc | apply pw_below_drewN | apply below_drew1 | refine below_set ?_ (IsS54.ge HI0.out) | refine below_set ?_ GE367.out | refine below_set ?_ GE371.out) | exact HB.out), by repeat (first | (with_reducible first | exact HK.out | apply KeepBut.set_ | apply keep_drewN | apply keep_drew | apply keep_alloc | refine keep_far ?_ GW367.out _ | refine keep_far ?_ GW371.out _) | exact HK.out)⟩
          · rw [if_neg c22] at H
            have c22b0 : ((wrap64 ((wrap64 (t368)) - 1)) == 3) = false := beq_eq_false_iff_ne.mpr c22
            have c22b1 : ((wrap64 ((wrap64 (t368)) - 1)) != 3) = true := bne_iff_ne.mpr c22
            by_cases c31 : (wrap64 ((wrap64 (t368)) - 1)) = 4
            · rw [if_pos c31] at H
              have c31b0 : ((wrap64 ((wrap64 (t368)) - 1)) == 4) = true := beq_iff_eq.mpr c31
              have c31b1 : ((wrap64 ((wrap64 (t368)) - 1)) != 4) = false := bne_eq_false_iff_eq.mpr c31
              clear c31
              replace H := Option.bind_eq_some_iff.mp H
              obtain ⟨⟨t375, t376, t377⟩, A320, H⟩ := H
              replace H : (some ((wrap64 ((wrap64 (t368)) - 1)), 0, t375, ([] : List ByteArray), ([] : List (S25)), t376, t377)) = some (r1, r2, r3, r4, r5, r6, r7) := H
              have A32 := Aside0.mk A320
              clear A320
              simp only [Option.some.injEq, Prod.mk.injEq] at H
              obtain ⟨rfl, rfl, rfl, rfl, rfl, rfl, rfl⟩ := H
              have hnb33 := NB371_367.out
              have hnc33 := NB367_371.out
              have hnb34 := NB371_0.out
              have hnc34 := NB0_371.out
              have hcz35_0 : wc.cell? ⟨gb371, 0, none⟩ = some (.int .i64 (wrap64 ((wrap64 (t368)) - 1))) := (blk_cell BK371.out 0).trans rfl
              have hcz35_1 : wc.cell? ⟨gb371, 1, none⟩ = some (.int .i64 0) := (blk_cell BK371.out 1).trans rfl
              have hcz35_2 : wc.cell? ⟨gb371, 2, none⟩ = some (.string (⟨#[]⟩ : ByteArray)) := (blk_cell BK371.out 2).trans rfl
              have hcz35_3 : wc.cell? ⟨gb371, 3, none⟩ = some (.slice none 0 0) := (blk_cell BK371.out 3).trans rfl
              have hcz35_4 : wc.cell? ⟨gb371, 4, none⟩ = some (.slice none 0 0) := (blk_cell BK371.out 4).trans rfl
              have hfz35_0 := blk_frozen BK371.out 0
              have hfz35_1 := blk_frozen BK371.out 1
              have hfz35_2 := blk_frozen BK371.out 2
              have hfz35_3 := blk_frozen BK371.out 3
              have hfz35_4 := blk_frozen BK371.out 4
              go_wp2_with (first | ((with_reducible refine gate_callee (f := 59) rfl ?_); refine goesL_ (some 49) rfl rfl Tryd.func59 (by kernel_rfl) rfl #[.pointer (some ⟨g, 0, none⟩)] rfl (by (try simp only [List.map_toArray, List.map_cons, List.map_nil]); first | done | rfl | (simp only [List.length_drop, List.length_take]; rfl)) ?_; (with_reducible refine (keys_reader_text.calls kj18 g s0_0 t369 x1002_18 t375 t376 t377 w0 _ ?side1 ?side2 A32.out).mono ?_); (case side1 => repeat (first | (with_reducible first | exact HI0.out | apply IsS54.alloc | apply IsS54.drewN | apply IsS54.drew | apply IsS54.set_1 | apply IsS54.set_2 | refine IsS54.far ?_ NB0_367.out _ | refine IsS54.far ?_ NB0_371.out _) | exact HI0.out)); (case side2 => repeat (first | (with_reducible first | exact HB.out | apply below_alloc | apply pw_below_drewN | apply below_drew1 | refine below_set ?_ (IsS54.ge HI0.out) | refine below_set ?_ GE367.out | refine below_set ?_ GE371.out) | exact HB.out)); rintro e w36 ⟨rfl, hi, hb, hk⟩; refine ⟨_, rfl, ?_⟩; have n0_ := Aside0.mk (KeepBut.blk hk (g' := gb367) (o := .cells #[.int .i64 0, .int .i64 0, .string (⟨#[]⟩ : ByteArray), .slice none 0 0, .slice none 0 0] 25 (0, 0)) (by (with_reducible repeat (first | refine blk_drewN ?_ _ | refine blk_drew ?_ | refine blk_alloc ?_ _)); exact BK367.out) NB367_0.out (by simp)); have n1_ := Aside0.mk (KeepBut.blk hk (g' := gb371) (o := .cells #[.int .i64 (wrap64 ((wrap64 (t368)) - 1)), .int .i64 0, .string (⟨#[]⟩ : ByteArray), .slice none 0 0, .slice none 0 0] 25 (0, 0)) (by (with_reducible repeat (first | refine blk_drewN ?_ _ | refine blk_drew ?_ | refine blk_alloc ?_ _)); exact BK371.out) NB371_0.out (by simp)); have n2_ := Aside0.mk (KeepBut.trans (by repeat (first | (with_reducible first | exact HK.out | apply KeepBut.set_ | apply keep_drewN | apply keep_drew | apply keep_alloc | refine keep_far ?_ GW367.out _ | refine keep_far ?_ GW371.out _) | exact HK.out)) hk (.inl rfl)); have n3_ := Aside0.mk (hb); have n4_ := Aside0.mk (hi); clear BK367; clear BK371; clear HK; clear HB; clear HI0; have BK367 := n0_; have BK371 := n1_; have HK := n2_; have HB := n3_; have HI0 := n4_; clear n0_ n1_ n2_ n3_ n4_; (try clear hb); (try clear hb2); (try clear hk); (try clear hi); have hcz37_0 : w36.cell? ⟨gb371, 0, none⟩ = some (.int .i64 (wrap64 ((wrap64 (t368)) - 1))) := (blk_cell BK371.out 0).trans rfl; have hcz37_1 : w36.cell? ⟨gb371, 1, none⟩ = some (.int .i64 0) := (blk_cell BK371.out 1).trans rfl; have hcz37_2 : w36.cell? ⟨gb371, 2, none⟩ = some (.string (⟨#[]⟩ : ByteArray)) := (blk_cell BK371.out 2).trans rfl; have hcz37_3 : w36.cell? ⟨gb371, 3, none⟩ = some (.slice none 0 0) := (blk_cell BK371.out 3).trans rfl; have hcz37_4 : w36.cell? ⟨gb371, 4, none⟩ = some (.slice none 0 0) := (blk_cell BK371.out 4).trans rfl; have hfz37_0 := blk_frozen BK371.out 0; have hfz37_1 := blk_frozen BK371.out 1; have hfz37_2 := blk_frozen BK371.out 2; have hfz37_3 := blk_frozen BK371.out 3; have hfz37_4 := blk_frozen BK371.out 4; have hnb38 := NB367_0.out; have hnc38 := NB0_367.out; have hcz39_0 : w36.cell? ⟨gb367, 0, none⟩ = some (.int .i64 0) := (blk_cell BK367.out 0).trans rfl; have hcz39_1 : w36.cell? ⟨gb367, 1, none⟩ = some (.int .i64 0) := (blk_cell BK367.out 1).trans rfl; have hcz39_2 : w36.cell? ⟨gb367, 2, none⟩ = some (.string (⟨#[]⟩ : ByteArray)) := (blk_cell BK367.out 2).trans rfl; have hcz39_3 : w36.cell? ⟨gb367, 3, none⟩ = some (.slice none 0 0) := (blk_cell BK367.out 3).trans rfl; have hcz39_4 : w36.cell? ⟨gb367, 4, none⟩ = some (.slice none 0 0) := (blk_cell BK367.out 4).trans rfl; have hfz39_0 := blk_frozen BK367.out 0; have hfz39_1 := blk_frozen BK367.out 1; have hfz39_2 := blk_frozen BK367.out 2; have hfz39_3 := blk_frozen BK367.out 3; have hfz39_4 := blk_frozen BK367.out 4))
              refine bodyPost_ret (results_cell_row rfl _ _ gb367 25 #[.int .i64 (wrap64 ((wrap64 (t368)) - 1)), .int .i64 0, .string t375, .slice none 0 0, .slice none 0 0] (0, 0) _ rfl (by (with_reducible repeat (first | refine blk_drewN ?_ _ | refine blk_drew ?_ | refine blk_alloc ?_ _)); refine blk_put (cs := #[.int .i64 (wrap64 ((wrap64 (t368)) - 1)), .int .i64 0, .string t375, .slice none 0 0, .slice none 0 0]) ?_ 4 _ rfl; (with_reducible repeat (first | refine blk_drewN ?_ _ | refine blk_drew ?_ | refine blk_alloc ?_ _)); refine blk_put (cs := #[.int .i64 (wrap64 ((wrap64 (t368)) - 1)), .int .i64 0, .string t375, .slice none 0 0, .slice none 0 0]) ?_ 3 _ rfl; (with_reducible repeat (first | refine blk_drewN ?_ _ | refine blk_drew ?_ | refine blk_alloc ?_ _)); refine blk_put (cs := #[.int .i64 (wrap64 ((wrap64 (t368)) - 1)), .int .i64 0, .string (⟨#[]⟩ : ByteArray), .slice none 0 0, .slice none 0 0]) ?_ 2 _ rfl; (with_reducible repeat (first | refine blk_drewN ?_ _ | refine blk_drew ?_ | refine blk_alloc ?_ _)); refine blk_put (cs := #[.int .i64 (wrap64 ((wrap64 (t368)) - 1)), .int .i64 0, .string (⟨#[]⟩ : ByteArray), .slice none 0 0, .slice none 0 0]) ?_ 1 _ rfl; (with_reducible repeat (first | refine blk_drewN ?_ _ | refine blk_drew ?_ | refine blk_alloc ?_ _)); refine blk_put (cs := #[.int .i64 0, .int .i64 0, .string (⟨#[]⟩ : ByteArray), .slice none 0 0, .slice none 0 0]) ?_ 0 _ rfl; (with_reducible repeat (first | refine blk_drewN ?_ _ | refine blk_drew ?_ | refine blk_alloc ?_ _)); refine blk_far ?_ NB367_371.out _; (with_reducible repeat (first | refine blk_drewN ?_ _ | refine blk_drew ?_ | refine blk_alloc ?_ _)); exact BK367.out) Tryd.underlying25 rfl (by kernel_rfl)) rfl ?_
              exact ⟨_, _, by first | rfl | (simp [errW_none, errW_some] <;> rfl) | (simp [*, errW_none, errW_some] <;> rfl), by first | exact Kd.R_nil _ _ _ _ _ | exact Kd.N_nil _ _ _ _ _ | exact Kd.V_nil _ _ _ _ _ | exact Kd.Q_nil _ _ _ _ _ | exact Kd.S_nil _ _ _ _ _, by first | exact Kd.R_nil _ _ _ _ _ | exact Kd.N_nil _ _ _ _ _ | exact Kd.V_nil _ _ _ _ _ | exact Kd.Q_nil _ _ _ _ _ | exact Kd.S_nil _ _ _ _ _, by repeat (first | (with_reducible first | exact HI0.out | apply IsS54.alloc | apply IsS54.drewN | apply IsS54.drew | apply IsS54.set_1 | apply IsS54.set_2 | refine IsS54.far ?_ NB0_367.out _ | refine IsS54.far ?_ NB0_371.out _) | exact HI0.out), by repeat (first | (with_reducible first | exact HB.out | apply below_alloc | apply pw_below_drewN | apply below_drew1 | refine below_set ?_ (IsS54.ge HI0.out) | refine below_set ?_ GE367.out | refine below_set ?_ GE371.out) | exact HB.out), by repeat (first | (with_reducible first | exact HK.out | apply KeepBut.set_ | apply keep_drewN | apply keep_drew | apply keep_alloc | refine keep_far ?_ GW367.out _ | refine keep_far ?_ GW371.out _) | exact HK.out)⟩
            · rw [if_neg c31] at H
              have c31b0 : ((wrap64 ((wrap64 (t368)) - 1)) == 4) = false := beq_eq_false_iff_ne.mpr c31
              have c31b1 : ((wrap64 ((wrap64 (t368)) - 1)) != 4) = true := bne_iff_ne.mpr c31
              have HC40 := Aside0.mk H
              clear H
              have hnb41 := NB371_367.out
              have hnc41 := NB367_371.out
              have hnb42 := NB371_0.out
              have hnc42 := NB0_371.out
              have hcz43_0 : wc.cell? ⟨gb371, 0, none⟩ = some (.int .i64 (wrap64 ((wrap64 (t368)) - 1))) := (blk_cell BK371.out 0).trans rfl
              have hcz43_1 : wc.cell? ⟨gb371, 1, none⟩ = some (.int .i64 0) := (blk_cell BK371.out 1).trans rfl
              have hcz43_2 : wc.cell? ⟨gb371, 2, none⟩ = some (.string (⟨#[]⟩ : ByteArray)) := (blk_cell BK371.out 2).trans rfl
              have hcz43_3 : wc.cell? ⟨gb371, 3, none⟩ = some (.slice none 0 0) := (blk_cell BK371.out 3).trans rfl
              have hcz43_4 : wc.cell? ⟨gb371, 4, none⟩ = some (.slice none 0 0) := (blk_cell BK371.out 4).trans rfl
              have hfz43_0 := blk_frozen BK371.out 0
              have hfz43_1 := blk_frozen BK371.out 1
              have hfz43_2 := blk_frozen BK371.out 2
              have hfz43_3 := blk_frozen BK371.out 3
              have hfz43_4 := blk_frozen BK371.out 4
              go_upto_if 51 with (fail)
              go_cut [51] (fun v51 wc => ∃ (kq : Nat) (x51_39 : Bool), v51 = .bool x51_39 ∧ Aside0 (keys_reader_value.j2 kq a1 x51_39 s0_0 t369 x1002_18 (wrap64 ((wrap64 (t368)) - 1)) 0 (⟨#[]⟩ : ByteArray) = some (r1, r2, r3, r4, r5, r6, r7)) ∧ Aside0 (kq ≤ kj18) ∧ Aside0 (wc.heap[gb367]? = some (.cells #[.int .i64 0, .int .i64 0, .string (⟨#[]⟩ : ByteArray), (.slice none 0 0), (.slice none 0 0)] 25 (0, 0))) ∧ Aside0 (wc.heap[gb371]? = some (.cells #[.int .i64 (wrap64 ((wrap64 (t368)) - 1)), .int .i64 0, .string (⟨#[]⟩ : ByteArray), (.slice none 0 0), (.slice none 0 0)] 25 (0, 0))) ∧ Aside0 (IsS54 w0 wc g s0_0 t369 x1002_18) ∧ Aside0 (KeepBut w wc g none) ∧ Aside0 (Below w0.heap.size w0 wc))
              case first =>
                have H := HC40.out
                clear HC40
                by_cases c44 : (wrap64 ((wrap64 (t368)) - 1)) = 5
                · rw [if_pos c44] at H
                  have c44b0 : ((wrap64 ((wrap64 (t368)) - 1)) == 5) = true := beq_iff_eq.mpr c44
                  have c44b1 : ((wrap64 ((wrap64 (t368)) - 1)) != 5) = false := bne_eq_false_iff_eq.mpr c44
                  clear c44
                  (first | rw [c44b0] | (simp only [i64_w, i32_w]; rw [c44b0]) | skip)
                  have H' := Aside0.mk H
                  clear H
                  go_wp2
                  go_meet
                  case rel => exact ⟨_, (((wrap64 ((wrap64 (t368)) - 1)) == 5)), (by first | rfl | (simp; done) | (simp [*]; done)), H', ⟨by have := HJ3.out; have := HJ18.out; first | omega | exact Nat.le_refl _⟩, ⟨by (with_reducible repeat (first | refine blk_drewN ?_ _ | refine blk_drew ?_ | refine blk_alloc ?_ _)); exact BK367.out⟩, ⟨by (with_reducible repeat (first | refine blk_drewN ?_ _ | refine blk_drew ?_ | refine blk_alloc ?_ _)); exact BK371.out⟩, ⟨by repeat (first | (with_reducible first | exact HI0.out | apply IsS54.alloc | apply IsS54.drewN | apply IsS54.drew | apply IsS54.set_1 | apply IsS54.set_2 | refine IsS54.far ?_ NB0_367.out _ | refine IsS54.far ?_ NB0_371.out _) | exact HI0.out)⟩, ⟨by repeat (first | (with_reducible first | exact HK.out | apply KeepBut.set_ | apply keep_drewN | apply keep_drew | apply keep_alloc | refine keep_far ?_ GW367.out _ | refine keep_far ?_ GW371.out _) | exact HK.out)⟩, ⟨by repeat (first | (with_reducible first | exact HB.out | apply below_alloc | apply pw_below_drewN | apply below_drew1 | refine below_set ?_ (IsS54.ge HI0.out) | refine below_set ?_ GE367.out | refine below_set ?_ GE371.out) | exact HB.out)⟩⟩
                · rw [if_neg c44] at H
                  have c44b0 : ((wrap64 ((wrap64 (t368)) - 1)) == 5) = false := beq_eq_false_iff_ne.mpr c44
                  have c44b1 : ((wrap64 ((wrap64 (t368)) - 1)) != 5) = true := bne_iff_ne.mpr c44
                  (first | rw [c44b0] | (simp only [i64_w, i32_w]; rw [c44b0]) | skip)
                  have H' := Aside0.mk H
                  clear H
                  go_wp2
                  go_meet
                  case rel => exact ⟨_, (((wrap64 ((wrap64 (t368)) - 1)) == 6)), (by first | rfl | (simp; done) | (simp [*]; done)), H', ⟨by have := HJ3.out; have := HJ18.out; first | omega | exact Nat.le_refl _⟩, ⟨by (with_reducible repeat (first | refine blk_drewN ?_ _ | refine blk_drew ?_ | refine blk_alloc ?_ _)); exact BK367.out⟩, ⟨by (with_reducible repeat (first | refine blk_drewN ?_ _ | refine blk_drew ?_ | refine blk_alloc ?_ _)); exact BK371.out⟩, ⟨by repeat (first | (with_reducible first | exact HI0.out | apply IsS54.alloc | apply IsS54.drewN | apply IsS54.drew | apply IsS54.set_1 | apply IsS54.set_2 | refine IsS54.far ?_ NB0_367.out _ | refine IsS54.far ?_ NB0_371.out _) | exact HI0.out)⟩, ⟨by repeat (first | (with_reducible first | exact HK.out | apply KeepBut.set_ | apply keep_drewN | apply keep_drew | apply keep_alloc | refine keep_far ?_ GW367.out _ | refine keep_far ?_ GW371.out _) | exact HK.out)⟩, ⟨by repeat (first | (with_reducible first | exact HB.out | apply below_alloc | apply pw_below_drewN | apply below_drew1 | refine below_set ?_ (IsS54.ge HI0.out) | refine below_set ?_ GE367.out | refine below_set ?_ GE371.out) | exact HB.out)⟩⟩
              case rest =>
                clear HC40
                try clear c1
                try clear c2
                try clear p2
                try clear c3
                try clear c4
                try clear c5
                try clear p6
                try clear c8
                try clear c9
                try clear c11
                try clear c11b0
                try clear c11b1
                try clear c12
                try clear c12b0
                try clear c13
                try clear c14
                try clear c16
                try clear c17
                try clear c20
                try clear c22
                try clear c22b0
                try clear c22b1
                try clear c24
                try clear c25
                try clear c29
                try clear c31
                try clear c31b0
                try clear c31b1
                try clear c33
                try clear c34
                try clear c38
                try clear c41
                try clear c42
                try clear c44
                try clear c44b0
                try clear c44b1
                try clear hcz10_0
                try clear hcz10_1
                try clear hcz10_2
                try clear hcz10_3
                try clear hcz10_4
                try clear hcz15_0
                try clear hcz15_1
                try clear hcz15_2
                try clear hcz15_3
                try clear hcz15_4
                try clear hcz18_0
                try clear hcz18_1
                try clear hcz18_2
                try clear hcz18_3
                try clear hcz18_4
                try clear hcz21_0
                try clear hcz21_1
                try clear hcz21_2
                try clear hcz26_0
                try clear hcz26_1
                try clear hcz26_2
                try clear hcz26_3
                try clear hcz26_4
                try clear hcz28_0
                try clear hcz28_1
                try clear hcz28_2
                try clear hcz28_3
                try clear hcz28_4
                try clear hcz30_0
                try clear hcz30_1
                try clear hcz30_2
                try clear hcz30_3
                try clear hcz30_4
                try clear hcz35_0
                try clear hcz35_1
                try clear hcz35_2
                try clear hcz35_3
                try clear hcz35_4
                try clear hcz37_0
                try clear hcz37_1
                try clear hcz37_2
                try clear hcz37_3
                try clear hcz37_4
                try clear hcz39_0
                try clear hcz39_1
                try clear hcz39_2
                try clear hcz39_3
                try clear hcz39_4
                try clear hcz43_0
                try clear hcz43_1
                try clear hcz43_2
                try clear hcz43_3
                try clear hcz43_4
                try clear hfz10_0
                try clear hfz10_1
                try clear hfz10_2
                try clear hfz10_3
                try clear hfz10_4
                try clear hfz15_0
                try clear hfz15_1
                try clear hfz15_2
                try clear hfz15_3
                try clear hfz15_4
                try clear hfz18_0
                try clear hfz18_1
                try clear hfz18_2
                try clear hfz18_3
                try clear hfz18_4
                try clear hfz21_1
                try clear hfz21_2
                try clear hfz26_0
                try clear hfz26_1
                try clear hfz26_2
                try clear hfz26_3
                try clear hfz26_4
                try clear hfz28_0
                try clear hfz28_1
                try clear hfz28_2
                try clear hfz28_3
                try clear hfz28_4
                try clear hfz30_0
                try clear hfz30_1
                try clear hfz30_2
                try clear hfz30_3
                try clear hfz30_4
                try clear hfz35_0
                try clear hfz35_1
                try clear hfz35_2
                try clear hfz35_3
                try clear hfz35_4
                try clear hfz37_0
                try clear hfz37_1
                try clear hfz37_2
                try clear hfz37_3
                try clear hfz37_4
                try clear hfz39_0
                try clear hfz39_1
                try clear hfz39_2
                try clear hfz39_3
                try clear hfz39_4
                try clear hfz43_0
                try clear hfz43_1
                try clear hfz43_2
                try clear hfz43_3
                try clear hfz43_4
                try clear p2
                try clear p6
                obtain ⟨kq, x51_39, rfl, HA, HJ39, BK367, BK371, HI0, HK, HB⟩ := hcut
                cases kq with
                | zero => exact absurd HA.out (by simp [keys_reader_value.j2])
                | succ kj39 =>
                  have H := HA.out
                  clear HA
                  simp only [keys_reader_value.j2] at H
                  by_cases c45 : x51_39 = true
                  · subst c45
                    have H1 : (keys_reader_value.l0 kj39 a1 s0_0 t369 x1002_18 (wrap64 ((wrap64 (t368)) - 1)) 0 (⟨#[]⟩ : ByteArray) ([] : List ByteArray) ([] : List (S25))) = some (r1, r2, r3, r4, r5, r6, r7) := by rw [if_pos rfl] at H; exact H
                    clear H
                    have H := H1
                    clear H1
                    have H' := Aside0.mk H
                    clear H
                    go_wp2
                    go_loopg [] kj39 (fun kq w' => ∃ (x1001_4 : Int) (x1002_4 : Bool) (x372003_4 : List ByteArray) (x372004_4 : List (S25)) (u372003 : Value) (u372004 : Value), Aside0 (keys_reader_value.l0 kq a1 s0_0 x1001_4 x1002_4 (wrap64 ((wrap64 (t368)) - 1)) 0 (⟨#[]⟩ : ByteArray) x372003_4 x372004_4 = some (r1, r2, r3, r4, r5, r6, r7)) ∧ Aside0 (kq ≤ kj39) ∧ Aside0 (Kd.R Kd.string 9 w' w.heap.size (fun _ => True) u372003 x372003_4) ∧ Aside0 (Kd.R k25 25 w' w.heap.size (fun k_ => some k_ ≠ (u372003 : Value).ownBlock ∧ k_ ≠ gb367 ∧ k_ ≠ gb371) u372004 x372004_4) ∧ Aside0 (w'.heap[gb367]? = some (.cells #[.int .i64 0, .int .i64 0, .string (⟨#[]⟩ : ByteArray), (.slice none 0 0), (.slice none 0 0)] 25 (0, 0))) ∧ Aside0 (w'.heap[gb371]? = some (.cells #[.int .i64 (wrap64 ((wrap64 (t368)) - 1)), .int .i64 0, .string (⟨#[]⟩ : ByteArray), u372003, u372004] 25 (0, 0))) ∧ Aside0 (IsS54 w0 w' g s0_0 x1001_4 x1002_4) ∧ Aside0 (KeepBut w w' g none) ∧ Aside0 (Below w0.heap.size w0 w'))
                    case atStart => exact ⟨(t369), (x1002_18), (([] : List ByteArray)), (([] : List (S25))), (.slice none 0 0), (.slice none 0 0), H', ⟨Nat.le_refl _⟩, ⟨by first | exact Kd.R_nil _ _ _ _ _ | exact Kd.N_nil _ _ _ _ _ | exact Kd.V_nil _ _ _ _ _ | exact Kd.Q_nil _ _ _ _ _ | exact Kd.S_nil _ _ _ _ _⟩, ⟨by first | exact Kd.R_nil _ _ _ _ _ | exact Kd.N_nil _ _ _ _ _ | exact Kd.V_nil _ _ _ _ _ | exact Kd.Q_nil _ _ _ _ _ | exact Kd.S_nil _ _ _ _ _⟩, ⟨by (with_reducible repeat (first | refine blk_drewN ?_ _ | refine blk_drew ?_ | refine blk_alloc ?_ _)); exact BK367.out⟩, ⟨by (with_reducible repeat (first | refine blk_drewN ?_ _ | refine blk_drew ?_ | refine blk_alloc ?_ _)); exact BK371.out⟩, ⟨by repeat (first | (with_reducible first | exact HI0.out | apply IsS54.alloc | apply IsS54.drewN | apply IsS54.drew | apply IsS54.set_1 | apply IsS54.set_2 | refine IsS54.far ?_ NB0_367.out _ | refine IsS54.far ?_ NB0_371.out _) | exact HI0.out)⟩, ⟨by repeat (first | (with_reducible first | exact HK.out | apply KeepBut.set_ | apply keep_drewN | apply keep_drew | apply keep_alloc | refine keep_far ?_ GW367.out _ | refine keep_far ?_ GW371.out _) | exact HK.out)⟩, ⟨by repeat (first | (with_reducible first | exact HB.out | apply below_alloc | apply pw_below_drewN | apply below_drew1 | refine below_set ?_ (IsS54.ge HI0.out) | refine below_set ?_ GE367.out | refine below_set ?_ GE371.out) | exact HB.out)⟩⟩
                    case round =>
                      clear H'
                      try clear c1
                      try clear c2
                      try clear p2
                      try clear c3
                      try clear c4
                      try clear c5
                      try clear p6
                      try clear c8
                      try clear c9
                      try clear c11
                      try clear c11b0
                      try clear c11b1
                      try clear c12
                      try clear c12b0
                      try clear c13
                      try clear c14
                      try clear c16
                      try clear c17
                      try clear c20
                      try clear c22
                      try clear c22b0
                      try clear c22b1
                      try clear c24
                      try clear c25
                      try clear c29
                      try clear c31
                      try clear c31b0
                      try clear c31b1
                      try clear c33
                      try clear c34
                      try clear c38
                      try clear c41
                      try clear c42
                      try clear c44
                      try clear c44b0
                      try clear c44b1
                      try clear c45
                      try clear hcz10_0
                      try clear hcz10_1
                      try clear hcz10_2
                      try clear hcz10_3
                      try clear hcz10_4
                      try clear hcz15_0
                      try clear hcz15_1
                      try clear hcz15_2
                      try clear hcz15_3
                      try clear hcz15_4
                      try clear hcz18_0
                      try clear hcz18_1
                      try clear hcz18_2
                      try clear hcz18_3
                      try clear hcz18_4
                      try clear hcz21_0
                      try clear hcz21_1
                      try clear hcz21_2
                      try clear hcz26_0
                      try clear hcz26_1
                      try clear hcz26_2
                      try clear hcz26_3
                      try clear hcz26_4
                      try clear hcz28_0
                      try clear hcz28_1
                      try clear hcz28_2
                      try clear hcz28_3
                      try clear hcz28_4
                      try clear hcz30_0
                      try clear hcz30_1
                      try clear hcz30_2
                      try clear hcz30_3
                      try clear hcz30_4
                      try clear hcz35_0
                      try clear hcz35_1
                      try clear hcz35_2
                      try clear hcz35_3
                      try clear hcz35_4
                      try clear hcz37_0
                      try clear hcz37_1
                      try clear hcz37_2
                      try clear hcz37_3
                      try clear hcz37_4
                      try clear hcz39_0
                      try clear hcz39_1
                      try clear hcz39_2
                      try clear hcz39_3
                      try clear hcz39_4
                      try clear hcz43_0
                      try clear hcz43_1
                      try clear hcz43_2
                      try clear hcz43_3
                      try clear hcz43_4
                      try clear hfz10_0
                      try clear hfz10_1
                      try clear hfz10_2
                      try clear hfz10_3
                      try clear hfz10_4
                      try clear hfz15_0
                      try clear hfz15_1
                      try clear hfz15_2
                      try clear hfz15_3
                      try clear hfz15_4
                      try clear hfz18_0
                      try clear hfz18_1
                      try clear hfz18_2
                      try clear hfz18_3
                      try clear hfz18_4
                      try clear hfz21_1
                      try clear hfz21_2
                      try clear hfz26_0
                      try clear hfz26_1
                      try clear hfz26_2
                      try clear hfz26_3
                      try clear hfz26_4
                      try clear hfz28_0
                      try clear hfz28_1
                      try clear hfz28_2
                      try clear hfz28_3
                      try clear hfz28_4
                      try clear hfz30_0
                      try clear hfz30_1
                      try clear hfz30_2
                      try clear hfz30_3
                      try clear hfz30_4
                      try clear hfz35_0
                      try clear hfz35_1
                      try clear hfz35_2
                      try clear hfz35_3
                      try clear hfz35_4
                      try clear hfz37_0
                      try clear hfz37_1
                      try clear hfz37_2
                      try clear hfz37_3
                      try clear hfz37_4
                      try clear hfz39_0
                      try clear hfz39_1
                      try clear hfz39_2
                      try clear hfz39_3
                      try clear hfz39_4
                      try clear hfz43_0
                      try clear hfz43_1
                      try clear hfz43_2
                      try clear hfz43_3
                      try clear hfz43_4
                      try clear p2
                      try clear p6
                      try clear BK367
                      try clear BK371
                      obtain ⟨x1001_4, x1002_4, x372003_4, x372004_4, u372003, u372004, HA, HK4, HO_372003, HO_372004, BK367, BK371, HI0, HK, HB⟩ := hrel
                      cases gk with
                      | zero => exact absurd HA.out (by simp [keys_reader_value.l0])
                      | succ k4 =>
                        have H := HA.out
                        clear HA
                        simp only [keys_reader_value.l0] at H
                        have HC46 := Aside0.mk H
                        clear H
                        go_upto_region 17 with (fail)
                        go_cut [64] (fun v64 wc => ∃ (kq : Nat) (x64_45 : Bool), v64 = .bool x64_45 ∧ Aside0 (keys_reader_value.j4 kq a1 x64_45 s0_0 x1001_4 x1002_4 (wrap64 ((wrap64 (t368)) - 1)) 0 (⟨#[]⟩ : ByteArray) x372003_4 x372004_4 = some (r1, r2, r3, r4, r5, r6, r7)) ∧ Aside0 (kq ≤ k4) ∧ Aside0 (Kd.R Kd.string 9 wc w.heap.size (fun _ => True) u372003 x372003_4) ∧ Aside0 (Kd.R k25 25 wc w.heap.size (fun k_ => some k_ ≠ (u372003 : Value).ownBlock ∧ k_ ≠ gb367 ∧ k_ ≠ gb371) u372004 x372004_4) ∧ Aside0 (wc.heap[gb367]? = some (.cells #[.int .i64 0, .int .i64 0, .string (⟨#[]⟩ : ByteArray), (.slice none 0 0), (.slice none 0 0)] 25 (0, 0))) ∧ Aside0 (wc.heap[gb371]? = some (.cells #[.int .i64 (wrap64 ((wrap64 (t368)) - 1)), .int .i64 0, .string (⟨#[]⟩ : ByteArray), u372003, u372004] 25 (0, 0))) ∧ Aside0 (IsS54 w0 wc g s0_0 x1001_4 x1002_4) ∧ Aside0 (KeepBut w wc g none) ∧ Aside0 (Below w0.heap.size w0 wc))
                        case first =>
                          have H := HC46.out
                          clear HC46
                          by_cases c47 : x1002_4 = true
                          · subst c47
                            have H1 : (keys_reader_value.j4 k4 a1 false s0_0 x1001_4 true (wrap64 ((wrap64 (t368)) - 1)) 0 (⟨#[]⟩ : ByteArray) x372003_4 x372004_4) = some (r1, r2, r3, r4, r5, r6, r7) := by rw [if_pos rfl] at H; exact H
                            clear H
                            have H := H1
                            clear H1
                            have H' := Aside0.mk H
                            clear H
                            obtain ⟨ASz48_0, cSz48_0, HGz48, hgz48, HSz48_0⟩ := HI0.out
                            have hcz48_0 := cellS54_0 HGz48
                            have hcz48_1 := cellS54_1 HGz48
                            have hcz48_2 := cellS54_2 HGz48
                            have hfz48_1 := blk_frozen HGz48 1
                            have hfz48_2 := blk_frozen HGz48 2
                            clear HGz48 hgz48
                            go_wp2
                            go_meet
                            case rel => exact ⟨_, (false), (by first | rfl | (simp; done) | (simp [*]; done)), H', ⟨by have := HJ3.out; have := HJ18.out; have := HJ39.out; have := HK4.out; first | omega | exact Nat.le_refl _⟩, ⟨by (with_reducible repeat (first | apply Kd.R_alloc | apply Kd.R_drewN | apply Kd.R_drew)); exact HO_372003.out⟩, ⟨by (with_reducible repeat (first | apply Kd.R_alloc | apply Kd.R_drewN | apply Kd.R_drew)); exact HO_372004.out⟩, ⟨by (with_reducible repeat (first | refine blk_drewN ?_ _ | refine blk_drew ?_ | refine blk_alloc ?_ _)); exact BK367.out⟩, ⟨by (with_reducible repeat (first | refine blk_drewN ?_ _ | refine blk_drew ?_ | refine blk_alloc ?_ _)); exact BK371.out⟩, ⟨by repeat (first | (with_reducible first | exact HI0.out | apply IsS54.alloc | apply IsS54.drewN | apply IsS54.drew | apply IsS54.set_1 | apply IsS54.set_2 | refine IsS54.far ?_ NB0_367.out _ | refine IsS54.far ?_ NB0_371.out _) | exact HI0.out)⟩, ⟨by repeat (first | (with_reducible first | exact HK.out | apply KeepBut.set_ | apply keep_drewN | apply keep_drew | apply keep_alloc | refine keep_far ?_ GW367.out _ | refine keep_far ?_ GW371.out _) | exact HK.out)⟩, ⟨by repeat (first | (with_reducible first | exact HB.out | apply below_alloc | apply pw_below_drewN | apply below_drew1 | refine below_set ?_ (IsS54.ge HI0.out) | refine below_set ?_ GE367.out | refine below_set ?_ GE371.out) | exact HB.out)⟩⟩
                          · replace c47 := Bool.eq_false_iff.mpr c47
                            subst c47
                            have H1 : (keys_reader_value.j4 k4 a1 (decide ((x372004_4.length : Int) ≤ 24)) s0_0 x1001_4 false (wrap64 ((wrap64 (t368)) - 1)) 0 (⟨#[]⟩ : ByteArray) x372003_4 x372004_4) = some (r1, r2, r3, r4, r5, r6, r7) := by rw [if_neg (show ¬ (false = true) by decide)] at H; exact H
                            clear H
                            have H := H1
                            clear H1
                            have H' := Aside0.mk H
                            clear H
                            obtain ⟨ASz49_0, cSz49_0, HGz49, hgz49, HSz49_0⟩ := HI0.out
                            have hcz49_0 := cellS54_0 HGz49
                            have hcz49_1 := cellS54_1 HGz49
                            have hcz49_2 := cellS54_2 HGz49
                            have hfz49_1 := blk_frozen HGz49 1
                            have hfz49_2 := blk_frozen HGz49 2
                            clear HGz49 hgz49
                            have hnb50 := NB371_367.out
                            have hnc50 := NB367_371.out
                            have hnb51 := NB371_0.out
                            have hnc51 := NB0_371.out
                            have hcz52_0 : wr.cell? ⟨gb371, 0, none⟩ = some (.int .i64 (wrap64 ((wrap64 (t368)) - 1))) := (blk_cell BK371.out 0).trans rfl
                            have hcz52_1 : wr.cell? ⟨gb371, 1, none⟩ = some (.int .i64 0) := (blk_cell BK371.out 1).trans rfl
                            have hcz52_2 : wr.cell? ⟨gb371, 2, none⟩ = some (.string (⟨#[]⟩ : ByteArray)) := (blk_cell BK371.out 2).trans rfl
                            have hcz52_3 : wr.cell? ⟨gb371, 3, none⟩ = some (u372003) := (blk_cell BK371.out 3).trans rfl
                            have hcz52_4 : wr.cell? ⟨gb371, 4, none⟩ = some (u372004) := (blk_cell BK371.out 4).trans rfl
                            have hfz52_0 := blk_frozen BK371.out 0
                            have hfz52_1 := blk_frozen BK371.out 1
                            have hfz52_2 := blk_frozen BK371.out 2
                            have hfz52_3 := blk_frozen BK371.out 3
                            have hfz52_4 := blk_frozen BK371.out 4
                            obtain ⟨Ao53, co53, eo53⟩ := Kd.R_slice HO_372004.out
                            subst eo53
                            go_wp2
                            go_meet
                            case rel => exact ⟨_, (decide ((x372004_4.length : Int) ≤ 24)), (by first | rfl | (simp; done) | (simp [*]; done)), H', ⟨by have := HJ3.out; have := HJ18.out; have := HJ39.out; have := HK4.out; first | omega | exact Nat.le_refl _⟩, ⟨by (with_reducible repeat (first | apply Kd.R_alloc | apply Kd.R_drewN | apply Kd.R_drew)); exact HO_372003.out⟩, ⟨by (with_reducible repeat (first | apply Kd.R_alloc | apply Kd.R_drewN | apply Kd.R_drew)); exact HO_372004.out⟩, ⟨by (with_reducible repeat (first | refine blk_drewN ?_ _ | refine blk_drew ?_ | refine blk_alloc ?_ _)); exact BK367.out⟩, ⟨by (with_reducible repeat (first | refine blk_drewN ?_ _ | refine blk_drew ?_ | refine blk_alloc ?_ _)); exact BK371.out⟩, ⟨by repeat (first | (with_reducible first | exact HI0.out | apply IsS54.alloc | apply IsS54.drewN | apply IsS54.drew | apply IsS54.set_1 | apply IsS54.set_2 | refine IsS54.far ?_ NB0_367.out _ | refine IsS54.far ?_ NB0_371.out _) | exact HI0.out)⟩, ⟨by repeat (first | (with_reducible first | exact HK.out | apply KeepBut.set_ | apply keep_drewN | apply keep_drew | apply keep_alloc | refine keep_far ?_ GW367.out _ | refine keep_far ?_ GW371.out _) | exact HK.out)⟩, ⟨by repeat (first | (with_reducible first | exact HB.out | apply below_alloc | apply pw_below_drewN | apply below_drew1 | refine below_set ?_ (IsS54.ge HI0.out) | refine below_set ?_ GE367.out | refine below_set ?_ GE371.out) | exact HB.out)⟩⟩
                        case rest =>
                          clear HC46
                          try clear c1
                          try clear c2
                          try clear p2
                          try clear c3
                          try clear c4
                          try clear c5
                          try clear p6
                          try clear c8
                          try clear c9
                          try clear c11
                          try clear c11b0
                          try clear c11b1
                          try clear c12
                          try clear c12b0
                          try clear c13
                          try clear c14
                          try clear c16
                          try clear c17
                          try clear c20
                          try clear c22
                          try clear c22b0
                          try clear c22b1
                          try clear c24
                          try clear c25
                          try clear c29
                          try clear c31
                          try clear c31b0
                          try clear c31b1
                          try clear c33
                          try clear c34
                          try clear c38
                          try clear c41
                          try clear c42
                          try clear c44
                          try clear c44b0
                          try clear c44b1
                          try clear c45
                          try clear c47
                          try clear c50
                          try clear c51
                          try clear hcz10_0
                          try clear hcz10_1
                          try clear hcz10_2
                          try clear hcz10_3
                          try clear hcz10_4
                          try clear hcz15_0
                          try clear hcz15_1
                          try clear hcz15_2
                          try clear hcz15_3
                          try clear hcz15_4
                          try clear hcz18_0
                          try clear hcz18_1
                          try clear hcz18_2
                          try clear hcz18_3
                          try clear hcz18_4
                          try clear hcz21_0
                          try clear hcz21_1
                          try clear hcz21_2
                          try clear hcz26_0
                          try clear hcz26_1
                          try clear hcz26_2
                          try clear hcz26_3
                          try clear hcz26_4
                          try clear hcz28_0
                          try clear hcz28_1
                          try clear hcz28_2
                          try clear hcz28_3
                          try clear hcz28_4
                          try clear hcz30_0
                          try clear hcz30_1
                          try clear hcz30_2
                          try clear hcz30_3
                          try clear hcz30_4
                          try clear hcz35_0
                          try clear hcz35_1
                          try clear hcz35_2
                          try clear hcz35_3
                          try clear hcz35_4
                          try clear hcz37_0
                          try clear hcz37_1
                          try clear hcz37_2
                          try clear hcz37_3
                          try clear hcz37_4
                          try clear hcz39_0
                          try clear hcz39_1
                          try clear hcz39_2
                          try clear hcz39_3
                          try clear hcz39_4
                          try clear hcz43_0
                          try clear hcz43_1
                          try clear hcz43_2
                          try clear hcz43_3
                          try clear hcz43_4
                          try clear hcz48_0
                          try clear hcz48_1
                          try clear hcz48_2
                          try clear hcz49_0
                          try clear hcz49_1
                          try clear hcz49_2
                          try clear hcz52_0
                          try clear hcz52_1
                          try clear hcz52_2
                          try clear hcz52_3
                          try clear hcz52_4
                          try clear hfz10_0
                          try clear hfz10_1
                          try clear hfz10_2
                          try clear hfz10_3
                          try clear hfz10_4
                          try clear hfz15_0
                          try clear hfz15_1
                          try clear hfz15_2
                          try clear hfz15_3
                          try clear hfz15_4
                          try clear hfz18_0
                          try clear hfz18_1
                          try clear hfz18_2
                          try clear hfz18_3
                          try clear hfz18_4
                          try clear hfz21_1
                          try clear hfz21_2
                          try clear hfz26_0
                          try clear hfz26_1
                          try clear hfz26_2
                          try clear hfz26_3
                          try clear hfz26_4
                          try clear hfz28_0
                          try clear hfz28_1
                          try clear hfz28_2
                          try clear hfz28_3
                          try clear hfz28_4
                          try clear hfz30_0
                          try clear hfz30_1
                          try clear hfz30_2
                          try clear hfz30_3
                          try clear hfz30_4
                          try clear hfz35_0
                          try clear hfz35_1
                          try clear hfz35_2
                          try clear hfz35_3
                          try clear hfz35_4
                          try clear hfz37_0
                          try clear hfz37_1
                          try clear hfz37_2
                          try clear hfz37_3
                          try clear hfz37_4
                          try clear hfz39_0
                          try clear hfz39_1
                          try clear hfz39_2
                          try clear hfz39_3
                          try clear hfz39_4
                          try clear hfz43_0
                          try clear hfz43_1
                          try clear hfz43_2
                          try clear hfz43_3
                          try clear hfz43_4
                          try clear hfz48_1
                          try clear hfz48_2
                          try clear hfz49_1
                          try clear hfz49_2
                          try clear hfz52_0
                          try clear hfz52_1
                          try clear hfz52_2
                          try clear hfz52_3
                          try clear hfz52_4
                          try clear p2
                          try clear p6
                          obtain ⟨kq, x64_45, rfl, HA, HJ45, HO_372003, HO_372004, BK367, BK371, HI0, HK, HB⟩ := hcut
                          cases kq with
                          | zero => exact absurd HA.out (by simp [keys_reader_value.j4])
                          | succ kj45 =>
                            have H := HA.out
                            clear HA
                            simp only [keys_reader_value.j4] at H
                            by_cases c54 : x64_45 = true
                            · subst c54
                              have H1 : ((keys_reader_next.f s0_0 x1001_4 x1002_4).bind fun bt378 => (if bt378.1 = 0 then (some ((wrap64 ((wrap64 (t368)) - 1)), 0, (⟨#[]⟩ : ByteArray), x372003_4, x372004_4, bt378.2.1, bt378.2.2)) else (if (wrap64 ((wrap64 (t368)) - 1)) = 6 then (if bt378.2.2 = true then (keys_reader_value.j5 kj45 a1 s0_0 bt378.2.1 true (wrap64 ((wrap64 (t368)) - 1)) 0 (⟨#[]⟩ : ByteArray) x372003_4 x372004_4) else (keys_reader_value.j5 kj45 a1 s0_0 bt378.2.1 (bt378.1 != 1) (wrap64 ((wrap64 (t368)) - 1)) 0 (⟨#[]⟩ : ByteArray) x372003_4 x372004_4)) else (if bt378.2.2 = true then (keys_reader_value.l0 kj45 a1 s0_0 (wrap64 (bt378.2.1 - 1)) bt378.2.2 (wrap64 ((wrap64 (t368)) - 1)) 0 (⟨#[]⟩ : ByteArray) x372003_4 x372004_4) else ((keys_reader_value.f kj45 s0_0 (wrap64 (bt378.2.1 - 1)) bt378.2.2 (wrap64 (a1 - 1))).bind fun bt401 => (if x372004_4.length < 1759218604441 then (keys_reader_value.l0 kj45 a1 s0_0 bt401.2.2.2.2.2.1 bt401.2.2.2.2.2.2 (wrap64 ((wrap64 (t368)) - 1)) 0 (⟨#[]⟩ : ByteArray) x372003_4 (x372004_4 ++ [(⟨bt401.1, bt401.2.1, bt401.2.2.1, bt401.2.2.2.1, bt401.2.2.2.2.1⟩ : S25)])) else (none))))))) = some (r1, r2, r3, r4, r5, r6, r7) := by rw [if_pos rfl] at H; exact H
                              clear H
                              have H := H1
                              clear H1
                              replace H := Option.bind_eq_some_iff.mp H
                              obtain ⟨⟨t378, t379, t380⟩, A550, H⟩ := H
                              replace H : (if t378 = 0 then (some ((wrap64 ((wrap64 (t368)) - 1)), 0, (⟨#[]⟩ : ByteArray), x372003_4, x372004_4, t379, t380)) else (if (wrap64 ((wrap64 (t368)) - 1)) = 6 then (if t380 = true then (keys_reader_value.j5 kj45 a1 s0_0 t379 true (wrap64 ((wrap64 (t368)) - 1)) 0 (⟨#[]⟩ : ByteArray) x372003_4 x372004_4) else (keys_reader_value.j5 kj45 a1 s0_0 t379 (t378 != 1) (wrap64 ((wrap64 (t368)) - 1)) 0 (⟨#[]⟩ : ByteArray) x372003_4 x372004_4)) else (if t380 = true then (keys_reader_value.l0 kj45 a1 s0_0 (wrap64 (t379 - 1)) t380 (wrap64 ((wrap64 (t368)) - 1)) 0 (⟨#[]⟩ : ByteArray) x372003_4 x372004_4) else ((keys_reader_value.f kj45 s0_0 (wrap64 (t379 - 1)) t380 (wrap64 (a1 - 1))).bind fun bt401 => (if x372004_4.length < 1759218604441 then (keys_reader_value.l0 kj45 a1 s0_0 bt401.2.2.2.2.2.1 bt401.2.2.2.2.2.2 (wrap64 ((wrap64 (t368)) - 1)) 0 (⟨#[]⟩ : ByteArray) x372003_4 (x372004_4 ++ [(⟨bt401.1, bt401.2.1, bt401.2.2.1, bt401.2.2.2.1, bt401.2.2.2.2.1⟩ : S25)])) else (none)))))) = some (r1, r2, r3, r4, r5, r6, r7) := H
                              have A55 := Aside0.mk A550
                              clear A550
                              by_cases c56 : t378 = 0
                              · rw [if_pos c56] at H
                                have c56b0 : (t378 == 0) = true := beq_iff_eq.mpr c56
                                have c56b1 : (t378 != 0) = false := bne_eq_false_iff_eq.mpr c56
                                clear c56
                                simp only [Option.some.injEq, Prod.mk.injEq] at H
                                obtain ⟨rfl, rfl, rfl, rfl, rfl, rfl, rfl⟩ := H
                                go_wp2_with (first | ((with_reducible refine gate_callee (f := 57) rfl ?_); refine goesL_ (some 66) rfl rfl Tryd.func57 (by kernel_rfl) rfl #[.pointer (some ⟨g, 0, none⟩)] rfl (by (try simp only [List.map_toArray, List.map_cons, List.map_nil]); first | done | rfl | (simp only [List.length_drop, List.length_take]; rfl)) ?_; (with_reducible refine (keys_reader_next.calls g s0_0 x1001_4 x1002_4 t378 t379 t380 w0 _ ?side1 ?side2 A55.out).mono ?_); (case side1 => repeat (first | (with_reducible first | exact HI0.out | apply IsS54.alloc | apply IsS54.drewN | apply IsS54.drew | apply IsS54.set_1 | apply IsS54.set_2 | refine IsS54.far ?_ NB0_367.out _ | refine IsS54.far ?_ NB0_371.out _) | exact HI0.out)); (case side2 => repeat (first | (with_reducible first | exact HB.out | apply below_alloc | apply pw_below_drewN | apply below_drew1 | refine below_set ?_ (IsS54.ge HI0.out) | refine below_set ?_ GE367.out | refine below_set ?_ GE371.out) | exact HB.out)); rintro e w57 ⟨rfl, hi, hb, hk⟩; refine ⟨_, rfl, ?_⟩; have n0_ := Aside0.mk (Kd.R_mono (Kd.R_keep (IsS54.apart (show IsS54 w0 _ g s0_0 x1001_4 x1002_4 from by repeat (first | (with_reducible first | exact HI0.out | apply IsS54.alloc | apply IsS54.drewN | apply IsS54.drew | apply IsS54.set_1 | apply IsS54.set_2 | refine IsS54.far ?_ NB0_367.out _ | refine IsS54.far ?_ NB0_371.out _) | exact HI0.out)) (by (with_reducible repeat (first | apply Kd.R_alloc | apply Kd.R_drewN | apply Kd.R_drew)); exact HO_372003.out) (by decide)) hk (fun _ h => h.2)) (fun _ h => h.1)); have n1_ := Aside0.mk (Kd.R_mono (Kd.R_keep (IsS54.apart (show IsS54 w0 _ g s0_0 x1001_4 x1002_4 from by repeat (first | (with_reducible first | exact HI0.out | apply IsS54.alloc | apply IsS54.drewN | apply IsS54.drew | apply IsS54.set_1 | apply IsS54.set_2 | refine IsS54.far ?_ NB0_367.out _ | refine IsS54.far ?_ NB0_371.out _) | exact HI0.out)) (by (with_reducible repeat (first | apply Kd.R_alloc | apply Kd.R_drewN | apply Kd.R_drew)); exact HO_372004.out) (by decide)) hk (fun _ h => h.2)) (fun _ h => h.1)); have n2_ := Aside0.mk (KeepBut.blk hk (g' := gb367) (o := .cells #[.int .i64 0, .int .i64 0, .string (⟨#[]⟩ : ByteArray), .slice none 0 0, .slice none 0 0] 25 (0, 0)) (by (with_reducible repeat (first | refine blk_drewN ?_ _ | refine blk_drew ?_ | refine blk_alloc ?_ _)); exact BK367.out) NB367_0.out (by simp)); have n3_ := Aside0.mk (KeepBut.blk hk (g' := gb371) (o := .cells #[.int .i64 (wrap64 ((wrap64 (t368)) - 1)), .int .i64 0, .string (⟨#[]⟩ : ByteArray), u372003, u372004] 25 (0, 0)) (by (with_reducible repeat (first | refine blk_drewN ?_ _ | refine blk_drew ?_ | refine blk_alloc ?_ _)); exact BK371.out) NB371_0.out (by simp)); have n4_ := Aside0.mk (KeepBut.trans (by repeat (first | (with_reducible first | exact HK.out | apply KeepBut.set_ | apply keep_drewN | apply keep_drew | apply keep_alloc | refine keep_far ?_ GW367.out _ | refine keep_far ?_ GW371.out _) | exact HK.out)) hk (.inl rfl)); have n5_ := Aside0.mk (hb); have n6_ := Aside0.mk (hi); clear HO_372003; clear HO_372004; clear BK367; clear BK371; clear HK; clear HB; clear HI0; have HO_372003 := n0_; have HO_372004 := n1_; have BK367 := n2_; have BK371 := n3_; have HK := n4_; have HB := n5_; have HI0 := n6_; clear n0_ n1_ n2_ n3_ n4_ n5_ n6_; (try clear hb); (try clear hb2); (try clear hk); (try clear hi); have hnb58 := NB371_367.out; have hnc58 := NB367_371.out; have hnb59 := NB371_0.out; have hnc59 := NB0_371.out; have hcz60_0 : w57.cell? ⟨gb371, 0, none⟩ = some (.int .i64 (wrap64 ((wrap64 (t368)) - 1))) := (blk_cell BK371.out 0).trans rfl; have hcz60_1 : w57.cell? ⟨gb371, 1, none⟩ = some (.int .i64 0) := (blk_cell BK371.out 1).trans rfl; have hcz60_2 : w57.cell? ⟨gb371, 2, none⟩ = some (.string (⟨#[]⟩ : ByteArray)) := (blk_cell BK371.out 2).trans rfl; have hcz60_3 : w57.cell? ⟨gb371, 3, none⟩ = some (u372003) := (blk_cell BK371.out 3).trans rfl; have hcz60_4 : w57.cell? ⟨gb371, 4, none⟩ = some (u372004) := (blk_cell BK371.out 4).trans rfl; have hfz60_0 := blk_frozen BK371.out 0; have hfz60_1 := blk_frozen BK371.out 1; have hfz60_2 := blk_frozen BK371.out 2; have hfz60_3 := blk_frozen BK371.out 3; have hfz60_4 := blk_frozen BK371.out 4; have hnb61 := NB367_0.out; have hnc61 := NB0_367.out; have hcz62_0 : w57.cell? ⟨gb367, 0, none⟩ = some (.int .i64 0) := (blk_cell BK367.out 0).trans rfl; have hcz62_1 : w57.cell? ⟨gb367, 1, none⟩ = some (.int .i64 0) := (blk_cell BK367.out 1).trans rfl; have hcz62_2 : w57.cell? ⟨gb367, 2, none⟩ = some (.string (⟨#[]⟩ : ByteArray)) := (blk_cell BK367.out 2).trans rfl; have hcz62_3 : w57.cell? ⟨gb367, 3, none⟩ = some (.slice none 0 0) := (blk_cell BK367.out 3).trans rfl; have hcz62_4 : w57.cell? ⟨gb367, 4, none⟩ = some (.slice none 0 0) := (blk_cell BK367.out 4).trans rfl; have hfz62_0 := blk_frozen BK367.out 0; have hfz62_1 := blk_frozen BK367.out 1; have hfz62_2 := blk_frozen BK367.out 2; have hfz62_3 := blk_frozen BK367.out 3; have hfz62_4 := blk_frozen BK367.out 4; obtain ⟨Ao63, co63, eo63⟩ := Kd.R_slice HO_372003.out; subst eo63; obtain ⟨Ao64, co64, eo64⟩ := Kd.R_slice HO_372004.out; subst eo64))
                                refine bodyPost_ret (results_cell_row rfl _ _ gb367 25 #[.int .i64 (wrap64 ((wrap64 (t368)) - 1)), .int .i64 0, .string (⟨#[]⟩ : ByteArray), .slice Ao63 x372003_4.length co63, .slice Ao64 x372004_4.length co64] (0, 0) _ rfl (by (with_reducible repeat (first | refine blk_drewN ?_ _ | refine blk_drew ?_ | refine blk_alloc ?_ _)); refine blk_put (cs := #[.int .i64 (wrap64 ((wrap64 (t368)) - 1)), .int .i64 0, .string (⟨#[]⟩ : ByteArray), .slice Ao63 x372003_4.length co63, .slice none 0 0]) ?_ 4 _ rfl; (with_reducible repeat (first | refine blk_drewN ?_ _ | refine blk_drew ?_ | refine blk_alloc ?_ _)); refine blk_put (cs := #[.int .i64 (wrap64 ((wrap64 (t368)) - 1)), .int .i64 0, .string (⟨#[]⟩ : ByteArray), .slice none 0 0, .slice none 0 0]) ?_ 3 _ rfl; (with_reducible repeat (first | refine blk_drewN ?_ _ | refine blk_drew ?_ | refine blk_alloc ?_ _)); refine blk_put (cs := #[.int .i64 (wrap64 ((wrap64 (t368)) - 1)), .int .i64 0, .string (⟨#[]⟩ : ByteArray), .slice none 0 0, .slice none 0 0]) ?_ 2 _ rfl; (with_reducible repeat (first | refine blk_drewN ?_ _ | refine blk_drew ?_ | refine blk_alloc ?_ _)); refine blk_put (cs := #[.int .i64 (wrap64 ((wrap64 (t368)) - 1)), .int .i64 0, .string (⟨#[]⟩ : ByteArray), .slice none 0 0, .slice none 0 0]) ?_ 1 _ rfl; (with_reducible repeat (first | refine blk_drewN ?_ _ | refine blk_drew ?_ | refine blk_alloc ?_ _)); refine blk_put (cs := #[.int .i64 0, .int .i64 0, .string (⟨#[]⟩ : ByteArray), .slice none 0 0, .slice none 0 0]) ?_ 0 _ rfl; (with_reducible repeat (first | refine blk_drewN ?_ _ | refine blk_drew ?_ | refine blk_alloc ?_ _)); exact BK367.out) Tryd.underlying25 rfl (by kernel_rfl)) rfl ?_
                                exact ⟨_, _, by first | rfl | (simp [errW_none, errW_some] <;> rfl) | (simp [*, errW_none, errW_some] <;> rfl), by (with_reducible repeat (first | apply Kd.R_alloc | apply Kd.R_drewN | apply Kd.R_drew)); exact Kd.R_mono (Kd.R_far (p := ⟨gb367, 4, none⟩) (Kd.R_far (p := ⟨gb367, 3, none⟩) (Kd.R_far (p := ⟨gb367, 2, none⟩) (Kd.R_far (p := ⟨gb367, 1, none⟩) (Kd.R_far (p := ⟨gb367, 0, none⟩) (Kd.R_types HO_372003.out BK367.out (by decide)) (fun _ hk => hk.2) (.int .i64 (wrap64 ((wrap64 (t368)) - 1)))) (fun _ hk => hk.2) (.int .i64 0)) (fun _ hk => hk.2) (.string (⟨#[]⟩ : ByteArray))) (fun _ hk => hk.2) (.slice Ao63 x372003_4.length co63)) (fun _ hk => hk.2) (.slice Ao64 x372004_4.length co64)) (fun _ hk => trivial), by (with_reducible repeat (first | apply Kd.R_alloc | apply Kd.R_drewN | apply Kd.R_drew)); exact Kd.R_mono (Kd.R_far (p := ⟨gb367, 4, none⟩) (Kd.R_far (p := ⟨gb367, 3, none⟩) (Kd.R_far (p := ⟨gb367, 2, none⟩) (Kd.R_far (p := ⟨gb367, 1, none⟩) (Kd.R_far (p := ⟨gb367, 0, none⟩) (Kd.R_mono HO_372004.out (fun k_ hk => (⟨hk, hk.2.1⟩ : _ ∧ k_ ≠ gb367))) (fun _ hk => hk.2) (.int .i64 (wrap64 ((wrap64 (t368)) - 1)))) (fun _ hk => hk.2) (.int .i64 0)) (fun _ hk => hk.2) (.string (⟨#[]⟩ : ByteArray))) (fun _ hk => hk.2) (.slice Ao63 x372003_4.length co63)) (fun _ hk => hk.2) (.slice Ao64 x372004_4.length co64)) (fun _ hk => hk.1.1), by repeat (first | (with_reducible first | exact HI0.out | apply IsS54.alloc | apply IsS54.drewN | apply IsS54.drew | apply IsS54.set_1 | apply IsS54.set_2 | refine IsS54.far ?_ NB0_367.out _ | refine IsS54.far ?_ NB0_371.out _) | exact HI0.out), by repeat (first | (with_reducible first | exact HB.out | apply below_alloc | apply pw_below_drewN | apply below_drew1 | refine below_set ?_ (IsS54.ge HI0.out) | refine below_set ?_ GE367.out | refine below_set ?_ GE371.out) | exact HB.out), by repeat (first | (with_reducible first | exact HK.out | apply KeepBut.set_ | apply keep_drewN | apply keep_drew | apply keep_alloc | refine keep_far ?_ GW367.out _ | refine keep_far ?_ GW371.out _) | exact HK.out)⟩
                              · rw [if_neg c56] at H
                                have c56b0 : (t378 == 0) = false := beq_eq_false_iff_ne.mpr c56
                                have c56b1 : (t378 != 0) = true := bne_iff_ne.mpr c56
                                by_cases c65 : (wrap64 ((wrap64 (t368)) - 1)) = 6
                                · rw [if_pos c65] at H
                                  have c65b0 : ((wrap64 ((wrap64 (t368)) - 1)) == 6) = true := beq_iff_eq.mpr c65
                                  have c65b1 : ((wrap64 ((wrap64 (t368)) - 1)) != 6) = false := bne_eq_false_iff_eq.mpr c65
                                  clear c65
                                  have HC66 := Aside0.mk H
                                  clear H
                                  go_upto_region 21 with (first | ((with_reducible refine gate_callee (f := 57) rfl ?_); refine goesL_ (some 66) rfl rfl Tryd.func57 (by kernel_rfl) rfl #[.pointer (some ⟨g, 0, none⟩)] rfl (by (try simp only [List.map_toArray, List.map_cons, List.map_nil]); first | done | rfl | (simp only [List.length_drop, List.length_take]; rfl)) ?_; (with_reducible refine (keys_reader_next.calls g s0_0 x1001_4 x1002_4 t378 t379 t380 w0 _ ?side1 ?side2 A55.out).mono ?_); (case side1 => repeat (first | (with_reducible first | exact HI0.out | apply IsS54.alloc | apply IsS54.drewN | apply IsS54.drew | apply IsS54.set_1 | apply IsS54.set_2 | refine IsS54.far ?_ NB0_367.out _ | refine IsS54.far ?_ NB0_371.out _) | exact HI0.out)); (case side2 => repeat (first | (with_reducible first | exact HB.out | apply below_alloc | apply pw_below_drewN | apply below_drew1 | refine below_set ?_ (IsS54.ge HI0.out) | refine below_set ?_ GE367.out | refine below_set ?_ GE371.out) | exact HB.out)); rintro e w67 ⟨rfl, hi, hb, hk⟩; refine ⟨_, rfl, ?_⟩; have n0_ := Aside0.mk (Kd.R_mono (Kd.R_keep (IsS54.apart (show IsS54 w0 _ g s0_0 x1001_4 x1002_4 from by repeat (first | (with_reducible first | exact HI0.out | apply IsS54.alloc | apply IsS54.drewN | apply IsS54.drew | apply IsS54.set_1 | apply IsS54.set_2 | refine IsS54.far ?_ NB0_367.out _ | refine IsS54.far ?_ NB0_371.out _) | exact HI0.out)) (by (with_reducible repeat (first | apply Kd.R_alloc | apply Kd.R_drewN | apply Kd.R_drew)); exact HO_372003.out) (by decide)) hk (fun _ h => h.2)) (fun _ h => h.1)); have n1_ := Aside0.mk (Kd.R_mono (Kd.R_keep (IsS54.apart (show IsS54 w0 _ g s0_0 x1001_4 x1002_4 from by repeat (first | (with_reducible first | exact HI0.out | apply IsS54.alloc | apply IsS54.drewN | apply IsS54.drew | apply IsS54.set_1 | apply IsS54.set_2 | refine IsS54.far ?_ NB0_367.out _ | refine IsS54.far ?_ NB0_371.out _) | exact HI0.out)) (by (with_reducible repeat (first | apply Kd.R_alloc | apply Kd.R_drewN | apply Kd.R_drew)); exact HO_372004.out) (by decide)) hk (fun _ h => h.2)) (fun _ h => h.1)); have n2_ := Aside0.mk (KeepBut.blk hk (g' := gb367) (o := .cells #[.int .i64 0, .int .i64 0, .string (⟨#[]⟩ : ByteArray), .slice none 0 0, .slice none 0 0] 25 (0, 0)) (by (with_reducible repeat (first | refine blk_drewN ?_ _ | refine blk_drew ?_ | refine blk_alloc ?_ _)); exact BK367.out) NB367_0.out (by simp)); have n3_ := Aside0.mk (KeepBut.blk hk (g' := gb371) (o := .cells #[.int .i64 (wrap64 ((wrap64 (t368)) - 1)), .int .i64 0, .string (⟨#[]⟩ : ByteArray), u372003, u372004] 25 (0, 0)) (by (with_reducible repeat (first | refine blk_drewN ?_ _ | refine blk_drew ?_ | refine blk_alloc ?_ _)); exact BK371.out) NB371_0.out (by simp)); have n4_ := Aside0.mk (KeepBut.trans (by repeat (first | (with_reducible first | exact HK.out | apply KeepBut.set_ | apply keep_drewN | apply keep_drew | apply keep_alloc | refine keep_far ?_ GW367.out _ | refine keep_far ?_ GW371.out _) | exact HK.out)) hk (.inl rfl)); have n5_ := Aside0.mk (hb); have n6_ := Aside0.mk (hi); clear HO_372003; clear HO_372004; clear BK367; clear BK371; clear HK; clear HB; clear HI0; have HO_372003 := n0_; have HO_372004 := n1_; have BK367 := n2_; have BK371 := n3_; have HK := n4_; have HB := n5_; have HI0 := n6_; clear n0_ n1_ n2_ n3_ n4_ n5_ n6_; (try clear hb); (try clear hb2); (try clear hk); (try clear hi); have hnb68 := NB371_367.out; have hnc68 := NB367_371.out; have hnb69 := NB371_0.out; have hnc69 := NB0_371.out; have hcz70_0 : w67.cell? ⟨gb371, 0, none⟩ = some (.int .i64 (wrap64 ((wrap64 (t368)) - 1))) := (blk_cell BK371.out 0).trans rfl; have hcz70_1 : w67.cell? ⟨gb371, 1, none⟩ = some (.int .i64 0) := (blk_cell BK371.out 1).trans rfl; have hcz70_2 : w67.cell? ⟨gb371, 2, none⟩ = some (.string (⟨#[]⟩ : ByteArray)) := (blk_cell BK371.out 2).trans rfl; have hcz70_3 : w67.cell? ⟨gb371, 3, none⟩ = some (u372003) := (blk_cell BK371.out 3).trans rfl; have hcz70_4 : w67.cell? ⟨gb371, 4, none⟩ = some (u372004) := (blk_cell BK371.out 4).trans rfl; have hfz70_0 := blk_frozen BK371.out 0; have hfz70_1 := blk_frozen BK371.out 1; have hfz70_2 := blk_frozen BK371.out 2; have hfz70_3 := blk_frozen BK371.out 3; have hfz70_4 := blk_frozen BK371.out 4))
                                  (try simp only [u64_ones_, Act.put, List.setIfInBounds_toArray, List.set_cons_zero, List.set_cons_succ])
                                  go_cut [] (fun wc => ∃ (kq : Nat) (x1002_65 : Bool), Aside0 (keys_reader_value.j5 kq a1 s0_0 t379 x1002_65 (wrap64 ((wrap64 (t368)) - 1)) 0 (⟨#[]⟩ : ByteArray) x372003_4 x372004_4 = some (r1, r2, r3, r4, r5, r6, r7)) ∧ Aside0 (kq ≤ kj45) ∧ Aside0 (Kd.R Kd.string 9 wc w.heap.size (fun _ => True) u372003 x372003_4) ∧ Aside0 (Kd.R k25 25 wc w.heap.size (fun k_ => some k_ ≠ (u372003 : Value).ownBlock ∧ k_ ≠ gb367 ∧ k_ ≠ gb371) u372004 x372004_4) ∧ Aside0 (wc.heap[gb367]? = some (.cells #[.int .i64 0, .int .i64 0, .string (⟨#[]⟩ : ByteArray), (.slice none 0 0), (.slice none 0 0)] 25 (0, 0))) ∧ Aside0 (wc.heap[gb371]? = some (.cells #[.int .i64 (wrap64 ((wrap64 (t368)) - 1)), .int .i64 0, .string (⟨#[]⟩ : ByteArray), u372003, u372004] 25 (0, 0))) ∧ Aside0 (IsS54 w0 wc g s0_0 t379 x1002_65) ∧ Aside0 (KeepBut w wc g none) ∧ Aside0 (Below w0.heap.size w0 wc))
                                  case first =>
                                    have H := HC66.out
                                    clear HC66
                                    by_cases c71 : t380 = true
                                    · subst c71
                                      have H1 : (keys_reader_value.j5 kj45 a1 s0_0 t379 true (wrap64 ((wrap64 (t368)) - 1)) 0 (⟨#[]⟩ : ByteArray) x372003_4 x372004_4) = some (r1, r2, r3, r4, r5, r6, r7) := by rw [if_pos rfl] at H; exact H
                                      clear H
                                      have H := H1
                                      clear H1
                                      have H' := Aside0.mk H
                                      clear H
                                      obtain ⟨ASz72_0, cSz72_0, HGz72, hgz72, HSz72_0⟩ := HI0.out
                                      have hcz72_0 := cellS54_0 HGz72
                                      have hcz72_1 := cellS54_1 HGz72
                                      have hcz72_2 := cellS54_2 HGz72
                                      have hfz72_1 := blk_frozen HGz72 1
                                      have hfz72_2 := blk_frozen HGz72 2
                                      clear HGz72 hgz72
                                      go_wp2
                                      go_meet
                                      case rel => exact ⟨_, (true), H', ⟨by have := HJ3.out; have := HJ18.out; have := HJ39.out; have := HK4.out; have := HJ45.out; first | omega | exact Nat.le_refl _⟩, ⟨by (with_reducible repeat (first | apply Kd.R_alloc | apply Kd.R_drewN | apply Kd.R_drew)); exact Kd.R_mono (Kd.R_far (p := ⟨g, 2, none⟩) (IsS54.apart HI0.out HO_372003.out (by decide)) (fun _ hk => hk.2) (.bool true)) (fun _ hk => trivial)⟩, ⟨by (with_reducible repeat (first | apply Kd.R_alloc | apply Kd.R_drewN | apply Kd.R_drew)); exact Kd.R_mono (Kd.R_far (p := ⟨g, 2, none⟩) (IsS54.apart HI0.out HO_372004.out (by decide)) (fun _ hk => hk.2) (.bool true)) (fun _ hk => ⟨hk.1.1, ⟨hk.1.2.1, hk.1.2.2⟩⟩)⟩, ⟨by (with_reducible repeat (first | refine blk_drewN ?_ _ | refine blk_drew ?_ | refine blk_alloc ?_ _)); refine blk_far ?_ NB367_0.out _; (with_reducible repeat (first | refine blk_drewN ?_ _ | refine blk_drew ?_ | refine blk_alloc ?_ _)); exact BK367.out⟩, ⟨by (with_reducible repeat (first | refine blk_drewN ?_ _ | refine blk_drew ?_ | refine blk_alloc ?_ _)); refine blk_far ?_ NB371_0.out _; (with_reducible repeat (first | refine blk_drewN ?_ _ | refine blk_drew ?_ | refine blk_alloc ?_ _)); exact BK371.out⟩, ⟨by repeat (first | (with_reducible first | exact HI0.out | apply IsS54.alloc | apply IsS54.drewN | apply IsS54.drew | apply IsS54.set_1 | apply IsS54.set_2 | refine IsS54.far ?_ NB0_367.out _ | refine IsS54.far ?_ NB0_371.out _) | exact HI0.out)⟩, ⟨by repeat (first | (with_reducible first | exact HK.out | apply KeepBut.set_ | apply keep_drewN | apply keep_drew | apply keep_alloc | refine keep_far ?_ GW367.out _ | refine keep_far ?_ GW371.out _) | exact HK.out)⟩, ⟨by repeat (first | (with_reducible first | exact HB.out | apply below_alloc | apply pw_below_drewN | apply below_drew1 | refine below_set ?_ (IsS54.ge HI0.out) | refine below_set ?_ GE367.out | refine below_set ?_ GE371.out) | exact HB.out)⟩⟩
                                    · replace c71 := Bool.eq_false_iff.mpr c71
                                      subst c71
                                      have H1 : (keys_reader_value.j5 kj45 a1 s0_0 t379 (t378 != 1) (wrap64 ((wrap64 (t368)) - 1)) 0 (⟨#[]⟩ : ByteArray) x372003_4 x372004_4) = some (r1, r2, r3, r4, r5, r6, r7) := by rw [if_neg (show ¬ (false = true) by decide)] at H; exact H
                                      clear H
                                      have H := H1
                                      clear H1
                                      have H' := Aside0.mk H
                                      clear H
                                      obtain ⟨ASz73_0, cSz73_0, HGz73, hgz73, HSz73_0⟩ := HI0.out
                                      have hcz73_0 := cellS54_0 HGz73
                                      have hcz73_1 := cellS54_1 HGz73
                                      have hcz73_2 := cellS54_2 HGz73
                                      have hfz73_1 := blk_frozen HGz73 1
                                      have hfz73_2 := blk_frozen HGz73 2
                                      clear HGz73 hgz73
                                      go_wp2
                                      go_meet
                                      case rel => exact ⟨_, ((t378 != 1)), H', ⟨by have := HJ3.out; have := HJ18.out; have := HJ39.out; have := HK4.out; have := HJ45.out; first | omega | exact Nat.le_refl _⟩, ⟨by (with_reducible repeat (first | apply Kd.R_alloc | apply Kd.R_drewN | apply Kd.R_drew)); exact Kd.R_mono (Kd.R_far (p := ⟨g, 2, none⟩) (IsS54.apart HI0.out HO_372003.out (by decide)) (fun _ hk => hk.2) (.bool (t378 != 1))) (fun _ hk => trivial)⟩, ⟨by (with_reducible repeat (first | apply Kd.R_alloc | apply Kd.R_drewN | apply Kd.R_drew)); exact Kd.R_mono (Kd.R_far (p := ⟨g, 2, none⟩) (IsS54.apart HI0.out HO_372004.out (by decide)) (fun _ hk => hk.2) (.bool (t378 != 1))) (fun _ hk => ⟨hk.1.1, ⟨hk.1.2.1, hk.1.2.2⟩⟩)⟩, ⟨by (with_reducible repeat (first | refine blk_drewN ?_ _ | refine blk_drew ?_ | refine blk_alloc ?_ _)); refine blk_far ?_ NB367_0.out _; (with_reducible repeat (first | refine blk_drewN ?_ _ | refine blk_drew ?_ | refine blk_alloc ?_ _)); exact BK367.out⟩, ⟨by (with_reducible repeat (first | refine blk_drewN ?_ _ | refine blk_drew ?_ | refine blk_alloc ?_ _)); refine blk_far ?_ NB371_0.out _; (with_reducible repeat (first | refine blk_drewN ?_ _ | refine blk_drew ?_ | refine blk_alloc ?_ _)); exact BK371.out⟩, ⟨by repeat (first | (with_reducible first | exact HI0.out | apply IsS54.alloc | apply IsS54.drewN | apply IsS54.drew | apply IsS54.set_1 | apply IsS54.set_2 | refine IsS54.far ?_ NB0_367.out _ | refine IsS54.far ?_ NB0_371.out _) | exact HI0.out)⟩, ⟨by repeat (first | (with_reducible first | exact HK.out | apply KeepBut.set_ | apply keep_drewN | apply keep_drew | apply keep_alloc | refine keep_far ?_ GW367.out _ | refine keep_far ?_ GW371.out _) | exact HK.out)⟩, ⟨by repeat (first | (with_reducible first | exact HB.out | apply below_alloc | apply pw_below_drewN | apply below_drew1 | refine below_set ?_ (IsS54.ge HI0.out) | refine below_set ?_ GE367.out | refine below_set ?_ GE371.out) | exact HB.out)⟩⟩
                                  case rest =>
                                    clear HC66
                                    try clear c1
                                    try clear c2
                                    try clear p2
                                    try clear c3
                                    try clear c4
                                    try clear c5
                                    try clear c6
                                    try clear p6
                                    try clear c7
                                    try clear c8
                                    try clear c9
                                    try clear c11
                                    try clear c11b0
                                    try clear c11b1
                                    try clear c12
                                    try clear c12b0
                                    try clear c13
                                    try clear c14
                                    try clear c16
                                    try clear c17
                                    try clear c20
                                    try clear c22
                                    try clear c22b0
                                    try clear c22b1
                                    try clear c24
                                    try clear c25
                                    try clear c29
                                    try clear c31
                                    try clear c31b0
                                    try clear c31b1
                                    try clear c33
                                    try clear c34
                                    try clear c38
                                    try clear c41
                                    try clear c42
                                    try clear c44
                                    try clear c44b0
                                    try clear c44b1
                                    try clear c45
                                    try clear c47
                                    try clear c50
                                    try clear c51
                                    try clear c54
                                    try clear c56
                                    try clear c56b0
                                    try clear c56b1
                                    try clear c57
                                    try clear c58
                                    try clear c59
                                    try clear c61
                                    try clear p64
                                    try clear c65
                                    try clear c65b0
                                    try clear c65b1
                                    try clear c68
                                    try clear c69
                                    try clear c71
                                    try clear hcz10_0
                                    try clear hcz10_1
                                    try clear hcz10_2
                                    try clear hcz10_3
                                    try clear hcz10_4
                                    try clear hcz15_0
                                    try clear hcz15_1
                                    try clear hcz15_2
                                    try clear hcz15_3
                                    try clear hcz15_4
                                    try clear hcz18_0
                                    try clear hcz18_1
                                    try clear hcz18_2
                                    try clear hcz18_3
                                    try clear hcz18_4
                                    try clear hcz21_0
                                    try clear hcz21_1
                                    try clear hcz21_2
                                    try clear hcz26_0
                                    try clear hcz26_1
                                    try clear hcz26_2
                                    try clear hcz26_3
                                    try clear hcz26_4
                                    try clear hcz28_0
                                    try clear hcz28_1
                                    try clear hcz28_2
                                    try clear hcz28_3
                                    try clear hcz28_4
                                    try clear hcz30_0
                                    try clear hcz30_1
                                    try clear hcz30_2
                                    try clear hcz30_3
                                    try clear hcz30_4
                                    try clear hcz35_0
                                    try clear hcz35_1
                                    try clear hcz35_2
                                    try clear hcz35_3
                                    try clear hcz35_4
                                    try clear hcz37_0
                                    try clear hcz37_1
                                    try clear hcz37_2
                                    try clear hcz37_3
                                    try clear hcz37_4
                                    try clear hcz39_0
                                    try clear hcz39_1
                                    try clear hcz39_2
                                    try clear hcz39_3
                                    try clear hcz39_4
                                    try clear hcz43_0
                                    try clear hcz43_1
                                    try clear hcz43_2
                                    try clear hcz43_3
                                    try clear hcz43_4
                                    try clear hcz48_0
                                    try clear hcz48_1
                                    try clear hcz48_2
                                    try clear hcz49_0
                                    try clear hcz49_1
                                    try clear hcz49_2
                                    try clear hcz52_0
                                    try clear hcz52_1
                                    try clear hcz52_2
                                    try clear hcz52_3
                                    try clear hcz52_4
                                    try clear hcz60_0
                                    try clear hcz60_1
                                    try clear hcz60_2
                                    try clear hcz60_3
                                    try clear hcz60_4
                                    try clear hcz62_0
                                    try clear hcz62_1
                                    try clear hcz62_2
                                    try clear hcz62_3
                                    try clear hcz62_4
                                    try clear hcz70_0
                                    try clear hcz70_1
                                    try clear hcz70_2
                                    try clear hcz70_3
                                    try clear hcz70_4
                                    try clear hcz72_0
                                    try clear hcz72_1
                                    try clear hcz72_2
                                    try clear hcz73_0
                                    try clear hcz73_1
                                    try clear hcz73_2
                                    try clear hfz10_0
                                    try clear hfz10_1
                                    try clear hfz10_2
                                    try clear hfz10_3
                                    try clear hfz10_4
                                    try clear hfz15_0
                                    try clear hfz15_1
                                    try clear hfz15_2
                                    try clear hfz15_3
                                    try clear hfz15_4
                                    try clear hfz18_0
                                    try clear hfz18_1
                                    try clear hfz18_2
                                    try clear hfz18_3
                                    try clear hfz18_4
                                    try clear hfz21_1
                                    try clear hfz21_2
                                    try clear hfz26_0
                                    try clear hfz26_1
                                    try clear hfz26_2
                                    try clear hfz26_3
                                    try clear hfz26_4
                                    try clear hfz28_0
                                    try clear hfz28_1
                                    try clear hfz28_2
                                    try clear hfz28_3
                                    try clear hfz28_4
                                    try clear hfz30_0
                                    try clear hfz30_1
                                    try clear hfz30_2
                                    try clear hfz30_3
                                    try clear hfz30_4
                                    try clear hfz35_0
                                    try clear hfz35_1
                                    try clear hfz35_2
                                    try clear hfz35_3
                                    try clear hfz35_4
                                    try clear hfz37_0
                                    try clear hfz37_1
                                    try clear hfz37_2
                                    try clear hfz37_3
                                    try clear hfz37_4
                                    try clear hfz39_0
                                    try clear hfz39_1
                                    try clear hfz39_2
                                    try clear hfz39_3
                                    try clear hfz39_4
                                    try clear hfz43_0
                                    try clear hfz43_1
                                    try clear hfz43_2
                                    try clear hfz43_3
                                    try clear hfz43_4
                                    try clear hfz48_1
                                    try clear hfz48_2
                                    try clear hfz49_1
                                    try clear hfz49_2
                                    try clear hfz52_0
                                    try clear hfz52_1
                                    try clear hfz52_2
                                    try clear hfz52_3
                                    try clear hfz52_4
                                    try clear hfz60_0
                                    try clear hfz60_1
                                    try clear hfz60_2
                                    try clear hfz60_3
                                    try clear hfz60_4
                                    try clear hfz62_0
                                    try clear hfz62_1
                                    try clear hfz62_2
                                    try clear hfz62_3
                                    try clear hfz62_4
                                    try clear hfz70_0
                                    try clear hfz70_1
                                    try clear hfz70_2
                                    try clear hfz70_3
                                    try clear hfz70_4
                                    try clear hfz72_1
                                    try clear hfz72_2
                                    try clear hfz73_1
                                    try clear hfz73_2
                                    try clear p2
                                    try clear p6
                                    obtain ⟨kq, x1002_65, HA, HJ65, HO_372003, HO_372004, BK367, BK371, HI0, HK, HB⟩ := hcut
                                    cases kq with
                                    | zero => exact absurd HA.out (by simp [keys_reader_value.j5])
                                    | succ kj65 =>
                                      have H := HA.out
                                      clear HA
                                      simp only [keys_reader_value.j5] at H
                                      replace H := Option.bind_eq_some_iff.mp H
                                      obtain ⟨⟨t381, t382, t383⟩, A740, H⟩ := H
                                      replace H : (if x372003_4.length < 8796093022208 then ((some (x372003_4 ++ [t381] : List ByteArray)).bind fun y384 => (if t383 = true then (keys_reader_value.l0 kj65 a1 s0_0 t382 t383 (wrap64 ((wrap64 (t368)) - 1)) 0 (⟨#[]⟩ : ByteArray) y384 x372004_4) else ((keys_reader_value.f kj65 s0_0 t382 t383 (wrap64 (a1 - 1))).bind fun bt387 => (if x372004_4.length < 1759218604441 then (keys_reader_value.l0 kj65 a1 s0_0 bt387.2.2.2.2.2.1 bt387.2.2.2.2.2.2 (wrap64 ((wrap64 (t368)) - 1)) 0 (⟨#[]⟩ : ByteArray) y384 (x372004_4 ++ [(⟨bt387.1, bt387.2.1, bt387.2.2.1, bt387.2.2.2.1, bt387.2.2.2.2.1⟩ : S25)])) else (none))))) else (none)) = some (r1, r2, r3, r4, r5, r6, r7) := H
                                      have A74 := Aside0.mk A740
                                      clear A740
                                      by_cases c75 : x372003_4.length < 8796093022208
                                      · rw [if_pos c75] at H
                                        have LMc75 := Aside0.mk c75
                                        clear c75
                                        obtain ⟨y384, hy384⟩ : ∃ y_ : List ByteArray, y_ = (x372003_4 ++ [t381]) := ⟨_, rfl⟩
                                        replace H : (if t383 = true then (keys_reader_value.l0 kj65 a1 s0_0 t382 t383 (wrap64 ((wrap64 (t368)) - 1)) 0 (⟨#[]⟩ : ByteArray) y384 x372004_4) else ((keys_reader_value.f kj65 s0_0 t382 t383 (wrap64 (a1 - 1))).bind fun bt387 => (if x372004_4.length < 1759218604441 then (keys_reader_value.l0 kj65 a1 s0_0 bt387.2.2.2.2.2.1 bt387.2.2.2.2.2.2 (wrap64 ((wrap64 (t368)) - 1)) 0 (⟨#[]⟩ : ByteArray) y384 (x372004_4 ++ [(⟨bt387.1, bt387.2.1, bt387.2.2.1, bt387.2.2.2.1, bt387.2.2.2.2.1⟩ : S25)])) else (none)))) = some (r1, r2, r3, r4, r5, r6, r7) := by first | (rw [hy384]; with_reducible exact H) | (have H2_ := (Option.bind_some _ _).symm.trans H; rw [hy384]; with_reducible exact H2_) | (have H2_ := (Option.bind_some _ _).symm.trans H; with_reducible exact H2_) | with_reducible exact H | (rw [hy384]; exact H) | exact H
                                        have Ny384 := Aside0.mk hy384
                                        clear hy384
                                        by_cases c76 : t383 = true
                                        · subst c76
                                          have H1 : (keys_reader_value.l0 kj65 a1 s0_0 t382 true (wrap64 ((wrap64 (t368)) - 1)) 0 (⟨#[]⟩ : ByteArray) y384 x372004_4) = some (r1, r2, r3, r4, r5, r6, r7) := by rw [if_pos rfl] at H; exact H
                                          clear H
                                          have H := H1
                                          clear H1
                                          have H' := Aside0.mk H
                                          clear H
                                          try go_wp2
                                          have n0_ := Aside0.mk (Kd.R_drew HO_372003.out)
                                          have n1_ := Aside0.mk (Kd.R_drew HO_372004.out)
                                          have n2_ := Aside0.mk (blk_drew BK367.out)
                                          have n3_ := Aside0.mk (blk_drew BK371.out)
                                          have n4_ := Aside0.mk (IsS54.drew HI0.out)
                                          have n5_ := Aside0.mk (keep_drew HK.out)
                                          have n6_ := Aside0.mk (below_drew1 HB.out)
                                          clear HO_372003
                                          clear HO_372004
                                          clear BK367
                                          clear BK371
                                          clear HI0
                                          clear HK
                                          clear HB
                                          have HO_372003 := n0_
                                          have HO_372004 := n1_
                                          have BK367 := n2_
                                          have BK371 := n3_
                                          have HI0 := n4_
                                          have HK := n5_
                                          have HB := n6_
                                          clear n0_ n1_ n2_ n3_ n4_ n5_ n6_
                                          refine start_ (n := 8) (S := fun w' => w'.cell? ⟨gb371, 0, none⟩ = some (.int .i64 (wrap64 ((wrap64 (t368)) - 1))) ∧ w'.cell? ⟨gb371, 1, none⟩ = some (.int .i64 0) ∧ w'.cell? ⟨gb371, 2, none⟩ = some (.string (⟨#[]⟩ : ByteArray)) ∧ w'.cell? ⟨gb371, 3, none⟩ = some (u372003) ∧ w'.cell? ⟨gb371, 4, none⟩ = some (u372004)) (ds := [7]) #[false, false, false, false, false, false, false, false] (by kernel_rfl) rfl rfl ⟨(blk_cell BK371.out 0).trans rfl, (blk_cell BK371.out 1).trans rfl, (blk_cell BK371.out 2).trans rfl, (blk_cell BK371.out 3).trans rfl, (blk_cell BK371.out 4).trans rfl⟩ (fun hHeld => ?_); refine with_tabW keys_reader_value.tab22 keys_reader_value.bits22 (fun HT_ HW_ => ?_)
                                          generalize wc.drew = w77 at HO_372003 HO_372004 BK367 BK371 HI0 HK HB hHeld ⊢
                                          refine pure_ (i := 0) (N := some 83) (v := ?_) (a' := ?_) #[true, false, false, false, false, false, false, false] rfl rfl (any_of HT_.out (by kernel_rfl)) (fun _ _ _ h => h) (Or.inl ⟨by rfl, ?_⟩) ?_ ?_
                                          rotate_left
                                          · intro w'
                                            go_simp
                                            with_reducible rfl
                                          rotate_left
                                          · simp only [u64_ones_, Act.put, List.setIfInBounds_toArray, List.set_cons_zero, List.set_cons_succ, i64_w, i32_w]
                                            rfl
                                          refine pure_ (i := 2) (N := some 85) (v := ?_) (a' := ?_) #[true, false, true, false, false, false, false, false] rfl rfl (any_of HT_.out (by kernel_rfl)) (fun _ _ _ h => h) (Or.inl ⟨by rfl, ?_⟩) ?_ ?_
                                          rotate_left
                                          · intro w'
                                            go_simp
                                            with_reducible rfl
                                          rotate_left
                                          · simp only [u64_ones_, Act.put, List.setIfInBounds_toArray, List.set_cons_zero, List.set_cons_succ, i64_w, i32_w]
                                            rfl
                                          refine take_ (i := 1) (N := some 84) (v := ?_) (a' := ?_) #[true, true, true, false, false, false, false, false] rfl rfl (take_ofW HT_.out HW_.out (by kernel_rfl)) (fun _ _ _ h => h) (Or.inl ⟨by rfl, ?_⟩) hHeld ?_ ?_
                                          rotate_left
                                          · rintro w' ⟨s0, s1, s2, s3, s4⟩
                                            go_simp
                                            with_reducible rfl
                                          rotate_left
                                          · simp only [u64_ones_, Act.put, List.setIfInBounds_toArray, List.set_cons_zero, List.set_cons_succ, i64_w, i32_w]
                                            rfl
                                          refine one_ (i := 3) (N := some 86) #[true, true, true, true, false, false, false, false] rfl rfl (one_of HT_.out (by kernel_rfl)) (by decide) (fun K hK => ?_)
                                          refine goes_ Tryd.func59 (by kernel_rfl) rfl #[.pointer (some ⟨g, 0, none⟩)] (by rfl) rfl rfl (by (try simp only [List.map_toArray, List.map_cons, List.map_nil]); first | done | rfl | (simp only [List.length_drop, List.length_take]; rfl)) ?_
                                          with_reducible refine (keys_reader_text.calls kj65 g s0_0 t379 x1002_65 t381 t382 true w0 _ ?side1 ?side2 A74.out).mono ?_
                                          (case side1 => repeat (first | (with_reducible first | exact HI0.out | apply IsS54.alloc | apply IsS54.drewN | apply IsS54.drew | apply IsS54.set_1 | apply IsS54.set_2 | refine IsS54.far ?_ NB0_367.out _ | refine IsS54.far ?_ NB0_371.out _) | exact HI0.out))
                                          (case side2 => repeat (first | (with_reducible first | exact HB.out | apply below_alloc | apply pw_below_drewN | apply below_drew1 | refine below_set ?_ (IsS54.ge HI0.out) | refine below_set ?_ GE367.out | refine below_set ?_ GE371.out) | exact HB.out))
                                          rintro e w78 ⟨rfl, hi, hb, hk⟩
                                          refine ⟨_, rfl, ?_⟩
                                          have n0_ := Aside0.mk (Kd.R_mono (Kd.R_keep (IsS54.apart (show IsS54 w0 _ g s0_0 t379 x1002_65 from by repeat (first | (with_reducible first | exact HI0.out | apply IsS54.alloc | apply IsS54.drewN | apply IsS54.drew | apply IsS54.set_1 | apply IsS54.set_2 | refine IsS54.far ?_ NB0_367.out _ | refine IsS54.far ?_ NB0_371.out _) | exact HI0.out)) (by (with_reducible repeat (first | apply Kd.R_alloc | apply Kd.R_drewN | apply Kd.R_drew)); exact HO_372003.out) (by decide)) hk (fun _ h => h.2)) (fun _ h => h.1))
                                          have n1_ := Aside0.mk (Kd.R_mono (Kd.R_keep (IsS54.apart (show IsS54 w0 _ g s0_0 t379 x1002_65 from by repeat (first | (with_reducible first | exact HI0.out | apply IsS54.alloc | apply IsS54.drewN | apply IsS54.drew | apply IsS54.set_1 | apply IsS54.set_2 | refine IsS54.far ?_ NB0_367.out _ | refine IsS54.far ?_ NB0_371.out _) | exact HI0.out)) (by (with_reducible repeat (first | apply Kd.R_alloc | apply Kd.R_drewN | apply Kd.R_drew)); exact HO_372004.out) (by decide)) hk (fun _ h => h.2)) (fun _ h => h.1))
                                          have n2_ := Aside0.mk (KeepBut.blk hk (g' := gb367) (o := .cells #[.int .i64 0, .int .i64 0, .string (⟨#[]⟩ : ByteArray), .slice none 0 0, .slice none 0 0] 25 (0, 0)) (by (with_reducible repeat (first | refine blk_drewN ?_ _ | refine blk_drew ?_ | refine blk_alloc ?_ _)); exact BK367.out) NB367_0.out (by simp))
                                          have n3_ := Aside0.mk (KeepBut.blk hk (g' := gb371) (o := .cells #[.int .i64 (wrap64 ((wrap64 (t368)) - 1)), .int .i64 0, .string (⟨#[]⟩ : ByteArray), u372003, u372004] 25 (0, 0)) (by (with_reducible repeat (first | refine blk_drewN ?_ _ | refine blk_drew ?_ | refine blk_alloc ?_ _)); exact BK371.out) NB371_0.out (by simp))
                                          have n4_ := Aside0.mk (KeepBut.trans (by repeat (first | (with_reducible first | exact HK.out | apply KeepBut.set_ | apply keep_drewN | apply keep_drew | apply keep_alloc | refine keep_far ?_ GW367.out _ | refine keep_far ?_ GW371.out _) | exact HK.out)) hk (.inl rfl))
                                          have n5_ := Aside0.mk (hb)
                                          have n6_ := Aside0.mk (hi)
                                          clear HO_372003
                                          clear HO_372004
                                          clear BK367
                                          clear BK371
                                          clear HK
                                          clear HB
                                          clear HI0
                                          have HO_372003 := n0_
                                          have HO_372004 := n1_
                                          have BK367 := n2_
                                          have BK371 := n3_
                                          have HK := n4_
                                          have HB := n5_
                                          have HI0 := n6_
                                          clear n0_ n1_ n2_ n3_ n4_ n5_ n6_
                                          (try clear hb)
                                          (try clear hb2)
                                          (try clear hk)
                                          (try clear hi)
                                          refine hK.out _ _ ⟨(blk_cell BK371.out 0).trans rfl, (blk_cell BK371.out 1).trans rfl, (blk_cell BK371.out 2).trans rfl, (blk_cell BK371.out 3).trans rfl, (blk_cell BK371.out 4).trans rfl⟩ (fun hHeld => ?_)
                                          clear hK K
                                          refine norm_ (a' := ?_) ?_ ?_
                                          rotate_left
                                          · show Act.put _ (some 86) _ = _
                                            simp only [u64_ones_, Act.put, List.setIfInBounds_toArray, List.set_cons_zero, List.set_cons_succ, i64_w, i32_w]
                                            rfl
                                          refine one_ (i := 4) (N := some 87) #[true, true, true, true, true, false, false, false] rfl rfl (one_of HT_.out (by kernel_rfl)) (by decide) (fun K hK => ?_)
                                          refine value_ (w1 := ?_) (v := ?_) (by rfl) rfl ?_ ?_
                                          rotate_left 2
                                          · go_simp
                                            constructor
                                            · rfl
                                            · rfl
                                          refine hK.out _ _ ⟨(blk_cell (blk_alloc BK371.out _) 0).trans rfl, (blk_cell (blk_alloc BK371.out _) 1).trans rfl, (blk_cell (blk_alloc BK371.out _) 2).trans rfl, (blk_cell (blk_alloc BK371.out _) 3).trans rfl, (blk_cell (blk_alloc BK371.out _) 4).trans rfl⟩ (fun hHeld => ?_)
                                          clear hK K
                                          refine norm_ (a' := ?_) ?_ ?_
                                          rotate_left
                                          · show Act.put _ (some 87) _ = _
                                            simp only [u64_ones_, Act.put, List.setIfInBounds_toArray, List.set_cons_zero, List.set_cons_succ, i64_w, i32_w]
                                            rfl
                                          refine one_ (i := 5) (N := some 88) #[true, true, true, true, true, true, false, false] rfl rfl (one_of HT_.out (by kernel_rfl)) (by decide) (fun K hK => ?_)
                                          refine Kd.R_append_step Kd.string w.heap.size (by rfl) (.tmp 84) (.tmp 87) 22 9 (.string ⟨#[]⟩) 16 rfl Tryd.underlying22 keys_reader_value.info9 rfl (by decide) (by omega) u372003 x372003_4 t381 [.string t381] (fun _ => True) (fun _ => False) rfl rfl ?aP (fun _ hk => hk.elim) ?aF ?aO (Below.refl _ _) ?aS ?aL ?_
                                          (case aP => exact rfl)
                                          (case aF => exact (fun _ _ => trivial))
                                          (case aO => exact (by (with_reducible repeat (first | apply Kd.R_alloc | apply Kd.R_drewN | apply Kd.R_drew)); exact HO_372003.out))
                                          (case aS => exact (keep_size (w := w) (g := g) (row := none) (by repeat (first | (with_reducible first | exact HK.out | apply KeepBut.set_ | apply keep_drewN | apply keep_drew | apply keep_alloc | refine keep_far ?_ GW367.out _ | refine keep_far ?_ GW371.out _) | exact HK.out))))
                                          (case aL => have := LMc75.out; omega)
                                          intro v385 w79 ho hb hg hat
                                          rw [← Ny384.out] at ho
                                          have n0_ := Aside0.mk (Kd.R_after (ok := (fun k_ => k_ ≠ gb367 ∧ k_ ≠ gb371)) (by (with_reducible repeat (first | apply Kd.R_alloc | apply Kd.R_drewN | apply Kd.R_drew)); exact Kd.R_mono HO_372004.out (fun _ hk => ⟨⟨hk.2.1, hk.2.2⟩, hk.1⟩)) hg hat)
                                          have n1_ := Aside0.mk (blk_grown (g := gb367) (o := .cells #[.int .i64 0, .int .i64 0, .string (⟨#[]⟩ : ByteArray), .slice none 0 0, .slice none 0 0] 25 (0, 0)) (by (with_reducible repeat (first | refine blk_drewN ?_ _ | refine blk_drew ?_ | refine blk_alloc ?_ _)); exact BK367.out) hg (Kd.R_ne HO_372003.out BK367.out (by decide)))
                                          have n2_ := Aside0.mk (blk_grown (g := gb371) (o := .cells #[.int .i64 (wrap64 ((wrap64 (t368)) - 1)), .int .i64 0, .string (⟨#[]⟩ : ByteArray), u372003, u372004] 25 (0, 0)) (by (with_reducible repeat (first | refine blk_drewN ?_ _ | refine blk_drew ?_ | refine blk_alloc ?_ _)); exact BK371.out) hg (Kd.R_ne HO_372003.out BK371.out (by decide)))
                                          have n3_ := Aside0.mk (IsS54.grown (by repeat (first | (with_reducible first | exact HI0.out | apply IsS54.alloc | apply IsS54.drewN | apply IsS54.drew | apply IsS54.set_1 | apply IsS54.set_2 | refine IsS54.far ?_ NB0_367.out _ | refine IsS54.far ?_ NB0_371.out _) | exact HI0.out)) hg (IsS54.own_ne HI0.out HO_372003.out (by decide)))
                                          have n4_ := Aside0.mk (below_weaken (by repeat (first | (with_reducible first | exact HB.out | apply below_alloc | apply pw_below_drewN | apply below_drew1 | refine below_set ?_ (IsS54.ge HI0.out) | refine below_set ?_ GE367.out | refine below_set ?_ GE371.out) | exact HB.out)) HL.out hb)
                                          have n5_ := Aside0.mk (KeepBut.trans (by repeat (first | (with_reducible first | exact HK.out | apply KeepBut.set_ | apply keep_drewN | apply keep_drew | apply keep_alloc | refine keep_far ?_ GW367.out _ | refine keep_far ?_ GW371.out _) | exact HK.out)) (KeepBut.of_grown hg g) (Kd.R_base2 HO_372003.out))
                                          have n6_ := Aside0.mk (ho)
                                          clear HO_372004
                                          clear BK367
                                          clear BK371
                                          clear HI0
                                          clear HB
                                          clear HK
                                          clear HO_372003
                                          have HO_372004 := n0_
                                          have BK367 := n1_
                                          have BK371 := n2_
                                          have HI0 := n3_
                                          have HB := n4_
                                          have HK := n5_
                                          have HO386 := n6_
                                          clear n0_ n1_ n2_ n3_ n4_ n5_ n6_
                                          clear ho hb hg hat
                                          obtain ⟨Ao80, co80, eo80⟩ := Kd.R_slice HO386.out
                                          (first | subst eo80 | (injection eo80 with f1_ f2_ f3_; have f4_ := f1_.symm; have f5_ := f3_.symm; clear f1_ f2_ f3_; subst f4_; subst f5_))
                                          refine hK.out _ _ ⟨(blk_cell BK371.out 0).trans rfl, (blk_cell BK371.out 1).trans rfl, (blk_cell BK371.out 2).trans rfl, (blk_cell BK371.out 3).trans rfl, (blk_cell BK371.out 4).trans rfl⟩ (fun hHeld => ?_)
                                          clear hK K
                                          refine norm_ (a' := ?_) ?_ ?_
                                          rotate_left
                                          · show Act.put _ (some 88) _ = _
                                            simp only [u64_ones_, Act.put, List.setIfInBounds_toArray, List.set_cons_zero, List.set_cons_succ, i64_w, i32_w]
                                            rfl
                                          refine pure_ (i := 6) (N := some 89) (v := ?_) (a' := ?_) #[true, true, true, true, true, true, true, false] rfl rfl (any_of HT_.out (by kernel_rfl)) (fun _ _ _ h => h) (Or.inl ⟨by rfl, ?_⟩) ?_ ?_
                                          rotate_left
                                          · intro w'
                                            go_simp
                                            with_reducible rfl
                                          rotate_left
                                          · simp only [u64_ones_, Act.put, List.setIfInBounds_toArray, List.set_cons_zero, List.set_cons_succ, i64_w, i32_w]
                                            rfl
                                          refine last_ (i := 7) (N := none) #[true, true, true, true, true, true, true, true] rfl rfl (one_of HT_.out (by kernel_rfl)) (by decide) (fun K hK => ?_)
                                          have hs81 : w79.cell? ⟨gb371, 3, none⟩ = some (u372003) := (blk_cell BK371.out 3).trans rfl
                                          have hfs81 := blk_frozen BK371.out 3
                                          have hns81_0 := NB367_371.out
                                          have hms81_0 := NB371_367.out
                                          refine skip_ (w1 := ?_) (by rfl) rfl ?_ ?_
                                          rotate_left
                                          · go_simp
                                            rfl
                                          refine hK.out _ _ ?_
                                          clear hK K
                                          refine done_ (done_of HT_.out (by kernel_rfl)) ?_
                                          obtain ⟨ASz82_0, cSz82_0, HGz82, hgz82, HSz82_0⟩ := HI0.out
                                          have hcz82_0 := cellS54_0 HGz82
                                          have hcz82_1 := cellS54_1 HGz82
                                          have hcz82_2 := cellS54_2 HGz82
                                          have hfz82_1 := blk_frozen HGz82 1
                                          have hfz82_2 := blk_frozen HGz82 2
                                          clear HGz82 hgz82
                                          try go_wp2
                                          go_roundg kj65
                                          case measure => have := HJ3.out; have := HJ18.out; have := HJ39.out; have := HK4.out; have := HJ45.out; have := HJ65.out; omega
                                          case rel => exact ⟨(t382), (true), (y384), (x372004_4), (.slice Ao80 y384.length co80), (u372004), H', ⟨by have := HJ3.out; have := HJ18.out; have := HJ39.out; have := HK4.out; have := HJ45.out; have := HJ65.out; omega⟩, ⟨by (with_reducible repeat (first | apply Kd.R_alloc | apply Kd.R_drewN | apply Kd.R_drew)); exact Kd.R_mono (Kd.R_far (p := ⟨gb371, 3, none⟩) (Kd.R_types HO386.out BK371.out (by decide)) (fun _ hk => hk.2) (.slice Ao80 y384.length co80)) (fun _ hk => trivial)⟩, ⟨by (with_reducible repeat (first | apply Kd.R_alloc | apply Kd.R_drewN | apply Kd.R_drew)); exact Kd.R_mono (Kd.R_far (p := ⟨gb371, 3, none⟩) (Kd.R_mono HO_372004.out (fun k_ hk => (⟨hk, hk.1.2⟩ : _ ∧ k_ ≠ gb371))) (fun _ hk => hk.2) (.slice Ao80 y384.length co80)) (fun _ hk => ⟨hk.1.2, ⟨hk.1.1.1, hk.1.1.2⟩⟩)⟩, ⟨by (with_reducible repeat (first | refine blk_drewN ?_ _ | refine blk_drew ?_ | refine blk_alloc ?_ _)); refine blk_far ?_ NB367_371.out _; (with_reducible repeat (first | refine blk_drewN ?_ _ | refine blk_drew ?_ | refine blk_alloc ?_ _)); exact BK367.out⟩, ⟨by (with_reducible repeat (first | refine blk_drewN ?_ _ | refine blk_drew ?_ | refine blk_alloc ?_ _)); refine blk_put (cs := #[.int .i64 (wrap64 ((wrap64 (t368)) - 1)), .int .i64 0, .string (⟨#[]⟩ : ByteArray), u372003, u372004]) ?_ 3 _ rfl; (with_reducible repeat (first | refine blk_drewN ?_ _ | refine blk_drew ?_ | refine blk_alloc ?_ _)); exact BK371.out⟩, ⟨by repeat (first | (with_reducible first | exact HI0.out | apply IsS54.alloc | apply IsS54.drewN | apply IsS54.drew | apply IsS54.set_1 | apply IsS54.set_2 | refine IsS54.far ?_ NB0_367.out _ | refine IsS54.far ?_ NB0_371.out _) | exact HI0.out)⟩, ⟨by repeat (first | (with_reducible first | exact HK.out | apply KeepBut.set_ | apply keep_drewN | apply keep_drew | apply keep_alloc | refine keep_far ?_ GW367.out _ | refine keep_far ?_ GW371.out _) | exact HK.out)⟩, ⟨by repeat (first | (with_reducible first | exact HB.out | apply below_alloc | apply pw_below_drewN | apply below_drew1 | refine below_set ?_ (IsS54.ge HI0.out) | refine below_set ?_ GE367.out | refine below_set ?_ GE371.out) | exact HB.out)⟩⟩
                                        · replace c76 := Bool.eq_false_iff.mpr c76
                                          subst c76
                                          have H1 : ((keys_reader_value.f kj65 s0_0 t382 false (wrap64 (a1 - 1))).bind fun bt387 => (if x372004_4.length < 1759218604441 then (keys_reader_value.l0 kj65 a1 s0_0 bt387.2.2.2.2.2.1 bt387.2.2.2.2.2.2 (wrap64 ((wrap64 (t368)) - 1)) 0 (⟨#[]⟩ : ByteArray) y384 (x372004_4 ++ [(⟨bt387.1, bt387.2.1, bt387.2.2.1, bt387.2.2.2.1, bt387.2.2.2.2.1⟩ : S25)])) else (none))) = some (r1, r2, r3, r4, r5, r6, r7) := by rw [if_neg (show ¬ (false = true) by decide)] at H; exact H
                                          clear H
                                          have H := H1
                                          clear H1
                                          replace H := Option.bind_eq_some_iff.mp H
                                          obtain ⟨⟨t387, t388, t389, t390, t393, t396, t397⟩, A830, H⟩ := H
                                          replace H : (if x372004_4.length < 1759218604441 then (keys_reader_value.l0 kj65 a1 s0_0 t396 t397 (wrap64 ((wrap64 (t368)) - 1)) 0 (⟨#[]⟩ : ByteArray) y384 (x372004_4 ++ [(⟨t387, t388, t389, t390, t393⟩ : S25)])) else (none)) = some (r1, r2, r3, r4, r5, r6, r7) := H
                                          have A83 := Aside0.mk A830
                                          clear A830
                                          by_cases c84 : x372004_4.length < 1759218604441
                                          · rw [if_pos c84] at H
                                            have LMc84 := Aside0.mk c84
                                            clear c84
                                            obtain ⟨y398, hy398⟩ : ∃ y_ : List (S25), y_ = (x372004_4 ++ [(⟨t387, t388, t389, t390, t393⟩ : S25)]) := ⟨_, rfl⟩
                                            replace H : (keys_reader_value.l0 kj65 a1 s0_0 t396 t397 (wrap64 ((wrap64 (t368)) - 1)) 0 (⟨#[]⟩ : ByteArray) y384 y398) = some (r1, r2, r3, r4, r5, r6, r7) := by first | (rw [hy398]; with_reducible exact H) | (have H2_ := (Option.bind_some _ _).symm.trans H; rw [hy398]; with_reducible exact H2_) | (have H2_ := (Option.bind_some _ _).symm.trans H; with_reducible exact H2_) | with_reducible exact H | (rw [hy398]; exact H) | exact H
                                            have Ny398 := Aside0.mk hy398
                                            clear hy398
                                            have H' := Aside0.mk H
                                            clear H
                                            try go_wp2
                                            have n0_ := Aside0.mk (Kd.R_drew HO_372003.out)
                                            have n1_ := Aside0.mk (Kd.R_drew HO_372004.out)
                                            have n2_ := Aside0.mk (blk_drew BK367.out)
                                            have n3_ := Aside0.mk (blk_drew BK371.out)
                                            have n4_ := Aside0.mk (IsS54.drew HI0.out)
                                            have n5_ := Aside0.mk (keep_drew HK.out)
                                            have n6_ := Aside0.mk (below_drew1 HB.out)
                                            clear HO_372003
                                            clear HO_372004
                                            clear BK367
                                            clear BK371
                                            clear HI0
                                            clear HK
                                            clear HB
                                            have HO_372003 := n0_
                                            have HO_372004 := n1_
                                            have BK367 := n2_
                                            have BK371 := n3_
                                            have HI0 := n4_
                                            have HK := n5_
                                            have HB := n6_
                                            clear n0_ n1_ n2_ n3_ n4_ n5_ n6_
                                            refine start_ (n := 8) (S := fun w' => w'.cell? ⟨gb371, 0, none⟩ = some (.int .i64 (wrap64 ((wrap64 (t368)) - 1))) ∧ w'.cell? ⟨gb371, 1, none⟩ = some (.int .i64 0) ∧ w'.cell? ⟨gb371, 2, none⟩ = some (.string (⟨#[]⟩ : ByteArray)) ∧ w'.cell? ⟨gb371, 3, none⟩ = some (u372003) ∧ w'.cell? ⟨gb371, 4, none⟩ = some (u372004)) (ds := [7]) #[false, false, false, false, false, false, false, false] (by kernel_rfl) rfl rfl ⟨(blk_cell BK371.out 0).trans rfl, (blk_cell BK371.out 1).trans rfl, (blk_cell BK371.out 2).trans rfl, (blk_cell BK371.out 3).trans rfl, (blk_cell BK371.out 4).trans rfl⟩ (fun hHeld => ?_); refine with_tabW keys_reader_value.tab22 keys_reader_value.bits22 (fun HT_ HW_ => ?_)
                                            generalize wc.drew = w85 at HO_372003 HO_372004 BK367 BK371 HI0 HK HB hHeld ⊢
                                            refine pure_ (i := 0) (N := some 83) (v := ?_) (a' := ?_) #[true, false, false, false, false, false, false, false] rfl rfl (any_of HT_.out (by kernel_rfl)) (fun _ _ _ h => h) (Or.inl ⟨by rfl, ?_⟩) ?_ ?_
                                            rotate_left
                                            · intro w'
                                              go_simp
                                              with_reducible rfl
                                            rotate_left
                                            · simp only [u64_ones_, Act.put, List.setIfInBounds_toArray, List.set_cons_zero, List.set_cons_succ, i64_w, i32_w]
                                              rfl
                                            refine pure_ (i := 2) (N := some 85) (v := ?_) (a' := ?_) #[true, false, true, false, false, false, false, false] rfl rfl (any_of HT_.out (by kernel_rfl)) (fun _ _ _ h => h) (Or.inl ⟨by rfl, ?_⟩) ?_ ?_
                                            rotate_left
                                            · intro w'
                                              go_simp
                                              with_reducible rfl
                                            rotate_left
                                            · simp only [u64_ones_, Act.put, List.setIfInBounds_toArray, List.set_cons_zero, List.set_cons_succ, i64_w, i32_w]
                                              rfl
                                            refine take_ (i := 1) (N := some 84) (v := ?_) (a' := ?_) #[true, true, true, false, false, false, false, false] rfl rfl (take_ofW HT_.out HW_.out (by kernel_rfl)) (fun _ _ _ h => h) (Or.inl ⟨by rfl, ?_⟩) hHeld ?_ ?_
                                            rotate_left
                                            · rintro w' ⟨s0, s1, s2, s3, s4⟩
                                              go_simp
                                              with_reducible rfl
                                            rotate_left
                                            · simp only [u64_ones_, Act.put, List.setIfInBounds_toArray, List.set_cons_zero, List.set_cons_succ, i64_w, i32_w]
                                              rfl
                                            refine one_ (i := 3) (N := some 86) #[true, true, true, true, false, false, false, false] rfl rfl (one_of HT_.out (by kernel_rfl)) (by decide) (fun K hK => ?_)
                                            refine goes_ Tryd.func59 (by kernel_rfl) rfl #[.pointer (some ⟨g, 0, none⟩)] (by rfl) rfl rfl (by (try simp only [List.map_toArray, List.map_cons, List.map_nil]); first | done | rfl | (simp only [List.length_drop, List.length_take]; rfl)) ?_
                                            with_reducible refine (keys_reader_text.calls kj65 g s0_0 t379 x1002_65 t381 t382 false w0 _ ?side1 ?side2 A74.out).mono ?_
                                            (case side1 => repeat (first | (with_reducible first | exact HI0.out | apply IsS54.alloc | apply IsS54.drewN | apply IsS54.drew | apply IsS54.set_1 | apply IsS54.set_2 | refine IsS54.far ?_ NB0_367.out _ | refine IsS54.far ?_ NB0_371.out _) | exact HI0.out))
                                            (case side2 => repeat (first | (with_reducible first | exact HB.out | apply below_alloc | apply pw_below_drewN | apply below_drew1 | refine below_set ?_ (IsS54.ge HI0.out) | refine below_set ?_ GE367.out | refine below_set ?_ GE371.out) | exact HB.out))
                                            rintro e w86 ⟨rfl, hi, hb, hk⟩
                                            refine ⟨_, rfl, ?_⟩
                                            have n0_ := Aside0.mk (Kd.R_mono (Kd.R_keep (IsS54.apart (show IsS54 w0 _ g s0_0 t379 x1002_65 from by repeat (first | (with_reducible first | exact HI0.out | apply IsS54.alloc | apply IsS54.drewN | apply IsS54.drew | apply IsS54.set_1 | apply IsS54.set_2 | refine IsS54.far ?_ NB0_367.out _ | refine IsS54.far ?_ NB0_371.out _) | exact HI0.out)) (by (with_reducible repeat (first | apply Kd.R_alloc | apply Kd.R_drewN | apply Kd.R_drew)); exact HO_372003.out) (by decide)) hk (fun _ h => h.2)) (fun _ h => h.1))
                                            have n1_ := Aside0.mk (Kd.R_mono (Kd.R_keep (IsS54.apart (show IsS54 w0 _ g s0_0 t379 x1002_65 from by repeat (first | (with_reducible first | exact HI0.out | apply IsS54.alloc | apply IsS54.drewN | apply IsS54.drew | apply IsS54.set_1 | apply IsS54.set_2 | refine IsS54.far ?_ NB0_367.out _ | refine IsS54.far ?_ NB0_371.out _) | exact HI0.out)) (by (with_reducible repeat (first | apply Kd.R_alloc | apply Kd.R_drewN | apply Kd.R_drew)); exact HO_372004.out) (by decide)) hk (fun _ h => h.2)) (fun _ h => h.1))
                                            have n2_ := Aside0.mk (KeepBut.blk hk (g' := gb367) (o := .cells #[.int .i64 0, .int .i64 0, .string (⟨#[]⟩ : ByteArray), .slice none 0 0, .slice none 0 0] 25 (0, 0)) (by (with_reducible repeat (first | refine blk_drewN ?_ _ | refine blk_drew ?_ | refine blk_alloc ?_ _)); exact BK367.out) NB367_0.out (by simp))
                                            have n3_ := Aside0.mk (KeepBut.blk hk (g' := gb371) (o := .cells #[.int .i64 (wrap64 ((wrap64 (t368)) - 1)), .int .i64 0, .string (⟨#[]⟩ : ByteArray), u372003, u372004] 25 (0, 0)) (by (with_reducible repeat (first | refine blk_drewN ?_ _ | refine blk_drew ?_ | refine blk_alloc ?_ _)); exact BK371.out) NB371_0.out (by simp))
                                            have n4_ := Aside0.mk (KeepBut.trans (by repeat (first | (with_reducible first | exact HK.out | apply KeepBut.set_ | apply keep_drewN | apply keep_drew | apply keep_alloc | refine keep_far ?_ GW367.out _ | refine keep_far ?_ GW371.out _) | exact HK.out)) hk (.inl rfl))
                                            have n5_ := Aside0.mk (hb)
                                            have n6_ := Aside0.mk (hi)
                                            clear HO_372003
                                            clear HO_372004
                                            clear BK367
                                            clear BK371
                                            clear HK
                                            clear HB
                                            clear HI0
                                            have HO_372003 := n0_
                                            have HO_372004 := n1_
                                            have BK367 := n2_
                                            have BK371 := n3_
                                            have HK := n4_
                                            have HB := n5_
                                            have HI0 := n6_
                                            clear n0_ n1_ n2_ n3_ n4_ n5_ n6_
                                            (try clear hb)
                                            (try clear hb2)
                                            (try clear hk)
                                            (try clear hi)
                                            refine hK.out _ _ ⟨(blk_cell BK371.out 0).trans rfl, (blk_cell BK371.out 1).trans rfl, (blk_cell BK371.out 2).trans rfl, (blk_cell BK371.out 3).trans rfl, (blk_cell BK371.out 4).trans rfl⟩ (fun hHeld => ?_)
                                            clear hK K
                                            refine norm_ (a' := ?_) ?_ ?_
                                            rotate_left
                                            · show Act.put _ (some 86) _ = _
                                              simp only [u64_ones_, Act.put, List.setIfInBounds_toArray, List.set_cons_zero, List.set_cons_succ, i64_w, i32_w]
                                              rfl
                                            refine one_ (i := 4) (N := some 87) #[true, true, true, true, true, false, false, false] rfl rfl (one_of HT_.out (by kernel_rfl)) (by decide) (fun K hK => ?_)
                                            refine value_ (w1 := ?_) (v := ?_) (by rfl) rfl ?_ ?_
                                            rotate_left 2
                                            · go_simp
                                              constructor
                                              · rfl
                                              · rfl
                                            refine hK.out _ _ ⟨(blk_cell (blk_alloc BK371.out _) 0).trans rfl, (blk_cell (blk_alloc BK371.out _) 1).trans rfl, (blk_cell (blk_alloc BK371.out _) 2).trans rfl, (blk_cell (blk_alloc BK371.out _) 3).trans rfl, (blk_cell (blk_alloc BK371.out _) 4).trans rfl⟩ (fun hHeld => ?_)
                                            clear hK K
                                            refine norm_ (a' := ?_) ?_ ?_
                                            rotate_left
                                            · show Act.put _ (some 87) _ = _
                                              simp only [u64_ones_, Act.put, List.setIfInBounds_toArray, List.set_cons_zero, List.set_cons_succ, i64_w, i32_w]
                                              rfl
                                            refine one_ (i := 5) (N := some 88) #[true, true, true, true, true, true, false, false] rfl rfl (one_of HT_.out (by kernel_rfl)) (by decide) (fun K hK => ?_)
                                            refine Kd.R_append_step Kd.string w.heap.size (by rfl) (.tmp 84) (.tmp 87) 22 9 (.string ⟨#[]⟩) 16 rfl Tryd.underlying22 keys_reader_value.info9 rfl (by decide) (by omega) u372003 x372003_4 t381 [.string t381] (fun _ => True) (fun _ => False) rfl rfl ?aP (fun _ hk => hk.elim) ?aF ?aO (Below.refl _ _) ?aS ?aL ?_
                                            (case aP => exact rfl)
                                            (case aF => exact (fun _ _ => trivial))
                                            (case aO => exact (by (with_reducible repeat (first | apply Kd.R_alloc | apply Kd.R_drewN | apply Kd.R_drew)); exact HO_372003.out))
                                            (case aS => exact (keep_size (w := w) (g := g) (row := none) (by repeat (first | (with_reducible first | exact HK.out | apply KeepBut.set_ | apply keep_drewN | apply keep_drew | apply keep_alloc | refine keep_far ?_ GW367.out _ | refine keep_far ?_ GW371.out _) | exact HK.out))))
                                            (case aL => have := LMc75.out; omega)
                                            intro v385 w87 ho hb hg hat
                                            rw [← Ny384.out] at ho
                                            have n0_ := Aside0.mk (Kd.R_after (ok := (fun k_ => k_ ≠ gb367 ∧ k_ ≠ gb371)) (by (with_reducible repeat (first | apply Kd.R_alloc | apply Kd.R_drewN | apply Kd.R_drew)); exact Kd.R_mono HO_372004.out (fun _ hk => ⟨⟨hk.2.1, hk.2.2⟩, hk.1⟩)) hg hat)
                                            have n1_ := Aside0.mk (blk_grown (g := gb367) (o := .cells #[.int .i64 0, .int .i64 0, .string (⟨#[]⟩ : ByteArray), .slice none 0 0, .slice none 0 0] 25 (0, 0)) (by (with_reducible repeat (first | refine blk_drewN ?_ _ | refine blk_drew ?_ | refine blk_alloc ?_ _)); exact BK367.out) hg (Kd.R_ne HO_372003.out BK367.out (by decide)))
                                            have n2_ := Aside0.mk (blk_grown (g := gb371) (o := .cells #[.int .i64 (wrap64 ((wrap64 (t368)) - 1)), .int .i64 0, .string (⟨#[]⟩ : ByteArray), u372003, u372004] 25 (0, 0)) (by (with_reducible repeat (first | refine blk_drewN ?_ _ | refine blk_drew ?_ | refine blk_alloc ?_ _)); exact BK371.out) hg (Kd.R_ne HO_372003.out BK371.out (by decide)))
                                            have n3_ := Aside0.mk (IsS54.grown (by repeat (first | (with_reducible first | exact HI0.out | apply IsS54.alloc | apply IsS54.drewN | apply IsS54.drew | apply IsS54.set_1 | apply IsS54.set_2 | refine IsS54.far ?_ NB0_367.out _ | refine IsS54.far ?_ NB0_371.out _) | exact HI0.out)) hg (IsS54.own_ne HI0.out HO_372003.out (by decide)))
                                            have n4_ := Aside0.mk (below_weaken (by repeat (first | (with_reducible first | exact HB.out | apply below_alloc | apply pw_below_drewN | apply below_drew1 | refine below_set ?_ (IsS54.ge HI0.out) | refine below_set ?_ GE367.out | refine below_set ?_ GE371.out) | exact HB.out)) HL.out hb)
                                            have n5_ := Aside0.mk (KeepBut.trans (by repeat (first | (with_reducible first | exact HK.out | apply KeepBut.set_ | apply keep_drewN | apply keep_drew | apply keep_alloc | refine keep_far ?_ GW367.out _ | refine keep_far ?_ GW371.out _) | exact HK.out)) (KeepBut.of_grown hg g) (Kd.R_base2 HO_372003.out))
                                            have n6_ := Aside0.mk (ho)
                                            clear HO_372004
                                            clear BK367
                                            clear BK371
                                            clear HI0
                                            clear HB
                                            clear HK
                                            clear HO_372003
                                            have HO_372004 := n0_
                                            have BK367 := n1_
                                            have BK371 := n2_
                                            have HI0 := n3_
                                            have HB := n4_
                                            have HK := n5_
                                            have HO386 := n6_
                                            clear n0_ n1_ n2_ n3_ n4_ n5_ n6_
                                            clear ho hb hg hat
                                            obtain ⟨Ao88, co88, eo88⟩ := Kd.R_slice HO386.out
                                            (first | subst eo88 | (injection eo88 with f1_ f2_ f3_; have f4_ := f1_.symm; have f5_ := f3_.symm; clear f1_ f2_ f3_; subst f4_; subst f5_))
                                            refine hK.out _ _ ⟨(blk_cell BK371.out 0).trans rfl, (blk_cell BK371.out 1).trans rfl, (blk_cell BK371.out 2).trans rfl, (blk_cell BK371.out 3).trans rfl, (blk_cell BK371.out 4).trans rfl⟩ (fun hHeld => ?_)
                                            clear hK K
                                            refine norm_ (a' := ?_) ?_ ?_
                                            rotate_left
                                            · show Act.put _ (some 88) _ = _
                                              simp only [u64_ones_, Act.put, List.setIfInBounds_toArray, List.set_cons_zero, List.set_cons_succ, i64_w, i32_w]
                                              rfl
                                            refine pure_ (i := 6) (N := some 89) (v := ?_) (a' := ?_) #[true, true, true, true, true, true, true, false] rfl rfl (any_of HT_.out (by kernel_rfl)) (fun _ _ _ h => h) (Or.inl ⟨by rfl, ?_⟩) ?_ ?_
                                            rotate_left
                                            · intro w'
                                              go_simp
                                              with_reducible rfl
                                            rotate_left
                                            · simp only [u64_ones_, Act.put, List.setIfInBounds_toArray, List.set_cons_zero, List.set_cons_succ, i64_w, i32_w]
                                              rfl
                                            refine last_ (i := 7) (N := none) #[true, true, true, true, true, true, true, true] rfl rfl (one_of HT_.out (by kernel_rfl)) (by decide) (fun K hK => ?_)
                                            have hs89 : w87.cell? ⟨gb371, 3, none⟩ = some (u372003) := (blk_cell BK371.out 3).trans rfl
                                            have hfs89 := blk_frozen BK371.out 3
                                            have hns89_0 := NB367_371.out
                                            have hms89_0 := NB371_367.out
                                            refine skip_ (w1 := ?_) (by rfl) rfl ?_ ?_
                                            rotate_left
                                            · go_simp
                                              rfl
                                            refine hK.out _ _ ?_
                                            clear hK K
                                            refine done_ (done_of HT_.out (by kernel_rfl)) ?_
                                            obtain ⟨ASz90_0, cSz90_0, HGz90, hgz90, HSz90_0⟩ := HI0.out
                                            have hcz90_0 := cellS54_0 HGz90
                                            have hcz90_1 := cellS54_1 HGz90
                                            have hcz90_2 := cellS54_2 HGz90
                                            have hfz90_1 := blk_frozen HGz90 1
                                            have hfz90_2 := blk_frozen HGz90 2
                                            clear HGz90 hgz90
                                            try go_wp2
                                            have n0_ : Aside0 (Kd.R k25 25 (w87.setCell ⟨gb371, 3, none⟩ (.slice Ao88 y384.length co88)) w.heap.size (fun k_ => some k_ ≠ (.slice Ao88 y384.length co88 : Value).ownBlock ∧ k_ ≠ gb367 ∧ k_ ≠ gb371) u372004 x372004_4) := ⟨by (with_reducible repeat (first | apply Kd.R_alloc | apply Kd.R_drewN | apply Kd.R_drew)); exact Kd.R_mono (Kd.R_far (p := ⟨gb371, 3, none⟩) (Kd.R_mono HO_372004.out (fun k_ hk => (⟨hk, hk.1.2⟩ : _ ∧ k_ ≠ gb371))) (fun _ hk => hk.2) (.slice Ao88 y384.length co88)) (fun _ hk => ⟨hk.1.2, ⟨hk.1.1.1, hk.1.1.2⟩⟩)⟩
                                            have n1_ : Aside0 (Kd.R Kd.string 9 (w87.setCell ⟨gb371, 3, none⟩ (.slice Ao88 y384.length co88)) w.heap.size (fun _ => True) (.slice Ao88 y384.length co88) y384) := ⟨by (with_reducible repeat (first | apply Kd.R_alloc | apply Kd.R_drewN | apply Kd.R_drew)); exact Kd.R_mono (Kd.R_far (p := ⟨gb371, 3, none⟩) (Kd.R_types HO386.out BK371.out (by decide)) (fun _ hk => hk.2) (.slice Ao88 y384.length co88)) (fun _ hk => trivial)⟩
                                            have n2_ : Aside0 ((w87.setCell ⟨gb371, 3, none⟩ (.slice Ao88 y384.length co88)).heap[gb367]? = some (.cells #[.int .i64 0, .int .i64 0, .string (⟨#[]⟩ : ByteArray), .slice none 0 0, .slice none 0 0] 25 (0, 0))) := ⟨by (with_reducible repeat (first | refine blk_drewN ?_ _ | refine blk_drew ?_ | refine blk_alloc ?_ _)); refine blk_far ?_ NB367_371.out _; (with_reducible repeat (first | refine blk_drewN ?_ _ | refine blk_drew ?_ | refine blk_alloc ?_ _)); exact BK367.out⟩
                                            have n3_ : Aside0 ((w87.setCell ⟨gb371, 3, none⟩ (.slice Ao88 y384.length co88)).heap[gb371]? = some (.cells #[.int .i64 (wrap64 ((wrap64 (t368)) - 1)), .int .i64 0, .string (⟨#[]⟩ : ByteArray), .slice Ao88 y384.length co88, u372004] 25 (0, 0))) := ⟨by (with_reducible repeat (first | refine blk_drewN ?_ _ | refine blk_drew ?_ | refine blk_alloc ?_ _)); refine blk_put (cs := #[.int .i64 (wrap64 ((wrap64 (t368)) - 1)), .int .i64 0, .string (⟨#[]⟩ : ByteArray), u372003, u372004]) ?_ 3 _ rfl; (with_reducible repeat (first | refine blk_drewN ?_ _ | refine blk_drew ?_ | refine blk_alloc ?_ _)); exact BK371.out⟩
                                            have n4_ : Aside0 (IsS54 w0 (w87.setCell ⟨gb371, 3, none⟩ (.slice Ao88 y384.length co88)) g s0_0 t382 false) := ⟨by repeat (first | (with_reducible first | exact HI0.out | apply IsS54.alloc | apply IsS54.drewN | apply IsS54.drew | apply IsS54.set_1 | apply IsS54.set_2 | refine IsS54.far ?_ NB0_367.out _ | refine IsS54.far ?_ NB0_371.out _) | exact HI0.out)⟩
                                            have n5_ : Aside0 (KeepBut w (w87.setCell ⟨gb371, 3, none⟩ (.slice Ao88 y384.length co88)) g none) := ⟨by repeat (first | (with_reducible first | exact HK.out | apply KeepBut.set_ | apply keep_drewN | apply keep_drew | apply keep_alloc | refine keep_far ?_ GW367.out _ | refine keep_far ?_ GW371.out _) | exact HK.out)⟩
                                            have n6_ : Aside0 (Below w0.heap.size w0 (w87.setCell ⟨gb371, 3, none⟩ (.slice Ao88 y384.length co88))) := ⟨by repeat (first | (with_reducible first | exact HB.out | apply below_alloc | apply pw_below_drewN | apply below_drew1 | refine below_set ?_ (IsS54.ge HI0.out) | refine below_set ?_ GE367.out | refine below_set ?_ GE371.out) | exact HB.out)⟩
                                            (try clear HO_372004)
                                            (try clear HO386)
                                            (try clear BK367)
                                            (try clear BK371)
                                            (try clear HI0)
                                            (try clear HK)
                                            (try clear HB)
                                            generalize (w87.setCell ⟨gb371, 3, none⟩ (.slice Ao88 y384.length co88)) = w91 at n0_ n1_ n2_ n3_ n4_ n5_ n6_ ⊢
                                            have HO_372004 := n0_
                                            have HO386 := n1_
                                            have BK367 := n2_
                                            have BK371 := n3_
                                            have HI0 := n4_
                                            have HK := n5_
                                            have HB := n6_
                                            clear n0_ n1_ n2_ n3_ n4_ n5_ n6_
                                            have n0_ := Aside0.mk (Kd.R_drew HO_372004.out)
                                            have n1_ := Aside0.mk (Kd.R_drew HO386.out)
                                            have n2_ := Aside0.mk (blk_drew BK367.out)
                                            have n3_ := Aside0.mk (blk_drew BK371.out)
                                            have n4_ := Aside0.mk (IsS54.drew HI0.out)
                                            have n5_ := Aside0.mk (keep_drew HK.out)
                                            have n6_ := Aside0.mk (below_drew1 HB.out)
                                            clear HO_372004
                                            clear HO386
                                            clear BK367
                                            clear BK371
                                            clear HI0
                                            clear HK
                                            clear HB
                                            have HO_372004 := n0_
                                            have HO386 := n1_
                                            have BK367 := n2_
                                            have BK371 := n3_
                                            have HI0 := n4_
                                            have HK := n5_
                                            have HB := n6_
                                            clear n0_ n1_ n2_ n3_ n4_ n5_ n6_
                                            refine start_ (n := 10) (S := fun w' => w'.cell? ⟨gb371, 0, none⟩ = some (.int .i64 (wrap64 ((wrap64 (t368)) - 1))) ∧ w'.cell? ⟨gb371, 1, none⟩ = some (.int .i64 0) ∧ w'.cell? ⟨gb371, 2, none⟩ = some (.string (⟨#[]⟩ : ByteArray)) ∧ w'.cell? ⟨gb371, 3, none⟩ = some (.slice Ao88 y384.length co88) ∧ w'.cell? ⟨gb371, 4, none⟩ = some (u372004)) (ds := [9]) #[false, false, false, false, false, false, false, false, false, false] (by kernel_rfl) rfl rfl ⟨(blk_cell BK371.out 0).trans rfl, (blk_cell BK371.out 1).trans rfl, (blk_cell BK371.out 2).trans rfl, (blk_cell BK371.out 3).trans rfl, (blk_cell BK371.out 4).trans rfl⟩ (fun hHeld => ?_); refine with_tabW keys_reader_value.tab25 keys_reader_value.bits25 (fun HT_ HW_ => ?_)
                                            generalize w91.drew = w92 at HO_372004 HO386 BK367 BK371 HI0 HK HB hHeld ⊢
                                            refine pure_ (i := 0) (N := some 102) (v := ?_) (a' := ?_) #[true, false, false, false, false, false, false, false, false, false] rfl rfl (any_of HT_.out (by kernel_rfl)) (fun _ _ _ h => h) (Or.inl ⟨by rfl, ?_⟩) ?_ ?_
                                            rotate_left
                                            · intro w'
                                              go_simp
                                              with_reducible rfl
                                            rotate_left
                                            · simp only [u64_ones_, Act.put, List.setIfInBounds_toArray, List.set_cons_zero, List.set_cons_succ, i64_w, i32_w]
                                              rfl
                                            refine pure_ (i := 2) (N := some 104) (v := ?_) (a' := ?_) #[true, false, true, false, false, false, false, false, false, false] rfl rfl (any_of HT_.out (by kernel_rfl)) (fun _ _ _ h => h) (Or.inl ⟨by rfl, ?_⟩) ?_ ?_
                                            rotate_left
                                            · intro w'
                                              go_simp
                                              with_reducible rfl
                                            rotate_left
                                            · simp only [u64_ones_, Act.put, List.setIfInBounds_toArray, List.set_cons_zero, List.set_cons_succ, i64_w, i32_w]
                                              rfl
                                            refine pure_ (i := 3) (N := some 105) (v := ?_) (a' := ?_) #[true, false, true, true, false, false, false, false, false, false] rfl rfl (any_of HT_.out (by kernel_rfl)) (fun _ _ _ h => h) (Or.inl ⟨by rfl, ?_⟩) ?_ ?_
                                            rotate_left
                                            · intro w'
                                              go_simp
                                              with_reducible rfl
                                            rotate_left
                                            · simp only [u64_ones_, Act.put, List.setIfInBounds_toArray, List.set_cons_zero, List.set_cons_succ, i64_w, i32_w]
                                              rfl
                                            refine pure_ (i := 4) (N := some 106) (v := ?_) (a' := ?_) #[true, false, true, true, true, false, false, false, false, false] rfl rfl (any_of HT_.out (by kernel_rfl)) (fun _ _ _ h => h) (Or.inl ⟨by rfl, ?_⟩) ?_ ?_
                                            rotate_left
                                            · intro w'
                                              go_simp
                                              with_reducible rfl
                                            rotate_left
                                            · simp only [u64_ones_, Act.put, List.setIfInBounds_toArray, List.set_cons_zero, List.set_cons_succ, i64_w, i32_w]
                                              rfl
                                            refine take_ (i := 1) (N := some 103) (v := ?_) (a' := ?_) #[true, true, true, true, true, false, false, false, false, false] rfl rfl (take_ofW HT_.out HW_.out (by kernel_rfl)) (fun _ _ _ h => h) (Or.inl ⟨by rfl, ?_⟩) hHeld ?_ ?_
                                            rotate_left
                                            · rintro w' ⟨s0, s1, s2, s3, s4⟩
                                              go_simp
                                              with_reducible rfl
                                            rotate_left
                                            · simp only [u64_ones_, Act.put, List.setIfInBounds_toArray, List.set_cons_zero, List.set_cons_succ, i64_w, i32_w]
                                              rfl
                                            refine one_ (i := 5) (N := some 107) #[true, true, true, true, true, true, false, false, false, false] rfl rfl (one_of HT_.out (by kernel_rfl)) (by decide) (fun K hK => ?_)
                                            refine goes_ Tryd.func47 (by kernel_rfl) rfl #[.pointer (some ⟨g, 0, none⟩), .int .i64 (wrap64 (a1 - 1))] (by rfl) rfl rfl (by (try simp only [List.map_toArray, List.map_cons, List.map_nil]); first | done | rfl | (simp only [List.length_drop, List.length_take]; rfl)) ?_
                                            with_reducible refine (ih kj65 (by have := HJ3.out; have := HJ18.out; have := HJ39.out; have := HK4.out; have := HJ45.out; have := HJ65.out; omega) g s0_0 t382 false (wrap64 (a1 - 1)) t387 t388 t389 t390 t393 t396 t397 w0 _ ?side1 ?side2 A83.out).mono ?_
                                            (case side1 => repeat (first | (with_reducible first | exact HI0.out | apply IsS54.alloc | apply IsS54.drewN | apply IsS54.drew | apply IsS54.set_1 | apply IsS54.set_2 | refine IsS54.far ?_ NB0_367.out _ | refine IsS54.far ?_ NB0_371.out _) | exact HI0.out))
                                            (case side2 => repeat (first | (with_reducible first | exact HB.out | apply below_alloc | apply pw_below_drewN | apply below_drew1 | refine below_set ?_ (IsS54.ge HI0.out) | refine below_set ?_ GE367.out | refine below_set ?_ GE371.out) | exact HB.out))
                                            rintro e w93 ⟨v391, v394, rfl, ho0, ho1, hi, hb, hk⟩
                                            refine ⟨_, rfl, ?_⟩
                                            have n0_ := Aside0.mk (Kd.R_mono (Kd.R_told (Kd.R_told (Kd.R_oldK (IsS54.apart (show IsS54 w0 _ g s0_0 t382 false from by repeat (first | (with_reducible first | exact HI0.out | apply IsS54.alloc | apply IsS54.drewN | apply IsS54.drew | apply IsS54.set_1 | apply IsS54.set_2 | refine IsS54.far ?_ NB0_367.out _ | refine IsS54.far ?_ NB0_371.out _) | exact HI0.out)) (by (with_reducible repeat (first | apply Kd.R_alloc | apply Kd.R_drewN | apply Kd.R_drew)); exact HO_372004.out) (by decide)) hk) (Kd.R_base ho0)) (Kd.R_base ho1)) (fun _ h_ => h_.1))
                                            have n1_ := Aside0.mk (KeepBut.blk hk (g' := gb367) (o := .cells #[.int .i64 0, .int .i64 0, .string (⟨#[]⟩ : ByteArray), .slice none 0 0, .slice none 0 0] 25 (0, 0)) (by (with_reducible repeat (first | refine blk_drewN ?_ _ | refine blk_drew ?_ | refine blk_alloc ?_ _)); exact BK367.out) NB367_0.out (by simp))
                                            have n2_ := Aside0.mk (KeepBut.blk hk (g' := gb371) (o := .cells #[.int .i64 (wrap64 ((wrap64 (t368)) - 1)), .int .i64 0, .string (⟨#[]⟩ : ByteArray), .slice Ao88 y384.length co88, u372004] 25 (0, 0)) (by (with_reducible repeat (first | refine blk_drewN ?_ _ | refine blk_drew ?_ | refine blk_alloc ?_ _)); exact BK371.out) NB371_0.out (by simp))
                                            have n3_ := Aside0.mk (Kd.R_mono (Kd.R_told (Kd.R_oldK (IsS54.apart (show IsS54 w0 _ g s0_0 t382 false from by repeat (first | (with_reducible first | exact HI0.out | apply IsS54.alloc | apply IsS54.drewN | apply IsS54.drew | apply IsS54.set_1 | apply IsS54.set_2 | refine IsS54.far ?_ NB0_367.out _ | refine IsS54.far ?_ NB0_371.out _) | exact HI0.out)) (by (with_reducible repeat (first | apply Kd.R_alloc | apply Kd.R_drewN | apply Kd.R_drew)); exact HO386.out) (by decide)) hk) (Kd.R_base ho0)) (fun _ h_ => h_.1))
                                            have n4_ := Aside0.mk (Kd.R_lower (Kd.R_new' ho0 (Kd.R_lt (by (with_reducible repeat (first | apply Kd.R_alloc | apply Kd.R_drewN | apply Kd.R_drew)); exact HO386.out))) (keep_size (w := w) (g := g) (row := none) (by repeat (first | (with_reducible first | exact HK.out | apply KeepBut.set_ | apply keep_drewN | apply keep_drew | apply keep_alloc | refine keep_far ?_ GW367.out _ | refine keep_far ?_ GW371.out _) | exact HK.out))))
                                            have n5_ := Aside0.mk (Kd.R_lower (Kd.R_newB (Kd.R_newB (Kd.R_new' (Kd.R_new' ho1 (Kd.R_lt (by (with_reducible repeat (first | apply Kd.R_alloc | apply Kd.R_drewN | apply Kd.R_drew)); exact HO_372004.out))) (Kd.R_lt (by (with_reducible repeat (first | apply Kd.R_alloc | apply Kd.R_drewN | apply Kd.R_drew)); exact HO386.out))) (g := gb367) (o := .cells #[.int .i64 0, .int .i64 0, .string (⟨#[]⟩ : ByteArray), .slice none 0 0, .slice none 0 0] 25 (0, 0)) (by (with_reducible repeat (first | refine blk_drewN ?_ _ | refine blk_drew ?_ | refine blk_alloc ?_ _)); exact BK367.out)) (g := gb371) (o := .cells #[.int .i64 (wrap64 ((wrap64 (t368)) - 1)), .int .i64 0, .string (⟨#[]⟩ : ByteArray), .slice Ao88 y384.length co88, u372004] 25 (0, 0)) (by (with_reducible repeat (first | refine blk_drewN ?_ _ | refine blk_drew ?_ | refine blk_alloc ?_ _)); exact BK371.out)) (keep_size (w := w) (g := g) (row := none) (by repeat (first | (with_reducible first | exact HK.out | apply KeepBut.set_ | apply keep_drewN | apply keep_drew | apply keep_alloc | refine keep_far ?_ GW367.out _ | refine keep_far ?_ GW371.out _) | exact HK.out))))
                                            have n6_ := Aside0.mk (KeepBut.trans (by repeat (first | (with_reducible first | exact HK.out | apply KeepBut.set_ | apply keep_drewN | apply keep_drew | apply keep_alloc | refine keep_far ?_ GW367.out _ | refine keep_far ?_ GW371.out _) | exact HK.out)) hk (.inl rfl))
                                            have n7_ := Aside0.mk (hb)
                                            have n8_ := Aside0.mk (hi)
                                            clear HO_372004
                                            clear BK367
                                            clear BK371
                                            clear HO386
                                            clear HK
                                            clear HB
                                            clear HI0
                                            have HO_372004 := n0_
                                            have BK367 := n1_
                                            have BK371 := n2_
                                            have HO386 := n3_
                                            have HO392 := n4_
                                            have HO395 := n5_
                                            have HK := n6_
                                            have HB := n7_
                                            have HI0 := n8_
                                            clear n0_ n1_ n2_ n3_ n4_ n5_ n6_ n7_ n8_
                                            (try clear hb)
                                            (try clear hb2)
                                            (try clear hk)
                                            (try clear hi)
                                            (try clear ho0)
                                            (try clear ho1)
                                            obtain ⟨Ao95, co95, eo95⟩ := Kd.R_slice HO392.out
                                            (first | subst eo95 | (injection eo95 with f1_ f2_ f3_; have f4_ := f1_.symm; have f5_ := f3_.symm; clear f1_ f2_ f3_; subst f4_; subst f5_))
                                            obtain ⟨Ao96, co96, eo96⟩ := Kd.R_slice HO395.out
                                            (first | subst eo96 | (injection eo96 with f1_ f2_ f3_; have f4_ := f1_.symm; have f5_ := f3_.symm; clear f1_ f2_ f3_; subst f4_; subst f5_))
                                            refine hK.out _ _ ⟨(blk_cell BK371.out 0).trans rfl, (blk_cell BK371.out 1).trans rfl, (blk_cell BK371.out 2).trans rfl, (blk_cell BK371.out 3).trans rfl, (blk_cell BK371.out 4).trans rfl⟩ (fun hHeld => ?_)
                                            clear hK K
                                            refine norm_ (a' := ?_) ?_ ?_
                                            rotate_left
                                            · show Act.put _ (some 107) _ = _
                                              simp only [u64_ones_, Act.put, List.setIfInBounds_toArray, List.set_cons_zero, List.set_cons_succ, i64_w, i32_w]
                                              rfl
                                            refine one_ (i := 6) (N := some 108) #[true, true, true, true, true, true, true, false, false, false] rfl rfl (one_of HT_.out (by kernel_rfl)) (by decide) (fun K hK => ?_)
                                            refine value_ (w1 := ?_) (v := ?_) (by rfl) rfl ?_ ?_
                                            rotate_left 2
                                            · go_simp
                                              constructor
                                              · rfl
                                              · rfl
                                            refine hK.out _ _ ⟨(blk_cell (blk_alloc BK371.out _) 0).trans rfl, (blk_cell (blk_alloc BK371.out _) 1).trans rfl, (blk_cell (blk_alloc BK371.out _) 2).trans rfl, (blk_cell (blk_alloc BK371.out _) 3).trans rfl, (blk_cell (blk_alloc BK371.out _) 4).trans rfl⟩ (fun hHeld => ?_)
                                            clear hK K
                                            refine norm_ (a' := ?_) ?_ ?_
                                            rotate_left
                                            · show Act.put _ (some 108) _ = _
                                              simp only [u64_ones_, Act.put, List.setIfInBounds_toArray, List.set_cons_zero, List.set_cons_succ, i64_w, i32_w]
                                              rfl
                                            refine one_ (i := 7) (N := some 109) #[true, true, true, true, true, true, true, true, false, false] rfl rfl (one_of HT_.out (by kernel_rfl)) (by decide) (fun K hK => ?_)
                                            refine Kd.R_append_step k25 w.heap.size (by rfl) (.tmp 103) (.tmp 108) 23 25 (.agg #[(.int .i64 0), (.int .i64 0), (.string ⟨#[]⟩), (.slice none 0 0), (.slice none 0 0)]) 80 rfl Tryd.underlying23 info25 rfl (by decide) (by omega) u372004 x372004_4 (⟨t387, t388, t389, t390, t393⟩ : S25) [.int .i64 t387, .int .i64 t388, .string t389, .slice Ao95 t390.length co95, .slice Ao96 t393.length co96] (fun k_ => some k_ ≠ (.slice Ao88 y384.length co88 : Value).ownBlock ∧ k_ ≠ gb367 ∧ k_ ≠ gb371) (fun k_ => ((fun k_ => some k_ ≠ (.slice Ao88 y384.length co88 : Value).ownBlock ∧ k_ ≠ gb367 ∧ k_ ≠ gb371)) k_ ∧ some k_ ≠ (u372004 : Value).ownBlock) rfl rfl ?aP (fun _ hk => hk) ?aF ?aO (Below.refl _ _) ?aS ?aL ?_
                                            (case aP => exact k25_mkM _ _ _ (⟨t387, t388, t389, t390, t393⟩ : S25) (Kd.R_mono (Kd.R_types (Kd.R_types (Kd.R_apart' (HO392.out) (Kd.R_typed HO_372004.out) (by decide)) BK367.out (by decide)) BK371.out (by decide)) (fun k_ hk => ⟨⟨hk.1.1.1.2, ⟨hk.1.2, hk.2⟩⟩, hk.1.1.2⟩)) (Kd.R_mono (HO395.out) (fun k_ hk => ⟨⟨hk.1.1.2, ⟨hk.1.2, hk.2⟩⟩, hk.1.1.1.2⟩)))
                                            (case aF => exact (fun k_ hk => ⟨Kd.fresh' (Kd.R_lt (by (with_reducible repeat (first | apply Kd.R_alloc | apply Kd.R_drewN | apply Kd.R_drew)); exact HO386.out)) k_ hk, Kd.freshB (g := gb367) (o := .cells #[.int .i64 0, .int .i64 0, .string (⟨#[]⟩ : ByteArray), .slice none 0 0, .slice none 0 0] 25 (0, 0)) (by (with_reducible repeat (first | refine blk_drewN ?_ _ | refine blk_drew ?_ | refine blk_alloc ?_ _)); exact BK367.out) k_ hk, Kd.freshB (g := gb371) (o := .cells #[.int .i64 (wrap64 ((wrap64 (t368)) - 1)), .int .i64 0, .string (⟨#[]⟩ : ByteArray), .slice Ao88 y384.length co88, u372004] 25 (0, 0)) (by (with_reducible repeat (first | refine blk_drewN ?_ _ | refine blk_drew ?_ | refine blk_alloc ?_ _)); exact BK371.out) k_ hk⟩))
                                            (case aO => exact (by (with_reducible repeat (first | apply Kd.R_alloc | apply Kd.R_drewN | apply Kd.R_drew)); exact Kd.R_mono HO_372004.out (fun _ hk => ⟨hk.1.1.1, ⟨hk.1.1.2.1, hk.1.1.2.2⟩⟩)))
                                            (case aS => exact (keep_size (w := w) (g := g) (row := none) (by repeat (first | (with_reducible first | exact HK.out | apply KeepBut.set_ | apply keep_drewN | apply keep_drew | apply keep_alloc | refine keep_far ?_ GW367.out _ | refine keep_far ?_ GW371.out _) | exact HK.out))))
                                            (case aL => have := LMc84.out; omega)
                                            intro v399 w94 ho hb hg hat
                                            rw [← Ny398.out] at ho
                                            have n0_ := Aside0.mk (blk_grown (g := gb367) (o := .cells #[.int .i64 0, .int .i64 0, .string (⟨#[]⟩ : ByteArray), .slice none 0 0, .slice none 0 0] 25 (0, 0)) (by (with_reducible repeat (first | refine blk_drewN ?_ _ | refine blk_drew ?_ | refine blk_alloc ?_ _)); exact BK367.out) hg (Kd.R_away HO_372004.out (fun _ hk => hk.1.1.2.1)))
                                            have n1_ := Aside0.mk (blk_grown (g := gb371) (o := .cells #[.int .i64 (wrap64 ((wrap64 (t368)) - 1)), .int .i64 0, .string (⟨#[]⟩ : ByteArray), .slice Ao88 y384.length co88, u372004] 25 (0, 0)) (by (with_reducible repeat (first | refine blk_drewN ?_ _ | refine blk_drew ?_ | refine blk_alloc ?_ _)); exact BK371.out) hg (Kd.R_away HO_372004.out (fun _ hk => hk.1.1.2.2)))
                                            have n2_ := Aside0.mk (IsS54.grown (by repeat (first | (with_reducible first | exact HI0.out | apply IsS54.alloc | apply IsS54.drewN | apply IsS54.drew | apply IsS54.set_1 | apply IsS54.set_2 | refine IsS54.far ?_ NB0_367.out _ | refine IsS54.far ?_ NB0_371.out _) | exact HI0.out)) hg (IsS54.own_ne HI0.out HO_372004.out (by decide)))
                                            have n3_ := Aside0.mk (Kd.R_over' (by (with_reducible repeat (first | apply Kd.R_alloc | apply Kd.R_drewN | apply Kd.R_drew)); exact HO386.out) (Kd.R_typed (by (with_reducible repeat (first | apply Kd.R_alloc | apply Kd.R_drewN | apply Kd.R_drew)); exact HO_372004.out)) (by decide) hg)
                                            have n4_ := Aside0.mk (below_weaken (by repeat (first | (with_reducible first | exact HB.out | apply below_alloc | apply pw_below_drewN | apply below_drew1 | refine below_set ?_ (IsS54.ge HI0.out) | refine below_set ?_ GE367.out | refine below_set ?_ GE371.out) | exact HB.out)) HL.out hb)
                                            have n5_ := Aside0.mk (KeepBut.trans (by repeat (first | (with_reducible first | exact HK.out | apply KeepBut.set_ | apply keep_drewN | apply keep_drew | apply keep_alloc | refine keep_far ?_ GW367.out _ | refine keep_far ?_ GW371.out _) | exact HK.out)) (KeepBut.of_grown hg g) (Kd.R_base2 HO_372004.out))
                                            have n6_ := Aside0.mk (ho)
                                            clear BK367
                                            clear BK371
                                            clear HI0
                                            clear HO386
                                            clear HB
                                            clear HK
                                            clear HO_372004
                                            clear HO392
                                            clear HO395
                                            have BK367 := n0_
                                            have BK371 := n1_
                                            have HI0 := n2_
                                            have HO386 := n3_
                                            have HB := n4_
                                            have HK := n5_
                                            have HO400 := n6_
                                            clear n0_ n1_ n2_ n3_ n4_ n5_ n6_
                                            clear ho hb hg hat
                                            obtain ⟨Ao97, co97, eo97⟩ := Kd.R_slice HO400.out
                                            (first | subst eo97 | (injection eo97 with f1_ f2_ f3_; have f4_ := f1_.symm; have f5_ := f3_.symm; clear f1_ f2_ f3_; subst f4_; subst f5_))
                                            refine hK.out _ _ ⟨(blk_cell BK371.out 0).trans rfl, (blk_cell BK371.out 1).trans rfl, (blk_cell BK371.out 2).trans rfl, (blk_cell BK371.out 3).trans rfl, (blk_cell BK371.out 4).trans rfl⟩ (fun hHeld => ?_)
                                            clear hK K
                                            refine norm_ (a' := ?_) ?_ ?_
                                            rotate_left
                                            · show Act.put _ (some 109) _ = _
                                              simp only [u64_ones_, Act.put, List.setIfInBounds_toArray, List.set_cons_zero, List.set_cons_succ, i64_w, i32_w]
                                              rfl
                                            refine pure_ (i := 8) (N := some 110) (v := ?_) (a' := ?_) #[true, true, true, true, true, true, true, true, true, false] rfl rfl (any_of HT_.out (by kernel_rfl)) (fun _ _ _ h => h) (Or.inl ⟨by rfl, ?_⟩) ?_ ?_
                                            rotate_left
                                            · intro w'
                                              go_simp
                                              with_reducible rfl
                                            rotate_left
                                            · simp only [u64_ones_, Act.put, List.setIfInBounds_toArray, List.set_cons_zero, List.set_cons_succ, i64_w, i32_w]
                                              rfl
                                            refine last_ (i := 9) (N := none) #[true, true, true, true, true, true, true, true, true, true] rfl rfl (one_of HT_.out (by kernel_rfl)) (by decide) (fun K hK => ?_)
                                            have hs98 : w94.cell? ⟨gb371, 4, none⟩ = some (u372004) := (blk_cell BK371.out 4).trans rfl
                                            have hfs98 := blk_frozen BK371.out 4
                                            have hns98_0 := NB367_371.out
                                            have hms98_0 := NB371_367.out
                                            refine skip_ (w1 := ?_) (by rfl) rfl ?_ ?_
                                            rotate_left
                                            · go_simp
                                              rfl
                                            refine hK.out _ _ ?_
                                            clear hK K
                                            refine done_ (done_of HT_.out (by kernel_rfl)) ?_
                                            try go_wp2
                                            go_roundg kj65
                                            case measure => have := HJ3.out; have := HJ18.out; have := HJ39.out; have := HK4.out; have := HJ45.out; have := HJ65.out; omega
                                            case rel => exact ⟨(t396), (t397), (y384), (y398), (.slice Ao88 y384.length co88), (.slice Ao97 y398.length co97), H', ⟨by have := HJ3.out; have := HJ18.out; have := HJ39.out; have := HK4.out; have := HJ45.out; have := HJ65.out; omega⟩, ⟨by (with_reducible repeat (first | apply Kd.R_alloc | apply Kd.R_drewN | apply Kd.R_drew)); exact Kd.R_mono (Kd.R_far (p := ⟨gb371, 4, none⟩) (Kd.R_types HO386.out BK371.out (by decide)) (fun _ hk => hk.2) (.slice Ao97 y398.length co97)) (fun _ hk => trivial)⟩, ⟨by (with_reducible repeat (first | apply Kd.R_alloc | apply Kd.R_drewN | apply Kd.R_drew)); exact Kd.R_mono (Kd.R_far (p := ⟨gb371, 4, none⟩) (Kd.R_mono HO400.out (fun k_ hk => (⟨hk, hk.2.2⟩ : _ ∧ k_ ≠ gb371))) (fun _ hk => hk.2) (.slice Ao97 y398.length co97)) (fun _ hk => ⟨hk.1.1, ⟨hk.1.2.1, hk.1.2.2⟩⟩)⟩, ⟨by (with_reducible repeat (first | refine blk_drewN ?_ _ | refine blk_drew ?_ | refine blk_alloc ?_ _)); refine blk_far ?_ NB367_371.out _; (with_reducible repeat (first | refine blk_drewN ?_ _ | refine blk_drew ?_ | refine blk_alloc ?_ _)); exact BK367.out⟩, ⟨by (with_reducible repeat (first | refine blk_drewN ?_ _ | refine blk_drew ?_ | refine blk_alloc ?_ _)); refine blk_put (cs := #[.int .i64 (wrap64 ((wrap64 (t368)) - 1)), .int .i64 0, .string (⟨#[]⟩ : ByteArray), .slice Ao88 y384.length co88, u372004]) ?_ 4 _ rfl; (with_reducible repeat (first | refine blk_drewN ?_ _ | refine blk_drew ?_ | refine blk_alloc ?_ _)); exact BK371.out⟩, ⟨by repeat (first | (with_reducible first | exact HI0.out | apply IsS54.alloc | apply IsS54.drewN | apply IsS54.drew | apply IsS54.set_1 | apply IsS54.set_2 | refine IsS54.far ?_ NB0_367.out _ | refine IsS54.far ?_ NB0_371.out _) | exact HI0.out)⟩, ⟨by repeat (first | (with_reducible first | exact HK.out | apply KeepBut.set_ | apply keep_drewN | apply keep_drew | apply keep_alloc | refine keep_far ?_ GW367.out _ | refine keep_far ?_ GW371.out _) | exact HK.out)⟩, ⟨by repeat (first | (with_reducible first | exact HB.out | apply below_alloc | apply pw_below_drewN | apply below_drew1 | refine below_set ?_ (IsS54.ge HI0.out) | refine below_set ?_ GE367.out | refine below_set ?_ GE371.out) | exact HB.out)⟩⟩
                                          · rw [if_neg c84] at H
                                            exact absurd H (by simp)
                                      · rw [if_neg c75] at H
                                        exact absurd H (by simp)
                                · rw [if_neg c65] at H
                                  have c65b0 : ((wrap64 ((wrap64 (t368)) - 1)) == 6) = false := beq_eq_false_iff_ne.mpr c65
                                  have c65b1 : ((wrap64 ((wrap64 (t368)) - 1)) != 6) = true := bne_iff_ne.mpr c65
                                  by_cases c99 : t380 = true
                                  · subst c99
                                    have H1 : (keys_reader_value.l0 kj45 a1 s0_0 (wrap64 (t379 - 1)) true (wrap64 ((wrap64 (t368)) - 1)) 0 (⟨#[]⟩ : ByteArray) x372003_4 x372004_4) = some (r1, r2, r3, r4, r5, r6, r7) := by rw [if_pos rfl] at H; exact H
                                    clear H
                                    have H := H1
                                    clear H1
                                    have H' := Aside0.mk H
                                    clear H
                                    go_wp2_with (first | ((with_reducible refine gate_callee (f := 57) rfl ?_); refine goesL_ (some 66) rfl rfl Tryd.func57 (by kernel_rfl) rfl #[.pointer (some ⟨g, 0, none⟩)] rfl (by (try simp only [List.map_toArray, List.map_cons, List.map_nil]); first | done | rfl | (simp only [List.length_drop, List.length_take]; rfl)) ?_; (with_reducible refine (keys_reader_next.calls g s0_0 x1001_4 x1002_4 t378 t379 true w0 _ ?side1 ?side2 A55.out).mono ?_); (case side1 => repeat (first | (with_reducible first | exact HI0.out | apply IsS54.alloc | apply IsS54.drewN | apply IsS54.drew | apply IsS54.set_1 | apply IsS54.set_2 | refine IsS54.far ?_ NB0_367.out _ | refine IsS54.far ?_ NB0_371.out _) | exact HI0.out)); (case side2 => repeat (first | (with_reducible first | exact HB.out | apply below_alloc | apply pw_below_drewN | apply below_drew1 | refine below_set ?_ (IsS54.ge HI0.out) | refine below_set ?_ GE367.out | refine below_set ?_ GE371.out) | exact HB.out)); rintro e w100 ⟨rfl, hi, hb, hk⟩; refine ⟨_, rfl, ?_⟩; have n0_ := Aside0.mk (Kd.R_mono (Kd.R_keep (IsS54.apart (show IsS54 w0 _ g s0_0 x1001_4 x1002_4 from by repeat (first | (with_reducible first | exact HI0.out | apply IsS54.alloc | apply IsS54.drewN | apply IsS54.drew | apply IsS54.set_1 | apply IsS54.set_2 | refine IsS54.far ?_ NB0_367.out _ | refine IsS54.far ?_ NB0_371.out _) | exact HI0.out)) (by (with_reducible repeat (first | apply Kd.R_alloc | apply Kd.R_drewN | apply Kd.R_drew)); exact HO_372003.out) (by decide)) hk (fun _ h => h.2)) (fun _ h => h.1)); have n1_ := Aside0.mk (Kd.R_mono (Kd.R_keep (IsS54.apart (show IsS54 w0 _ g s0_0 x1001_4 x1002_4 from by repeat (first | (with_reducible first | exact HI0.out | apply IsS54.alloc | apply IsS54.drewN | apply IsS54.drew | apply IsS54.set_1 | apply IsS54.set_2 | refine IsS54.far ?_ NB0_367.out _ | refine IsS54.far ?_ NB0_371.out _) | exact HI0.out)) (by (with_reducible repeat (first | apply Kd.R_alloc | apply Kd.R_drewN | apply Kd.R_drew)); exact HO_372004.out) (by decide)) hk (fun _ h => h.2)) (fun _ h => h.1)); have n2_ := Aside0.mk (KeepBut.blk hk (g' := gb367) (o := .cells #[.int .i64 0, .int .i64 0, .string (⟨#[]⟩ : ByteArray), .slice none 0 0, .slice none 0 0] 25 (0, 0)) (by (with_reducible repeat (first | refine blk_drewN ?_ _ | refine blk_drew ?_ | refine blk_alloc ?_ _)); exact BK367.out) NB367_0.out (by simp)); have n3_ := Aside0.mk (KeepBut.blk hk (g' := gb371) (o := .cells #[.int .i64 (wrap64 ((wrap64 (t368)) - 1)), .int .i64 0, .string (⟨#[]⟩ : ByteArray), u372003, u372004] 25 (0, 0)) (by (with_reducible repeat (first | refine blk_drewN ?_ _ | refine blk_drew ?_ | refine blk_alloc ?_ _)); exact BK371.out) NB371_0.out (by simp)); have n4_ := Aside0.mk (KeepBut.trans (by repeat (first | (with_reducible first | exact HK.out | apply KeepBut.set_ | apply keep_drewN | apply keep_drew | apply keep_alloc | refine keep_far ?_ GW367.out _ | refine keep_far ?_ GW371.out _) | exact HK.out)) hk (.inl rfl)); have n5_ := Aside0.mk (hb); have n6_ := Aside0.mk (hi); clear HO_372003; clear HO_372004; clear BK367; clear BK371; clear HK; clear HB; clear HI0; have HO_372003 := n0_; have HO_372004 := n1_; have BK367 := n2_; have BK371 := n3_; have HK := n4_; have HB := n5_; have HI0 := n6_; clear n0_ n1_ n2_ n3_ n4_ n5_ n6_; (try clear hb); (try clear hb2); (try clear hk); (try clear hi); have hnb101 := NB371_367.out; have hnc101 := NB367_371.out; have hnb102 := NB371_0.out; have hnc102 := NB0_371.out; have hcz103_0 : w100.cell? ⟨gb371, 0, none⟩ = some (.int .i64 (wrap64 ((wrap64 (t368)) - 1))) := (blk_cell BK371.out 0).trans rfl; have hcz103_1 : w100.cell? ⟨gb371, 1, none⟩ = some (.int .i64 0) := (blk_cell BK371.out 1).trans rfl; have hcz103_2 : w100.cell? ⟨gb371, 2, none⟩ = some (.string (⟨#[]⟩ : ByteArray)) := (blk_cell BK371.out 2).trans rfl; have hcz103_3 : w100.cell? ⟨gb371, 3, none⟩ = some (u372003) := (blk_cell BK371.out 3).trans rfl; have hcz103_4 : w100.cell? ⟨gb371, 4, none⟩ = some (u372004) := (blk_cell BK371.out 4).trans rfl; have hfz103_0 := blk_frozen BK371.out 0; have hfz103_1 := blk_frozen BK371.out 1; have hfz103_2 := blk_frozen BK371.out 2; have hfz103_3 := blk_frozen BK371.out 3; have hfz103_4 := blk_frozen BK371.out 4; obtain ⟨ASz104_0, cSz104_0, HGz104, hgz104, HSz104_0⟩ := HI0.out; have hcz104_0 := cellS54_0 HGz104; have hcz104_1 := cellS54_1 HGz104; have hcz104_2 := cellS54_2 HGz104; have hfz104_1 := blk_frozen HGz104 1; have hfz104_2 := blk_frozen HGz104 2; clear HGz104 hgz104))
                                    go_roundg kj45
                                    case measure => have := HJ3.out; have := HJ18.out; have := HJ39.out; have := HK4.out; have := HJ45.out; omega
                                    case rel => exact ⟨(wrap64 (t379 - 1)), (true), (x372003_4), (x372004_4), (u372003), (u372004), H', ⟨by have := HJ3.out; have := HJ18.out; have := HJ39.out; have := HK4.out; have := HJ45.out; omega⟩, ⟨by (with_reducible repeat (first | apply Kd.R_alloc | apply Kd.R_drewN | apply Kd.R_drew)); exact Kd.R_mono (Kd.R_far (p := ⟨g, 1, none⟩) (IsS54.apart HI0.out HO_372003.out (by decide)) (fun _ hk => hk.2) (.int .i64 (wrap64 (t379 - 1)))) (fun _ hk => trivial)⟩, ⟨by (with_reducible repeat (first | apply Kd.R_alloc | apply Kd.R_drewN | apply Kd.R_drew)); exact Kd.R_mono (Kd.R_far (p := ⟨g, 1, none⟩) (IsS54.apart HI0.out HO_372004.out (by decide)) (fun _ hk => hk.2) (.int .i64 (wrap64 (t379 - 1)))) (fun _ hk => ⟨hk.1.1, ⟨hk.1.2.1, hk.1.2.2⟩⟩)⟩, ⟨by (with_reducible repeat (first | refine blk_drewN ?_ _ | refine blk_drew ?_ | refine blk_alloc ?_ _)); refine blk_far ?_ NB367_0.out _; (with_reducible repeat (first | refine blk_drewN ?_ _ | refine blk_drew ?_ | refine blk_alloc ?_ _)); exact BK367.out⟩, ⟨by (with_reducible repeat (first | refine blk_drewN ?_ _ | refine blk_drew ?_ | refine blk_alloc ?_ _)); refine blk_far ?_ NB371_0.out _; (with_reducible repeat (first | refine blk_drewN ?_ _ | refine blk_drew ?_ | refine blk_alloc ?_ _)); exact BK371.out⟩, ⟨by repeat (first | (with_reducible first | exact HI0.out | apply IsS54.alloc | apply IsS54.drewN | apply IsS54.drew | apply IsS54.set_1 | apply IsS54.set_2 | refine IsS54.far ?_ NB0_367.out _ | refine IsS54.far ?_ NB0_371.out _) | exact HI0.out)⟩, ⟨by repeat (first | (with_reducible first | exact HK.out | apply KeepBut.set_ | apply keep_drewN | apply keep_drew | apply keep_alloc | refine keep_far ?_ GW367.out _ | refine keep_far ?_ GW371.out _) | exact HK.out)⟩, ⟨by repeat (first | (with_reducible first | exact HB.out | apply below_alloc | apply pw_below_drewN | apply below_drew1 | refine below_set ?_ (IsS54.ge HI0.out) | refine below_set ?_ GE367.out | refine below_set ?_ GE371.out) | exact HB.out)⟩⟩
                                  · replace c99 := Bool.eq_false_iff.mpr c99
                                    subst c99
                                    have H1 : ((keys_reader_value.f kj45 s0_0 (wrap64 (t379 - 1)) false (wrap64 (a1 - 1))).bind fun bt401 => (if x372004_4.length < 1759218604441 then (keys_reader_value.l0 kj45 a1 s0_0 bt401.2.2.2.2.2.1 bt401.2.2.2.2.2.2 (wrap64 ((wrap64 (t368)) - 1)) 0 (⟨#[]⟩ : ByteArray) x372003_4 (x372004_4 ++ [(⟨bt401.1, bt401.2.1, bt401.2.2.1, bt401.2.2.2.1, bt401.2.2.2.2.1⟩ : S25)])) else (none))) = some (r1, r2, r3, r4, r5, r6, r7) := by rw [if_neg (show ¬ (false = true) by decide)] at H; exact H
                                    clear H
                                    have H := H1
                                    clear H1
                                    replace H := Option.bind_eq_some_iff.mp H
                                    obtain ⟨⟨t401, t402, t403, t404, t407, t410, t411⟩, A1050, H⟩ := H
                                    replace H : (if x372004_4.length < 1759218604441 then (keys_reader_value.l0 kj45 a1 s0_0 t410 t411 (wrap64 ((wrap64 (t368)) - 1)) 0 (⟨#[]⟩ : ByteArray) x372003_4 (x372004_4 ++ [(⟨t401, t402, t403, t404, t407⟩ : S25)])) else (none)) = some (r1, r2, r3, r4, r5, r6, r7) := H
                                    have A105 := Aside0.mk A1050
                                    clear A1050
                                    by_cases c106 : x372004_4.length < 1759218604441
                                    · rw [if_pos c106] at H
                                      have LMc106 := Aside0.mk c106
                                      clear c106
                                      obtain ⟨y412, hy412⟩ : ∃ y_ : List (S25), y_ = (x372004_4 ++ [(⟨t401, t402, t403, t404, t407⟩ : S25)]) := ⟨_, rfl⟩
                                      replace H : (keys_reader_value.l0 kj45 a1 s0_0 t410 t411 (wrap64 ((wrap64 (t368)) - 1)) 0 (⟨#[]⟩ : ByteArray) x372003_4 y412) = some (r1, r2, r3, r4, r5, r6, r7) := by first | (rw [hy412]; with_reducible exact H) | (have H2_ := (Option.bind_some _ _).symm.trans H; rw [hy412]; with_reducible exact H2_) | (have H2_ := (Option.bind_some _ _).symm.trans H; with_reducible exact H2_) | with_reducible exact H | (rw [hy412]; exact H) | exact H
                                      have Ny412 := Aside0.mk hy412
                                      clear hy412
                                      have H' := Aside0.mk H
                                      clear H
                                      try go_wp2_with (first | ((with_reducible refine gate_callee (f := 57) rfl ?_); refine goesL_ (some 66) rfl rfl Tryd.func57 (by kernel_rfl) rfl #[.pointer (some ⟨g, 0, none⟩)] rfl (by (try simp only [List.map_toArray, List.map_cons, List.map_nil]); first | done | rfl | (simp only [List.length_drop, List.length_take]; rfl)) ?_; (with_reducible refine (keys_reader_next.calls g s0_0 x1001_4 x1002_4 t378 t379 false w0 _ ?side1 ?side2 A55.out).mono ?_); (case side1 => repeat (first | (with_reducible first | exact HI0.out | apply IsS54.alloc | apply IsS54.drewN | apply IsS54.drew | apply IsS54.set_1 | apply IsS54.set_2 | refine IsS54.far ?_ NB0_367.out _ | refine IsS54.far ?_ NB0_371.out _) | exact HI0.out)); (case side2 => repeat (first | (with_reducible first | exact HB.out | apply below_alloc | apply pw_below_drewN | apply below_drew1 | refine below_set ?_ (IsS54.ge HI0.out) | refine below_set ?_ GE367.out | refine below_set ?_ GE371.out) | exact HB.out)); rintro e w107 ⟨rfl, hi, hb, hk⟩; refine ⟨_, rfl, ?_⟩; have n0_ := Aside0.mk (Kd.R_mono (Kd.R_keep (IsS54.apart (show IsS54 w0 _ g s0_0 x1001_4 x1002_4 from by repeat (first | (with_reducible first | exact HI0.out | apply IsS54.alloc | apply IsS54.drewN | apply IsS54.drew | apply IsS54.set_1 | apply IsS54.set_2 | refine IsS54.far ?_ NB0_367.out _ | refine IsS54.far ?_ NB0_371.out _) | exact HI0.out)) (by (with_reducible repeat (first | apply Kd.R_alloc | apply Kd.R_drewN | apply Kd.R_drew)); exact HO_372003.out) (by decide)) hk (fun _ h => h.2)) (fun _ h => h.1)); have n1_ := Aside0.mk (Kd.R_mono (Kd.R_keep (IsS54.apart (show IsS54 w0 _ g s0_0 x1001_4 x1002_4 from by repeat (first | (with_reducible first | exact HI0.out | apply IsS54.alloc | apply IsS54.drewN | apply IsS54.drew | apply IsS54.set_1 | apply IsS54.set_2 | refine IsS54.far ?_ NB0_367.out _ | refine IsS54.far ?_ NB0_371.out _) | exact HI0.out)) (by (with_reducible repeat (first | apply Kd.R_alloc | apply Kd.R_drewN | apply Kd.R_drew)); exact HO_372004.out) (by decide)) hk (fun _ h => h.2)) (fun _ h => h.1)); have n2_ := Aside0.mk (KeepBut.blk hk (g' := gb367) (o := .cells #[.int .i64 0, .int .i64 0, .string (⟨#[]⟩ : ByteArray), .slice none 0 0, .slice none 0 0] 25 (0, 0)) (by (with_reducible repeat (first | refine blk_drewN ?_ _ | refine blk_drew ?_ | refine blk_alloc ?_ _)); exact BK367.out) NB367_0.out (by simp)); have n3_ := Aside0.mk (KeepBut.blk hk (g' := gb371) (o := .cells #[.int .i64 (wrap64 ((wrap64 (t368)) - 1)), .int .i64 0, .string (⟨#[]⟩ : ByteArray), u372003, u372004] 25 (0, 0)) (by (with_reducible repeat (first | refine blk_drewN ?_ _ | refine blk_drew ?_ | refine blk_alloc ?_ _)); exact BK371.out) NB371_0.out (by simp)); have n4_ := Aside0.mk (KeepBut.trans (by repeat (first | (with_reducible first | exact HK.out | apply KeepBut.set_ | apply keep_drewN | apply keep_drew | apply keep_alloc | refine keep_far ?_ GW367.out _ | refine keep_far ?_ GW371.out _) | exact HK.out)) hk (.inl rfl)); have n5_ := Aside0.mk (hb); have n6_ := Aside0.mk (hi); clear HO_372003; clear HO_372004; clear BK367; clear BK371; clear HK; clear HB; clear HI0; have HO_372003 := n0_; have HO_372004 := n1_; have BK367 := n2_; have BK371 := n3_; have HK := n4_; have HB := n5_; have HI0 := n6_; clear n0_ n1_ n2_ n3_ n4_ n5_ n6_; (try clear hb); (try clear hb2); (try clear hk); (try clear hi); have hnb108 := NB371_367.out; have hnc108 := NB367_371.out; have hnb109 := NB371_0.out; have hnc109 := NB0_371.out; have hcz110_0 : w107.cell? ⟨gb371, 0, none⟩ = some (.int .i64 (wrap64 ((wrap64 (t368)) - 1))) := (blk_cell BK371.out 0).trans rfl; have hcz110_1 : w107.cell? ⟨gb371, 1, none⟩ = some (.int .i64 0) := (blk_cell BK371.out 1).trans rfl; have hcz110_2 : w107.cell? ⟨gb371, 2, none⟩ = some (.string (⟨#[]⟩ : ByteArray)) := (blk_cell BK371.out 2).trans rfl; have hcz110_3 : w107.cell? ⟨gb371, 3, none⟩ = some (u372003) := (blk_cell BK371.out 3).trans rfl; have hcz110_4 : w107.cell? ⟨gb371, 4, none⟩ = some (u372004) := (blk_cell BK371.out 4).trans rfl; have hfz110_0 := blk_frozen BK371.out 0; have hfz110_1 := blk_frozen BK371.out 1; have hfz110_2 := blk_frozen BK371.out 2; have hfz110_3 := blk_frozen BK371.out 3; have hfz110_4 := blk_frozen BK371.out 4; obtain ⟨ASz111_0, cSz111_0, HGz111, hgz111, HSz111_0⟩ := HI0.out; have hcz111_0 := cellS54_0 HGz111; have hcz111_1 := cellS54_1 HGz111; have hcz111_2 := cellS54_2 HGz111; have hfz111_1 := blk_frozen HGz111 1; have hfz111_2 := blk_frozen HGz111 2; clear HGz111 hgz111))
                                      have n0_ : Aside0 (Kd.R Kd.string 9 (w107.setCell ⟨g, 1, none⟩ (.int .i64 (wrap64 (t379 - 1)))) w.heap.size (fun _ => True) u372003 x372003_4) := ⟨by (with_reducible repeat (first | apply Kd.R_alloc | apply Kd.R_drewN | apply Kd.R_drew)); exact Kd.R_mono (Kd.R_far (p := ⟨g, 1, none⟩) (IsS54.apart HI0.out HO_372003.out (by decide)) (fun _ hk => hk.2) (.int .i64 (wrap64 (t379 - 1)))) (fun _ hk => trivial)⟩
                                      have n1_ : Aside0 (Kd.R k25 25 (w107.setCell ⟨g, 1, none⟩ (.int .i64 (wrap64 (t379 - 1)))) w.heap.size (fun k_ => some k_ ≠ (u372003 : Value).ownBlock ∧ k_ ≠ gb367 ∧ k_ ≠ gb371) u372004 x372004_4) := ⟨by (with_reducible repeat (first | apply Kd.R_alloc | apply Kd.R_drewN | apply Kd.R_drew)); exact Kd.R_mono (Kd.R_far (p := ⟨g, 1, none⟩) (IsS54.apart HI0.out HO_372004.out (by decide)) (fun _ hk => hk.2) (.int .i64 (wrap64 (t379 - 1)))) (fun _ hk => ⟨hk.1.1, ⟨hk.1.2.1, hk.1.2.2⟩⟩)⟩
                                      have n2_ : Aside0 ((w107.setCell ⟨g, 1, none⟩ (.int .i64 (wrap64 (t379 - 1)))).heap[gb367]? = some (.cells #[.int .i64 0, .int .i64 0, .string (⟨#[]⟩ : ByteArray), .slice none 0 0, .slice none 0 0] 25 (0, 0))) := ⟨by (with_reducible repeat (first | refine blk_drewN ?_ _ | refine blk_drew ?_ | refine blk_alloc ?_ _)); refine blk_far ?_ NB367_0.out _; (with_reducible repeat (first | refine blk_drewN ?_ _ | refine blk_drew ?_ | refine blk_alloc ?_ _)); exact BK367.out⟩
                                      have n3_ : Aside0 ((w107.setCell ⟨g, 1, none⟩ (.int .i64 (wrap64 (t379 - 1)))).heap[gb371]? = some (.cells #[.int .i64 (wrap64 ((wrap64 (t368)) - 1)), .int .i64 0, .string (⟨#[]⟩ : ByteArray), u372003, u372004] 25 (0, 0))) := ⟨by (with_reducible repeat (first | refine blk_drewN ?_ _ | refine blk_drew ?_ | refine blk_alloc ?_ _)); refine blk_far ?_ NB371_0.out _; (with_reducible repeat (first | refine blk_drewN ?_ _ | refine blk_drew ?_ | refine blk_alloc ?_ _)); exact BK371.out⟩
                                      have n4_ : Aside0 (IsS54 w0 (w107.setCell ⟨g, 1, none⟩ (.int .i64 (wrap64 (t379 - 1)))) g s0_0 (wrap64 (t379 - 1)) false) := ⟨by repeat (first | (with_reducible first | exact HI0.out | apply IsS54.alloc | apply IsS54.drewN | apply IsS54.drew | apply IsS54.set_1 | apply IsS54.set_2 | refine IsS54.far ?_ NB0_367.out _ | refine IsS54.far ?_ NB0_371.out _) | exact HI0.out)⟩
                                      have n5_ : Aside0 (KeepBut w (w107.setCell ⟨g, 1, none⟩ (.int .i64 (wrap64 (t379 - 1)))) g none) := ⟨by repeat (first | (with_reducible first | exact HK.out | apply KeepBut.set_ | apply keep_drewN | apply keep_drew | apply keep_alloc | refine keep_far ?_ GW367.out _ | refine keep_far ?_ GW371.out _) | exact HK.out)⟩
                                      have n6_ : Aside0 (Below w0.heap.size w0 (w107.setCell ⟨g, 1, none⟩ (.int .i64 (wrap64 (t379 - 1))))) := ⟨by repeat (first | (with_reducible first | exact HB.out | apply below_alloc | apply pw_below_drewN | apply below_drew1 | refine below_set ?_ (IsS54.ge HI0.out) | refine below_set ?_ GE367.out | refine below_set ?_ GE371.out) | exact HB.out)⟩
                                      (try clear HO_372003)
                                      (try clear HO_372004)
                                      (try clear BK367)
                                      (try clear BK371)
                                      (try clear HI0)
                                      (try clear HK)
                                      (try clear HB)
                                      generalize (w107.setCell ⟨g, 1, none⟩ (.int .i64 (wrap64 (t379 - 1)))) = w112 at n0_ n1_ n2_ n3_ n4_ n5_ n6_ ⊢
                                      have HO_372003 := n0_
                                      have HO_372004 := n1_
                                      have BK367 := n2_
                                      have BK371 := n3_
                                      have HI0 := n4_
                                      have HK := n5_
                                      have HB := n6_
                                      clear n0_ n1_ n2_ n3_ n4_ n5_ n6_
                                      have n0_ := Aside0.mk (Kd.R_drew HO_372003.out)
                                      have n1_ := Aside0.mk (Kd.R_drew HO_372004.out)
                                      have n2_ := Aside0.mk (blk_drew BK367.out)
                                      have n3_ := Aside0.mk (blk_drew BK371.out)
                                      have n4_ := Aside0.mk (IsS54.drew HI0.out)
                                      have n5_ := Aside0.mk (keep_drew HK.out)
                                      have n6_ := Aside0.mk (below_drew1 HB.out)
                                      clear HO_372003
                                      clear HO_372004
                                      clear BK367
                                      clear BK371
                                      clear HI0
                                      clear HK
                                      clear HB
                                      have HO_372003 := n0_
                                      have HO_372004 := n1_
                                      have BK367 := n2_
                                      have BK371 := n3_
                                      have HI0 := n4_
                                      have HK := n5_
                                      have HB := n6_
                                      clear n0_ n1_ n2_ n3_ n4_ n5_ n6_
                                      refine start_ (n := 10) (S := fun w' => w'.cell? ⟨gb371, 0, none⟩ = some (.int .i64 (wrap64 ((wrap64 (t368)) - 1))) ∧ w'.cell? ⟨gb371, 1, none⟩ = some (.int .i64 0) ∧ w'.cell? ⟨gb371, 2, none⟩ = some (.string (⟨#[]⟩ : ByteArray)) ∧ w'.cell? ⟨gb371, 3, none⟩ = some (u372003) ∧ w'.cell? ⟨gb371, 4, none⟩ = some (u372004)) (ds := [9]) #[false, false, false, false, false, false, false, false, false, false] (by kernel_rfl) rfl rfl ⟨(blk_cell BK371.out 0).trans rfl, (blk_cell BK371.out 1).trans rfl, (blk_cell BK371.out 2).trans rfl, (blk_cell BK371.out 3).trans rfl, (blk_cell BK371.out 4).trans rfl⟩ (fun hHeld => ?_); refine with_tabW keys_reader_value.tab25 keys_reader_value.bits25 (fun HT_ HW_ => ?_)
                                      generalize w112.drew = w113 at HO_372003 HO_372004 BK367 BK371 HI0 HK HB hHeld ⊢
                                      refine pure_ (i := 0) (N := some 102) (v := ?_) (a' := ?_) #[true, false, false, false, false, false, false, false, false, false] rfl rfl (any_of HT_.out (by kernel_rfl)) (fun _ _ _ h => h) (Or.inl ⟨by rfl, ?_⟩) ?_ ?_
                                      rotate_left
                                      · intro w'
                                        go_simp
                                        with_reducible rfl
                                      rotate_left
                                      · simp only [u64_ones_, Act.put, List.setIfInBounds_toArray, List.set_cons_zero, List.set_cons_succ, i64_w, i32_w]
                                        rfl
                                      refine pure_ (i := 2) (N := some 104) (v := ?_) (a' := ?_) #[true, false, true, false, false, false, false, false, false, false] rfl rfl (any_of HT_.out (by kernel_rfl)) (fun _ _ _ h => h) (Or.inl ⟨by rfl, ?_⟩) ?_ ?_
                                      rotate_left
                                      · intro w'
                                        go_simp
                                        with_reducible rfl
                                      rotate_left
                                      · simp only [u64_ones_, Act.put, List.setIfInBounds_toArray, List.set_cons_zero, List.set_cons_succ, i64_w, i32_w]
                                        rfl
                                      refine pure_ (i := 3) (N := some 105) (v := ?_) (a' := ?_) #[true, false, true, true, false, false, false, false, false, false] rfl rfl (any_of HT_.out (by kernel_rfl)) (fun _ _ _ h => h) (Or.inl ⟨by rfl, ?_⟩) ?_ ?_
                                      rotate_left
                                      · intro w'
                                        go_simp
                                        with_reducible rfl
                                      rotate_left
                                      · simp only [u64_ones_, Act.put, List.setIfInBounds_toArray, List.set_cons_zero, List.set_cons_succ, i64_w, i32_w]
                                        rfl
                                      refine pure_ (i := 4) (N := some 106) (v := ?_) (a' := ?_) #[true, false, true, true, true, false, false, false, false, false] rfl rfl (any_of HT_.out (by kernel_rfl)) (fun _ _ _ h => h) (Or.inl ⟨by rfl, ?_⟩) ?_ ?_
                                      rotate_left
                                      · intro w'
                                        go_simp
                                        with_reducible rfl
                                      rotate_left
                                      · simp only [u64_ones_, Act.put, List.setIfInBounds_toArray, List.set_cons_zero, List.set_cons_succ, i64_w, i32_w]
                                        rfl
                                      refine take_ (i := 1) (N := some 103) (v := ?_) (a' := ?_) #[true, true, true, true, true, false, false, false, false, false] rfl rfl (take_ofW HT_.out HW_.out (by kernel_rfl)) (fun _ _ _ h => h) (Or.inl ⟨by rfl, ?_⟩) hHeld ?_ ?_
                                      rotate_left
                                      · rintro w' ⟨s0, s1, s2, s3, s4⟩
                                        go_simp
                                        with_reducible rfl
                                      rotate_left
                                      · simp only [u64_ones_, Act.put, List.setIfInBounds_toArray, List.set_cons_zero, List.set_cons_succ, i64_w, i32_w]
                                        rfl
                                      refine one_ (i := 5) (N := some 107) #[true, true, true, true, true, true, false, false, false, false] rfl rfl (one_of HT_.out (by kernel_rfl)) (by decide) (fun K hK => ?_)
                                      refine goes_ Tryd.func47 (by kernel_rfl) rfl #[.pointer (some ⟨g, 0, none⟩), .int .i64 (wrap64 (a1 - 1))] (by rfl) rfl rfl (by (try simp only [List.map_toArray, List.map_cons, List.map_nil]); first | done | rfl | (simp only [List.length_drop, List.length_take]; rfl)) ?_
                                      with_reducible refine (ih kj45 (by have := HJ3.out; have := HJ18.out; have := HJ39.out; have := HK4.out; have := HJ45.out; omega) g s0_0 (wrap64 (t379 - 1)) false (wrap64 (a1 - 1)) t401 t402 t403 t404 t407 t410 t411 w0 _ ?side1 ?side2 A105.out).mono ?_
                                      (case side1 => repeat (first | (with_reducible first | exact HI0.out | apply IsS54.alloc | apply IsS54.drewN | apply IsS54.drew | apply IsS54.set_1 | apply IsS54.set_2 | refine IsS54.far ?_ NB0_367.out _ | refine IsS54.far ?_ NB0_371.out _) | exact HI0.out))
                                      (case side2 => repeat (first | (with_reducible first | exact HB.out | apply below_alloc | apply pw_below_drewN | apply below_drew1 | refine below_set ?_ (IsS54.ge HI0.out) | refine below_set ?_ GE367.out | refine below_set ?_ GE371.out) | exact HB.out))
                                      rintro e w114 ⟨v405, v408, rfl, ho0, ho1, hi, hb, hk⟩
                                      refine ⟨_, rfl, ?_⟩
                                      have n0_ := Aside0.mk (Kd.R_mono (Kd.R_told (Kd.R_oldK (IsS54.apart (show IsS54 w0 _ g s0_0 (wrap64 (t379 - 1)) false from by repeat (first | (with_reducible first | exact HI0.out | apply IsS54.alloc | apply IsS54.drewN | apply IsS54.drew | apply IsS54.set_1 | apply IsS54.set_2 | refine IsS54.far ?_ NB0_367.out _ | refine IsS54.far ?_ NB0_371.out _) | exact HI0.out)) (by (with_reducible repeat (first | apply Kd.R_alloc | apply Kd.R_drewN | apply Kd.R_drew)); exact HO_372003.out) (by decide)) hk) (Kd.R_base ho0)) (fun _ h_ => h_.1))
                                      have n1_ := Aside0.mk (Kd.R_mono (Kd.R_told (Kd.R_told (Kd.R_oldK (IsS54.apart (show IsS54 w0 _ g s0_0 (wrap64 (t379 - 1)) false from by repeat (first | (with_reducible first | exact HI0.out | apply IsS54.alloc | apply IsS54.drewN | apply IsS54.drew | apply IsS54.set_1 | apply IsS54.set_2 | refine IsS54.far ?_ NB0_367.out _ | refine IsS54.far ?_ NB0_371.out _) | exact HI0.out)) (by (with_reducible repeat (first | apply Kd.R_alloc | apply Kd.R_drewN | apply Kd.R_drew)); exact HO_372004.out) (by decide)) hk) (Kd.R_base ho0)) (Kd.R_base ho1)) (fun _ h_ => h_.1))
                                      have n2_ := Aside0.mk (KeepBut.blk hk (g' := gb367) (o := .cells #[.int .i64 0, .int .i64 0, .string (⟨#[]⟩ : ByteArray), .slice none 0 0, .slice none 0 0] 25 (0, 0)) (by (with_reducible repeat (first | refine blk_drewN ?_ _ | refine blk_drew ?_ | refine blk_alloc ?_ _)); exact BK367.out) NB367_0.out (by simp))
                                      have n3_ := Aside0.mk (KeepBut.blk hk (g' := gb371) (o := .cells #[.int .i64 (wrap64 ((wrap64 (t368)) - 1)), .int .i64 0, .string (⟨#[]⟩ : ByteArray), u372003, u372004] 25 (0, 0)) (by (with_reducible repeat (first | refine blk_drewN ?_ _ | refine blk_drew ?_ | refine blk_alloc ?_ _)); exact BK371.out) NB371_0.out (by simp))
                                      have n4_ := Aside0.mk (Kd.R_lower (Kd.R_new' ho0 (Kd.R_lt (by (with_reducible repeat (first | apply Kd.R_alloc | apply Kd.R_drewN | apply Kd.R_drew)); exact HO_372003.out))) (keep_size (w := w) (g := g) (row := none) (by repeat (first | (with_reducible first | exact HK.out | apply KeepBut.set_ | apply keep_drewN | apply keep_drew | apply keep_alloc | refine keep_far ?_ GW367.out _ | refine keep_far ?_ GW371.out _) | exact HK.out))))
                                      have n5_ := Aside0.mk (Kd.R_lower (Kd.R_newB (Kd.R_newB (Kd.R_new' (Kd.R_new' ho1 (Kd.R_lt (by (with_reducible repeat (first | apply Kd.R_alloc | apply Kd.R_drewN | apply Kd.R_drew)); exact HO_372003.out))) (Kd.R_lt (by (with_reducible repeat (first | apply Kd.R_alloc | apply Kd.R_drewN | apply Kd.R_drew)); exact HO_372004.out))) (g := gb367) (o := .cells #[.int .i64 0, .int .i64 0, .string (⟨#[]⟩ : ByteArray), .slice none 0 0, .slice none 0 0] 25 (0, 0)) (by (with_reducible repeat (first | refine blk_drewN ?_ _ | refine blk_drew ?_ | refine blk_alloc ?_ _)); exact BK367.out)) (g := gb371) (o := .cells #[.int .i64 (wrap64 ((wrap64 (t368)) - 1)), .int .i64 0, .string (⟨#[]⟩ : ByteArray), u372003, u372004] 25 (0, 0)) (by (with_reducible repeat (first | refine blk_drewN ?_ _ | refine blk_drew ?_ | refine blk_alloc ?_ _)); exact BK371.out)) (keep_size (w := w) (g := g) (row := none) (by repeat (first | (with_reducible first | exact HK.out | apply KeepBut.set_ | apply keep_drewN | apply keep_drew | apply keep_alloc | refine keep_far ?_ GW367.out _ | refine keep_far ?_ GW371.out _) | exact HK.out))))
                                      have n6_ := Aside0.mk (KeepBut.trans (by repeat (first | (with_reducible first | exact HK.out | apply KeepBut.set_ | apply keep_drewN | apply keep_drew | apply keep_alloc | refine keep_far ?_ GW367.out _ | refine keep_far ?_ GW371.out _) | exact HK.out)) hk (.inl rfl))
                                      have n7_ := Aside0.mk (hb)
                                      have n8_ := Aside0.mk (hi)
                                      clear HO_372003
                                      clear HO_372004
                                      clear BK367
                                      clear BK371
                                      clear HK
                                      clear HB
                                      clear HI0
                                      have HO_372003 := n0_
                                      have HO_372004 := n1_
                                      have BK367 := n2_
                                      have BK371 := n3_
                                      have HO406 := n4_
                                      have HO409 := n5_
                                      have HK := n6_
                                      have HB := n7_
                                      have HI0 := n8_
                                      clear n0_ n1_ n2_ n3_ n4_ n5_ n6_ n7_ n8_
                                      (try clear hb)
                                      (try clear hb2)
                                      (try clear hk)
                                      (try clear hi)
                                      (try clear ho0)
                                      (try clear ho1)
                                      obtain ⟨Ao116, co116, eo116⟩ := Kd.R_slice HO406.out
                                      (first | subst eo116 | (injection eo116 with f1_ f2_ f3_; have f4_ := f1_.symm; have f5_ := f3_.symm; clear f1_ f2_ f3_; subst f4_; subst f5_))
                                      obtain ⟨Ao117, co117, eo117⟩ := Kd.R_slice HO409.out
                                      (first | subst eo117 | (injection eo117 with f1_ f2_ f3_; have f4_ := f1_.symm; have f5_ := f3_.symm; clear f1_ f2_ f3_; subst f4_; subst f5_))
                                      refine hK.out _ _ ⟨(blk_cell BK371.out 0).trans rfl, (blk_cell BK371.out 1).trans rfl, (blk_cell BK371.out 2).trans rfl, (blk_cell BK371.out 3).trans rfl, (blk_cell BK371.out 4).trans rfl⟩ (fun hHeld => ?_)
                                      clear hK K
                                      refine norm_ (a' := ?_) ?_ ?_
                                      rotate_left
                                      · show Act.put _ (some 107) _ = _
                                        simp only [u64_ones_, Act.put, List.setIfInBounds_toArray, List.set_cons_zero, List.set_cons_succ, i64_w, i32_w]
                                        rfl
                                      refine one_ (i := 6) (N := some 108) #[true, true, true, true, true, true, true, false, false, false] rfl rfl (one_of HT_.out (by kernel_rfl)) (by decide) (fun K hK => ?_)
                                      refine value_ (w1 := ?_) (v := ?_) (by rfl) rfl ?_ ?_
                                      rotate_left 2
                                      · go_simp
                                        constructor
                                        · rfl
                                        · rfl
                                      refine hK.out _ _ ⟨(blk_cell (blk_alloc BK371.out _) 0).trans rfl, (blk_cell (blk_alloc BK371.out _) 1).trans rfl, (blk_cell (blk_alloc BK371.out _) 2).trans rfl, (blk_cell (blk_alloc BK371.out _) 3).trans rfl, (blk_cell (blk_alloc BK371.out _) 4).trans rfl⟩ (fun hHeld => ?_)
                                      clear hK K
                                      refine norm_ (a' := ?_) ?_ ?_
                                      rotate_left
                                      · show Act.put _ (some 108) _ = _
                                        simp only [u64_ones_, Act.put, List.setIfInBounds_toArray, List.set_cons_zero, List.set_cons_succ, i64_w, i32_w]
                                        rfl
                                      refine one_ (i := 7) (N := some 109) #[true, true, true, true, true, true, true, true, false, false] rfl rfl (one_of HT_.out (by kernel_rfl)) (by decide) (fun K hK => ?_)
                                      refine Kd.R_append_step k25 w.heap.size (by rfl) (.tmp 103) (.tmp 108) 23 25 (.agg #[(.int .i64 0), (.int .i64 0), (.string ⟨#[]⟩), (.slice none 0 0), (.slice none 0 0)]) 80 rfl Tryd.underlying23 info25 rfl (by decide) (by omega) u372004 x372004_4 (⟨t401, t402, t403, t404, t407⟩ : S25) [.int .i64 t401, .int .i64 t402, .string t403, .slice Ao116 t404.length co116, .slice Ao117 t407.length co117] (fun k_ => some k_ ≠ (u372003 : Value).ownBlock ∧ k_ ≠ gb367 ∧ k_ ≠ gb371) (fun k_ => ((fun k_ => some k_ ≠ (u372003 : Value).ownBlock ∧ k_ ≠ gb367 ∧ k_ ≠ gb371)) k_ ∧ some k_ ≠ (u372004 : Value).ownBlock) rfl rfl ?aP (fun _ hk => hk) ?aF ?aO (Below.refl _ _) ?aS ?aL ?_
                                      (case aP => exact k25_mkM _ _ _ (⟨t401, t402, t403, t404, t407⟩ : S25) (Kd.R_mono (Kd.R_types (Kd.R_types (Kd.R_apart' (HO406.out) (Kd.R_typed HO_372004.out) (by decide)) BK367.out (by decide)) BK371.out (by decide)) (fun k_ hk => ⟨⟨hk.1.1.1.2, ⟨hk.1.2, hk.2⟩⟩, hk.1.1.2⟩)) (Kd.R_mono (HO409.out) (fun k_ hk => ⟨⟨hk.1.1.1.2, ⟨hk.1.2, hk.2⟩⟩, hk.1.1.2⟩)))
                                      (case aF => exact (fun k_ hk => ⟨Kd.fresh' (Kd.R_lt (by (with_reducible repeat (first | apply Kd.R_alloc | apply Kd.R_drewN | apply Kd.R_drew)); exact HO_372003.out)) k_ hk, Kd.freshB (g := gb367) (o := .cells #[.int .i64 0, .int .i64 0, .string (⟨#[]⟩ : ByteArray), .slice none 0 0, .slice none 0 0] 25 (0, 0)) (by (with_reducible repeat (first | refine blk_drewN ?_ _ | refine blk_drew ?_ | refine blk_alloc ?_ _)); exact BK367.out) k_ hk, Kd.freshB (g := gb371) (o := .cells #[.int .i64 (wrap64 ((wrap64 (t368)) - 1)), .int .i64 0, .string (⟨#[]⟩ : ByteArray), u372003, u372004] 25 (0, 0)) (by (with_reducible repeat (first | refine blk_drewN ?_ _ | refine blk_drew ?_ | refine blk_alloc ?_ _)); exact BK371.out) k_ hk⟩))
                                      (case aO => exact (by (with_reducible repeat (first | apply Kd.R_alloc | apply Kd.R_drewN | apply Kd.R_drew)); exact Kd.R_mono HO_372004.out (fun _ hk => ⟨hk.1.1.1, ⟨hk.1.1.2.1, hk.1.1.2.2⟩⟩)))
                                      (case aS => exact (keep_size (w := w) (g := g) (row := none) (by repeat (first | (with_reducible first | exact HK.out | apply KeepBut.set_ | apply keep_drewN | apply keep_drew | apply keep_alloc | refine keep_far ?_ GW367.out _ | refine keep_far ?_ GW371.out _) | exact HK.out))))
                                      (case aL => have := LMc106.out; omega)
                                      intro v413 w115 ho hb hg hat
                                      rw [← Ny412.out] at ho
                                      have n0_ := Aside0.mk (Kd.R_over' (by (with_reducible repeat (first | apply Kd.R_alloc | apply Kd.R_drewN | apply Kd.R_drew)); exact HO_372003.out) (Kd.R_typed (by (with_reducible repeat (first | apply Kd.R_alloc | apply Kd.R_drewN | apply Kd.R_drew)); exact HO_372004.out)) (by decide) hg)
                                      have n1_ := Aside0.mk (blk_grown (g := gb367) (o := .cells #[.int .i64 0, .int .i64 0, .string (⟨#[]⟩ : ByteArray), .slice none 0 0, .slice none 0 0] 25 (0, 0)) (by (with_reducible repeat (first | refine blk_drewN ?_ _ | refine blk_drew ?_ | refine blk_alloc ?_ _)); exact BK367.out) hg (Kd.R_away HO_372004.out (fun _ hk => hk.1.1.2.1)))
                                      have n2_ := Aside0.mk (blk_grown (g := gb371) (o := .cells #[.int .i64 (wrap64 ((wrap64 (t368)) - 1)), .int .i64 0, .string (⟨#[]⟩ : ByteArray), u372003, u372004] 25 (0, 0)) (by (with_reducible repeat (first | refine blk_drewN ?_ _ | refine blk_drew ?_ | refine blk_alloc ?_ _)); exact BK371.out) hg (Kd.R_away HO_372004.out (fun _ hk => hk.1.1.2.2)))
                                      have n3_ := Aside0.mk (IsS54.grown (by repeat (first | (with_reducible first | exact HI0.out | apply IsS54.alloc | apply IsS54.drewN | apply IsS54.drew | apply IsS54.set_1 | apply IsS54.set_2 | refine IsS54.far ?_ NB0_367.out _ | refine IsS54.far ?_ NB0_371.out _) | exact HI0.out)) hg (IsS54.own_ne HI0.out HO_372004.out (by decide)))
                                      have n4_ := Aside0.mk (below_weaken (by repeat (first | (with_reducible first | exact HB.out | apply below_alloc | apply pw_below_drewN | apply below_drew1 | refine below_set ?_ (IsS54.ge HI0.out) | refine below_set ?_ GE367.out | refine below_set ?_ GE371.out) | exact HB.out)) HL.out hb)
                                      have n5_ := Aside0.mk (KeepBut.trans (by repeat (first | (with_reducible first | exact HK.out | apply KeepBut.set_ | apply keep_drewN | apply keep_drew | apply keep_alloc | refine keep_far ?_ GW367.out _ | refine keep_far ?_ GW371.out _) | exact HK.out)) (KeepBut.of_grown hg g) (Kd.R_base2 HO_372004.out))
                                      have n6_ := Aside0.mk (ho)
                                      clear HO_372003
                                      clear BK367
                                      clear BK371
                                      clear HI0
                                      clear HB
                                      clear HK
                                      clear HO_372004
                                      clear HO406
                                      clear HO409
                                      have HO_372003 := n0_
                                      have BK367 := n1_
                                      have BK371 := n2_
                                      have HI0 := n3_
                                      have HB := n4_
                                      have HK := n5_
                                      have HO414 := n6_
                                      clear n0_ n1_ n2_ n3_ n4_ n5_ n6_
                                      clear ho hb hg hat
                                      obtain ⟨Ao118, co118, eo118⟩ := Kd.R_slice HO414.out
                                      (first | subst eo118 | (injection eo118 with f1_ f2_ f3_; have f4_ := f1_.symm; have f5_ := f3_.symm; clear f1_ f2_ f3_; subst f4_; subst f5_))
                                      refine hK.out _ _ ⟨(blk_cell BK371.out 0).trans rfl, (blk_cell BK371.out 1).trans rfl, (blk_cell BK371.out 2).trans rfl, (blk_cell BK371.out 3).trans rfl, (blk_cell BK371.out 4).trans rfl⟩ (fun hHeld => ?_)
                                      clear hK K
                                      refine norm_ (a' := ?_) ?_ ?_
                                      rotate_left
                                      · show Act.put _ (some 109) _ = _
                                        simp only [u64_ones_, Act.put, List.setIfInBounds_toArray, List.set_cons_zero, List.set_cons_succ, i64_w, i32_w]
                                        rfl
                                      refine pure_ (i := 8) (N := some 110) (v := ?_) (a' := ?_) #[true, true, true, true, true, true, true, true, true, false] rfl rfl (any_of HT_.out (by kernel_rfl)) (fun _ _ _ h => h) (Or.inl ⟨by rfl, ?_⟩) ?_ ?_
                                      rotate_left
                                      · intro w'
                                        go_simp
                                        with_reducible rfl
                                      rotate_left
                                      · simp only [u64_ones_, Act.put, List.setIfInBounds_toArray, List.set_cons_zero, List.set_cons_succ, i64_w, i32_w]
                                        rfl
                                      refine last_ (i := 9) (N := none) #[true, true, true, true, true, true, true, true, true, true] rfl rfl (one_of HT_.out (by kernel_rfl)) (by decide) (fun K hK => ?_)
                                      have hs119 : w115.cell? ⟨gb371, 4, none⟩ = some (u372004) := (blk_cell BK371.out 4).trans rfl
                                      have hfs119 := blk_frozen BK371.out 4
                                      have hns119_0 := NB367_371.out
                                      have hms119_0 := NB371_367.out
                                      refine skip_ (w1 := ?_) (by rfl) rfl ?_ ?_
                                      rotate_left
                                      · go_simp
                                        rfl
                                      refine hK.out _ _ ?_
                                      clear hK K
                                      refine done_ (done_of HT_.out (by kernel_rfl)) ?_
                                      try go_wp2
                                      go_roundg kj45
                                      case measure => have := HJ3.out; have := HJ18.out; have := HJ39.out; have := HK4.out; have := HJ45.out; omega
                                      case rel => exact ⟨(t410), (t411), (x372003_4), (y412), (u372003), (.slice Ao118 y412.length co118), H', ⟨by have := HJ3.out; have := HJ18.out; have := HJ39.out; have := HK4.out; have := HJ45.out; omega⟩, ⟨by (with_reducible repeat (first | apply Kd.R_alloc | apply Kd.R_drewN | apply Kd.R_drew)); exact Kd.R_mono (Kd.R_far (p := ⟨gb371, 4, none⟩) (Kd.R_types HO_372003.out BK371.out (by decide)) (fun _ hk => hk.2) (.slice Ao118 y412.length co118)) (fun _ hk => trivial)⟩, ⟨by (with_reducible repeat (first | apply Kd.R_alloc | apply Kd.R_drewN | apply Kd.R_drew)); exact Kd.R_mono (Kd.R_far (p := ⟨gb371, 4, none⟩) (Kd.R_mono HO414.out (fun k_ hk => (⟨hk, hk.2.2⟩ : _ ∧ k_ ≠ gb371))) (fun _ hk => hk.2) (.slice Ao118 y412.length co118)) (fun _ hk => ⟨hk.1.1, ⟨hk.1.2.1, hk.1.2.2⟩⟩)⟩, ⟨by (with_reducible repeat (first | refine blk_drewN ?_ _ | refine blk_drew ?_ | refine blk_alloc ?_ _)); refine blk_far ?_ NB367_371.out _; (with_reducible repeat (first | refine blk_drewN ?_ _ | refine blk_drew ?_ | refine blk_alloc ?_ _)); exact BK367.out⟩, ⟨by (with_reducible repeat (first | refine blk_drewN ?_ _ | refine blk_drew ?_ | refine blk_alloc ?_ _)); refine blk_put (cs := #[.int .i64 (wrap64 ((wrap64 (t368)) - 1)), .int .i64 0, .string (⟨#[]⟩ : ByteArray), u372003, u372004]) ?_ 4 _ rfl; (with_reducible repeat (first | refine blk_drewN ?_ _ | refine blk_drew ?_ | refine blk_alloc ?_ _)); exact BK371.out⟩, ⟨by repeat (first | (with_reducible first | exact HI0.out | apply IsS54.alloc | apply IsS54.drewN | apply IsS54.drew | apply IsS54.set_1 | apply IsS54.set_2 | refine IsS54.far ?_ NB0_367.out _ | refine IsS54.far ?_ NB0_371.out _) | exact HI0.out)⟩, ⟨by repeat (first | (with_reducible first | exact HK.out | apply KeepBut.set_ | apply keep_drewN | apply keep_drew | apply keep_alloc | refine keep_far ?_ GW367.out _ | refine keep_far ?_ GW371.out _) | exact HK.out)⟩, ⟨by repeat (first | (with_reducible first | exact HB.out | apply below_alloc | apply pw_below_drewN | apply below_drew1 | refine below_set ?_ (IsS54.ge HI0.out) | refine below_set ?_ GE367.out | refine below_set ?_ GE371.out) | exact HB.out)⟩⟩
                                    · rw [if_neg c106] at H
                                      exact absurd H (by simp)
                            · replace c54 := Bool.eq_false_iff.mpr c54
                              subst c54
                              have H1 : (some ((wrap64 ((wrap64 (t368)) - 1)), 0, (⟨#[]⟩ : ByteArray), x372003_4, x372004_4, x1001_4, x1002_4)) = some (r1, r2, r3, r4, r5, r6, r7) := by rw [if_neg (show ¬ (false = true) by decide)] at H; exact H
                              clear H
                              have H := H1
                              clear H1
                              simp only [Option.some.injEq, Prod.mk.injEq] at H
                              obtain ⟨rfl, rfl, rfl, rfl, rfl, rfl, rfl⟩ := H
                              have hnb120 := NB371_367.out
                              have hnc120 := NB367_371.out
                              have hnb121 := NB371_0.out
                              have hnc121 := NB0_371.out
                              have hcz122_0 : wc.cell? ⟨gb371, 0, none⟩ = some (.int .i64 (wrap64 ((wrap64 (t368)) - 1))) := (blk_cell BK371.out 0).trans rfl
                              have hcz122_1 : wc.cell? ⟨gb371, 1, none⟩ = some (.int .i64 0) := (blk_cell BK371.out 1).trans rfl
                              have hcz122_2 : wc.cell? ⟨gb371, 2, none⟩ = some (.string (⟨#[]⟩ : ByteArray)) := (blk_cell BK371.out 2).trans rfl
                              have hcz122_3 : wc.cell? ⟨gb371, 3, none⟩ = some (u372003) := (blk_cell BK371.out 3).trans rfl
                              have hcz122_4 : wc.cell? ⟨gb371, 4, none⟩ = some (u372004) := (blk_cell BK371.out 4).trans rfl
                              have hfz122_0 := blk_frozen BK371.out 0
                              have hfz122_1 := blk_frozen BK371.out 1
                              have hfz122_2 := blk_frozen BK371.out 2
                              have hfz122_3 := blk_frozen BK371.out 3
                              have hfz122_4 := blk_frozen BK371.out 4
                              have hnb123 := NB367_0.out
                              have hnc123 := NB0_367.out
                              have hcz124_0 : wc.cell? ⟨gb367, 0, none⟩ = some (.int .i64 0) := (blk_cell BK367.out 0).trans rfl
                              have hcz124_1 : wc.cell? ⟨gb367, 1, none⟩ = some (.int .i64 0) := (blk_cell BK367.out 1).trans rfl
                              have hcz124_2 : wc.cell? ⟨gb367, 2, none⟩ = some (.string (⟨#[]⟩ : ByteArray)) := (blk_cell BK367.out 2).trans rfl
                              have hcz124_3 : wc.cell? ⟨gb367, 3, none⟩ = some (.slice none 0 0) := (blk_cell BK367.out 3).trans rfl
                              have hcz124_4 : wc.cell? ⟨gb367, 4, none⟩ = some (.slice none 0 0) := (blk_cell BK367.out 4).trans rfl
                              have hfz124_0 := blk_frozen BK367.out 0
                              have hfz124_1 := blk_frozen BK367.out 1
                              have hfz124_2 := blk_frozen BK367.out 2
                              have hfz124_3 := blk_frozen BK367.out 3
                              have hfz124_4 := blk_frozen BK367.out 4
                              obtain ⟨Ao125, co125, eo125⟩ := Kd.R_slice HO_372003.out
                              subst eo125
                              obtain ⟨Ao126, co126, eo126⟩ := Kd.R_slice HO_372004.out
                              subst eo126
                              go_wp2
                              refine bodyPost_ret (results_cell_row rfl _ _ gb367 25 #[.int .i64 (wrap64 ((wrap64 (t368)) - 1)), .int .i64 0, .string (⟨#[]⟩ : ByteArray), .slice Ao125 x372003_4.length co125, .slice Ao126 x372004_4.length co126] (0, 0) _ rfl (by (with_reducible repeat (first | refine blk_drewN ?_ _ | refine blk_drew ?_ | refine blk_alloc ?_ _)); refine blk_put (cs := #[.int .i64 (wrap64 ((wrap64 (t368)) - 1)), .int .i64 0, .string (⟨#[]⟩ : ByteArray), .slice Ao125 x372003_4.length co125, .slice none 0 0]) ?_ 4 _ rfl; (with_reducible repeat (first | refine blk_drewN ?_ _ | refine blk_drew ?_ | refine blk_alloc ?_ _)); refine blk_put (cs := #[.int .i64 (wrap64 ((wrap64 (t368)) - 1)), .int .i64 0, .string (⟨#[]⟩ : ByteArray), .slice none 0 0, .slice none 0 0]) ?_ 3 _ rfl; (with_reducible repeat (first | refine blk_drewN ?_ _ | refine blk_drew ?_ | refine blk_alloc ?_ _)); refine blk_put (cs := #[.int .i64 (wrap64 ((wrap64 (t368)) - 1)), .int .i64 0, .string (⟨#[]⟩ : ByteArray), .slice none 0 0, .slice none 0 0]) ?_ 2 _ rfl; (with_reducible repeat (first | refine blk_drewN ?_ _ | refine blk_drew ?_ | refine blk_alloc ?_ _)); refine blk_put (cs := #[.int .i64 (wrap64 ((wrap64 (t368)) - 1)), .int .i64 0, .string (⟨#[]⟩ : ByteArray), .slice none 0 0, .slice none 0 0]) ?_ 1 _ rfl; (with_reducible repeat (first | refine blk_drewN ?_ _ | refine blk_drew ?_ | refine blk_alloc ?_ _)); refine blk_put (cs := #[.int .i64 0, .int .i64 0, .string (⟨#[]⟩ : ByteArray), .slice none 0 0, .slice none 0 0]) ?_ 0 _ rfl; (with_reducible repeat (first | refine blk_drewN ?_ _ | refine blk_drew ?_ | refine blk_alloc ?_ _)); exact BK367.out) Tryd.underlying25 rfl (by kernel_rfl)) rfl ?_
                              exact ⟨_, _, by first | rfl | (simp [errW_none, errW_some] <;> rfl) | (simp [*, errW_none, errW_some] <;> rfl), by (with_reducible repeat (first | apply Kd.R_alloc | apply Kd.R_drewN | apply Kd.R_drew)); exact Kd.R_mono (Kd.R_far (p := ⟨gb367, 4, none⟩) (Kd.R_far (p := ⟨gb367, 3, none⟩) (Kd.R_far (p := ⟨gb367, 2, none⟩) (Kd.R_far (p := ⟨gb367, 1, none⟩) (Kd.R_far (p := ⟨gb367, 0, none⟩) (Kd.R_types HO_372003.out BK367.out (by decide)) (fun _ hk => hk.2) (.int .i64 (wrap64 ((wrap64 (t368)) - 1)))) (fun _ hk => hk.2) (.int .i64 0)) (fun _ hk => hk.2) (.string (⟨#[]⟩ : ByteArray))) (fun _ hk => hk.2) (.slice Ao125 x372003_4.length co125)) (fun _ hk => hk.2) (.slice Ao126 x372004_4.length co126)) (fun _ hk => trivial), by (with_reducible repeat (first | apply Kd.R_alloc | apply Kd.R_drewN | apply Kd.R_drew)); exact Kd.R_mono (Kd.R_far (p := ⟨gb367, 4, none⟩) (Kd.R_far (p := ⟨gb367, 3, none⟩) (Kd.R_far (p := ⟨gb367, 2, none⟩) (Kd.R_far (p := ⟨gb367, 1, none⟩) (Kd.R_far (p := ⟨gb367, 0, none⟩) (Kd.R_mono HO_372004.out (fun k_ hk => (⟨hk, hk.2.1⟩ : _ ∧ k_ ≠ gb367))) (fun _ hk => hk.2) (.int .i64 (wrap64 ((wrap64 (t368)) - 1)))) (fun _ hk => hk.2) (.int .i64 0)) (fun _ hk => hk.2) (.string (⟨#[]⟩ : ByteArray))) (fun _ hk => hk.2) (.slice Ao125 x372003_4.length co125)) (fun _ hk => hk.2) (.slice Ao126 x372004_4.length co126)) (fun _ hk => hk.1.1), by repeat (first | (with_reducible first | exact HI0.out | apply IsS54.alloc | apply IsS54.drewN | apply IsS54.drew | apply IsS54.set_1 | apply IsS54.set_2 | refine IsS54.far ?_ NB0_367.out _ | refine IsS54.far ?_ NB0_371.out _) | exact HI0.out), by repeat (first | (with_reducible first | exact HB.out | apply below_alloc | apply pw_below_drewN | apply below_drew1 | refine below_set ?_ (IsS54.ge HI0.out) | refine below_set ?_ GE367.out | refine below_set ?_ GE371.out) | exact HB.out), by repeat (first | (with_reducible first | exact HK.out | apply KeepBut.set_ | apply keep_drewN | apply keep_drew | apply keep_alloc | refine keep_far ?_ GW367.out _ | refine keep_far ?_ GW371.out _) | exact HK.out)⟩
                  · replace c45 := Bool.eq_false_iff.mpr c45
                    subst c45
                    have H1 : (some ((wrap64 ((wrap64 (t368)) - 1)), 0, (⟨#[]⟩ : ByteArray), ([] : List ByteArray), ([] : List (S25)), t369, x1002_18)) = some (r1, r2, r3, r4, r5, r6, r7) := by rw [if_neg (show ¬ (false = true) by decide)] at H; exact H
                    clear H
                    have H := H1
                    clear H1
                    simp only [Option.some.injEq, Prod.mk.injEq] at H
                    obtain ⟨rfl, rfl, rfl, rfl, rfl, rfl, rfl⟩ := H
                    have hnb127 := NB371_367.out
                    have hnc127 := NB367_371.out
                    have hnb128 := NB371_0.out
                    have hnc128 := NB0_371.out
                    have hcz129_0 : wc.cell? ⟨gb371, 0, none⟩ = some (.int .i64 (wrap64 ((wrap64 (t368)) - 1))) := (blk_cell BK371.out 0).trans rfl
                    have hcz129_1 : wc.cell? ⟨gb371, 1, none⟩ = some (.int .i64 0) := (blk_cell BK371.out 1).trans rfl
                    have hcz129_2 : wc.cell? ⟨gb371, 2, none⟩ = some (.string (⟨#[]⟩ : ByteArray)) := (blk_cell BK371.out 2).trans rfl
                    have hcz129_3 : wc.cell? ⟨gb371, 3, none⟩ = some (.slice none 0 0) := (blk_cell BK371.out 3).trans rfl
                    have hcz129_4 : wc.cell? ⟨gb371, 4, none⟩ = some (.slice none 0 0) := (blk_cell BK371.out 4).trans rfl
                    have hfz129_0 := blk_frozen BK371.out 0
                    have hfz129_1 := blk_frozen BK371.out 1
                    have hfz129_2 := blk_frozen BK371.out 2
                    have hfz129_3 := blk_frozen BK371.out 3
                    have hfz129_4 := blk_frozen BK371.out 4
                    have hnb130 := NB367_0.out
                    have hnc130 := NB0_367.out
                    have hcz131_0 : wc.cell? ⟨gb367, 0, none⟩ = some (.int .i64 0) := (blk_cell BK367.out 0).trans rfl
                    have hcz131_1 : wc.cell? ⟨gb367, 1, none⟩ = some (.int .i64 0) := (blk_cell BK367.out 1).trans rfl
                    have hcz131_2 : wc.cell? ⟨gb367, 2, none⟩ = some (.string (⟨#[]⟩ : ByteArray)) := (blk_cell BK367.out 2).trans rfl
                    have hcz131_3 : wc.cell? ⟨gb367, 3, none⟩ = some (.slice none 0 0) := (blk_cell BK367.out 3).trans rfl
                    have hcz131_4 : wc.cell? ⟨gb367, 4, none⟩ = some (.slice none 0 0) := (blk_cell BK367.out 4).trans rfl
                    have hfz131_0 := blk_frozen BK367.out 0
                    have hfz131_1 := blk_frozen BK367.out 1
                    have hfz131_2 := blk_frozen BK367.out 2
                    have hfz131_3 := blk_frozen BK367.out 3
                    have hfz131_4 := blk_frozen BK367.out 4
                    go_wp2
                    refine bodyPost_ret (results_cell_row rfl _ _ gb367 25 #[.int .i64 (wrap64 ((wrap64 (t368)) - 1)), .int .i64 0, .string (⟨#[]⟩ : ByteArray), .slice none 0 0, .slice none 0 0] (0, 0) _ rfl (by (with_reducible repeat (first | refine blk_drewN ?_ _ | refine blk_drew ?_ | refine blk_alloc ?_ _)); refine blk_put (cs := #[.int .i64 (wrap64 ((wrap64 (t368)) - 1)), .int .i64 0, .string (⟨#[]⟩ : ByteArray), .slice none 0 0, .slice none 0 0]) ?_ 4 _ rfl; (with_reducible repeat (first | refine blk_drewN ?_ _ | refine blk_drew ?_ | refine blk_alloc ?_ _)); refine blk_put (cs := #[.int .i64 (wrap64 ((wrap64 (t368)) - 1)), .int .i64 0, .string (⟨#[]⟩ : ByteArray), .slice none 0 0, .slice none 0 0]) ?_ 3 _ rfl; (with_reducible repeat (first | refine blk_drewN ?_ _ | refine blk_drew ?_ | refine blk_alloc ?_ _)); refine blk_put (cs := #[.int .i64 (wrap64 ((wrap64 (t368)) - 1)), .int .i64 0, .string (⟨#[]⟩ : ByteArray), .slice none 0 0, .slice none 0 0]) ?_ 2 _ rfl; (with_reducible repeat (first | refine blk_drewN ?_ _ | refine blk_drew ?_ | refine blk_alloc ?_ _)); refine blk_put (cs := #[.int .i64 (wrap64 ((wrap64 (t368)) - 1)), .int .i64 0, .string (⟨#[]⟩ : ByteArray), .slice none 0 0, .slice none 0 0]) ?_ 1 _ rfl; (with_reducible repeat (first | refine blk_drewN ?_ _ | refine blk_drew ?_ | refine blk_alloc ?_ _)); refine blk_put (cs := #[.int .i64 0, .int .i64 0, .string (⟨#[]⟩ : ByteArray), .slice none 0 0, .slice none 0 0]) ?_ 0 _ rfl; (with_reducible repeat (first | refine blk_drewN ?_ _ | refine blk_drew ?_ | refine blk_alloc ?_ _)); exact BK367.out) Tryd.underlying25 rfl (by kernel_rfl)) rfl ?_
                    exact ⟨_, _, by first | rfl | (simp [errW_none, errW_some] <;> rfl) | (simp [*, errW_none, errW_some] <;> rfl), by first | exact Kd.R_nil _ _ _ _ _ | exact Kd.N_nil _ _ _ _ _ | exact Kd.V_nil _ _ _ _ _ | exact Kd.Q_nil _ _ _ _ _ | exact Kd.S_nil _ _ _ _ _, by first | exact Kd.R_nil _ _ _ _ _ | exact Kd.N_nil _ _ _ _ _ | exact Kd.V_nil _ _ _ _ _ | exact Kd.Q_nil _ _ _ _ _ | exact Kd.S_nil _ _ _ _ _, by repeat (first | (with_reducible first | exact HI0.out | apply IsS54.alloc | apply IsS54.drewN | apply IsS54.drew | apply IsS54.set_1 | apply IsS54.set_2 | refine IsS54.far ?_ NB0_367.out _ | refine IsS54.far ?_ NB0_371.out _) | exact HI0.out), by repeat (first | (with_reducible first | exact HB.out | apply below_alloc | apply pw_below_drewN | apply below_drew1 | refine below_set ?_ (IsS54.ge HI0.out) | refine below_set ?_ GE367.out | refine below_set ?_ GE371.out) | exact HB.out), by repeat (first | (with_reducible first | exact HK.out | apply KeepBut.set_ | apply keep_drewN | apply keep_drew | apply keep_alloc | refine keep_far ?_ GW367.out _ | refine keep_far ?_ GW371.out _) | exact HK.out)⟩
end Go.Proofs.YtmphdmhpfghfkaaDoor.PK
