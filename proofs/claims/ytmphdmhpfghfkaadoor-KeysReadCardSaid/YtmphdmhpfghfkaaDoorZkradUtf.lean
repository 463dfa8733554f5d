import Derived.Lib.ValidLaws
import Derived.Lib.MapLaws
import Derived.Lib.TrimUEq
import Derived.Laws.Cover4
import Derived.Laws.IdiomStrings
import Derived.Below
set_option linter.unusedSimpArgs false
set_option linter.unusedVariables false
namespace Go.Proofs.YtmphdmhpfghfkaaDoor.Utf
open Go Go.Lib Go.RowKit
theorem u8 (a : Nat) (b : Int) (h : (a : Int) = b) : UInt8.ofNat a = b.toNat.toUInt8 := by
  subst h
  rfl
theorem enc_eq (r : Int) : (Utf8.encode r).data.toList = encodeRune r := by
  unfold Utf8.encode encodeRune encodeRuneZ Utf8.valid Utf8.runeError
  by_cases h1 : 0 ≤ r ∧ r ≤ 127
  · have e1 : (decide (0 ≤ r) && decide (r < 55296) || decide (57344 ≤ r) && decide (r ≤ 1114111)) = true := by simp; omega
    simp only [e1, if_true]
    rw [if_pos (by omega), if_pos h1]
    rfl
  · by_cases h2 : 128 ≤ r ∧ r ≤ 2047
    · have e1 : (decide (0 ≤ r) && decide (r < 55296) || decide (57344 ≤ r) && decide (r ≤ 1114111)) = true := by simp; omega
      simp only [e1, if_true]
      rw [if_neg (by omega), if_pos (by omega), if_neg h1, if_pos h2]
      simp only [List.map_cons, List.map_nil]
      rw [u8 (192 + r.toNat / 64) (192 + r / 64) (by omega), u8 (128 + r.toNat % 64) (128 + r % 64) (by omega)]
    · by_cases h3 : (2048 ≤ r ∧ r < 55296) ∨ (57343 < r ∧ r ≤ 65535)
      · have e1 : (decide (0 ≤ r) && decide (r < 55296) || decide (57344 ≤ r) && decide (r ≤ 1114111)) = true := by simp; omega
        simp only [e1, if_true]
        rw [if_neg (by omega), if_neg (by omega), if_pos (by omega), if_neg h1, if_neg h2, if_pos h3]
        simp only [List.map_cons, List.map_nil]
        rw [u8 (224 + r.toNat / 4096) (224 + r / 4096) (by omega), u8 (128 + r.toNat / 64 % 64) (128 + r / 64 % 64) (by omega), u8 (128 + r.toNat % 64) (128 + r % 64) (by omega)]
      · by_cases h4 : 65536 ≤ r ∧ r ≤ 1114111
        · have e1 : (decide (0 ≤ r) && decide (r < 55296) || decide (57344 ≤ r) && decide (r ≤ 1114111)) = true := by simp; omega
          simp only [e1, if_true]
          rw [if_neg (by omega), if_neg (by omega), if_neg (by omega), if_neg h1, if_neg h2, if_neg h3, if_pos h4]
          simp only [List.map_cons, List.map_nil]
          rw [u8 (240 + r.toNat / 262144) (240 + r / 262144) (by omega), u8 (128 + r.toNat / 4096 % 64) (128 + r / 4096 % 64) (by omega), u8 (128 + r.toNat / 64 % 64) (128 + r / 64 % 64) (by omega), u8 (128 + r.toNat % 64) (128 + r % 64) (by omega)]
        · have e1 : (decide (0 ≤ r) && decide (r < 55296) || decide (57344 ≤ r) && decide (r ≤ 1114111)) = false := by simp; omega
          simp only [e1, Bool.false_eq_true, if_false]
          rw [if_neg h1, if_neg h2, if_neg h3, if_neg h4]
          rfl
/-- A true U+FFFD: its three bytes stand there. -/
theorem fffd (l : List UInt8) (hne : l ≠ []) (h : (decodeL l).1 = 65533) (hw : (decodeL l).2 ≠ 1) : (decodeL l).2 = 3 ∧ 3 ≤ l.length ∧ l.take 3 = [239, 191, 189] := by
  have he := encode_decode l hne (fun c => hw c.2)
  rw [h] at he
  have h3 : encodeRune ((65533 : Nat) : Int) = [239, 191, 189] := by decide
  rw [h3] at he
  have hl := congrArg List.length he
  rw [List.length_take] at hl
  have hle := decodeL_le l hne
  have h2 : (decodeL l).2 = 3 := by
    have : ([239, 191, 189] : List UInt8).length = 3 := rfl
    omega
  rw [h2] at he hle
  exact ⟨h2, hle, he.symm⟩
/-- Where those bytes stand they are it. -/
theorem fffd_mk (l : List UInt8) (h : l.take 3 = [239, 191, 189]) : decodeL l = (65533, 3) := by
  match l, h with
  | [], h => simp at h
  | [_], h => simp at h
  | [_, _], h => simp at h
  | a :: b :: c :: t, h =>
    have h' : a = 239 ∧ b = 191 ∧ c = 189 := by simpa using h
    obtain ⟨rfl, rfl, rfl⟩ := h'
    rw [decodeL_N]
    simp only [List.getD_cons_zero, List.getD_cons_succ, List.length_cons, show (239 : UInt8).toNat = 239 from rfl, show (191 : UInt8).toNat = 191 from rfl, show (189 : UInt8).toNat = 189 from rfl]
    have h1 : 1 < t.length + 1 + 1 + 1 := by omega
    have h2 : 2 < t.length + 1 + 1 + 1 := by omega
    simp [decodeN, h1, h2, Utf8.valid, Utf8.runeError]
/-- The runes of a text. -/
def runesL : Nat → List UInt8 → List Int
  | 0, _ => []
  | n + 1, l => if l = [] then [] else ((decodeL l).1 : Int) :: runesL n (l.drop (decodeL l).2)
theorem runesFrom_eq (s : ByteArray) : ∀ (b i : Nat) (acc : Array Value), Conv.runesFrom s b i acc = acc ++ ((runesL b (s.data.toList.drop i)).map (Value.int .i32)).toArray
  | 0, i, acc => by simp [Conv.runesFrom, runesL]
  | b + 1, i, acc => by
    unfold Conv.runesFrom runesL
    have hs : s.data.toList.length = s.size := by rw [Array.length_toList]; rfl
    by_cases h : i < s.size
    · have hne : s.data.toList.drop i ≠ [] := by
        intro c
        have := congrArg List.length c
        rw [List.length_drop] at this
        simp at this
        omega
      simp only [h, if_true, hne, if_false]
      rw [runesFrom_eq s b, decodeL_drop]
      simp [List.drop_drop]
    · have he : s.data.toList.drop i = [] := List.drop_eq_nil_of_le (by omega)
      simp [h, he]
theorem runes_back : ∀ (b : Nat) (l : List UInt8), l.length ≤ b → validD l = true → (runesL b l).flatMap (fun r => (Utf8.encode r).data.toList) = l
  | 0, l, h, _ => by
    obtain rfl : l = [] := List.length_eq_zero_iff.1 (by omega)
    rfl
  | b + 1, l, h, hv => by
    unfold runesL
    by_cases hne : l = []
    · simp [hne]
    · rw [if_neg hne]
      rw [validD_step l hne] at hv
      split at hv
      · exact absurd hv (by simp)
      · rename_i hb
        have hw := decodeL_width l
        have ih := runes_back b (l.drop (decodeL l).2) (by rw [List.length_drop]; omega) hv
        rw [List.flatMap_cons, ih, enc_eq, encode_decode l hne hb, List.take_append_drop]
theorem foldl_bytes : ∀ (ns : List Int) (r : ByteArray), (ns.foldl (fun r n => r ++ Utf8.encode n) r).data.toList = r.data.toList ++ ns.flatMap (fun n => (Utf8.encode n).data.toList)
  | [], r => by simp
  | n :: ns, r => by
    rw [List.foldl_cons, foldl_bytes ns, List.flatMap_cons]
    simp
theorem runesBytes_eq (ns : List Int) : (runesBytes ns).data.toList = ns.flatMap (fun n => (Utf8.encode n).data.toList) := by
  unfold runesBytes
  rw [foldl_bytes]
  rfl
/-- '[]rune(s)' and back: some bytes, s itself where s is valid. -/
theorem back_run {P : Program} (w : World) (ts tr te : TypeId) (s : ByteArray) (hs : P.underlying ts = some .string) (hd : P.underlying tr = some (.slice te)) (he : P.underlying te = some (.int .i32)) (h : s.size ≤ 1000000) :
    ∃ (A : Addr) (n c : Nat) (W1 : World) (B : ByteArray), (convert ts tr (.string s)).run P w = .ok (.slice (some A) n c) W1 ∧ Below w.heap.size w W1 ∧ (convert tr ts (.slice (some A) n c)).run P W1 = .ok (.string B) W1 ∧
      (validD s.data.toList = true → B = s) := by
  have hsz := size_runesFrom s s.size 0 #[]
  have h1 := run_runes_of_string (P := P) w ts tr te s hs hd he (by simp at hsz; omega)
  have hr := runesFrom_eq s s.size 0 #[]
  rw [List.drop_zero] at hr
  simp only [Array.empty_append] at hr
  generalize hrs : runesL s.size s.data.toList = rs at hr
  rw [hr] at h1
  generalize grownCap w _ 0 te = cp at h1
  refine ⟨_, _, _, _, runesBytes rs, h1, ((Below.refl _ _).drew).alloc (Nat.le_refl _) _, ?_, ?_⟩
  · have hget : ∀ j, j < rs.length → (w.drew.alloc (.cells ((rs.map (Value.int .i32)).toArray ++ Array.replicate (cp - (rs.map (Value.int .i32)).toArray.size) (.int .i32 0)) te)).cell? ((⟨w.heap.size, 0, none⟩ : Addr).add j) = some (.int .i32 (rs.getD j 0)) := by
      intro j hj
      have ea : (⟨w.heap.size, 0, none⟩ : Addr).add j = ⟨w.drew.heap.size, j, none⟩ := by
        unfold Addr.add
        split
        · rename_i hz; simp_all
        · simp
      rw [ea]
      rw [World.cell?_alloc_mark]
      rw [Array.getElem?_append_left (by simpa using hj)]
      simp [List.getD, List.getElem?_eq_getElem hj]
    have := run_convert_runes (P := P) (w.drew.alloc (.cells ((rs.map (Value.int .i32)).toArray ++ Array.replicate (cp - (rs.map (Value.int .i32)).toArray.size) (.int .i32 0)) te)) tr ts te ⟨w.heap.size, 0, none⟩ ((rs.map (Value.int .i32)).toArray.size) cp rs (by simp) hd he hs hget
    rw [this]
    simp
  · intro hv
    apply ByteArray.ext
    apply Array.toList_inj.1
    rw [runesBytes_eq, ← hrs]
    exact runes_back s.size s.data.toList (by rw [Array.length_toList]; exact Nat.le_refl _) hv
end Go.Proofs.YtmphdmhpfghfkaaDoor.Utf
