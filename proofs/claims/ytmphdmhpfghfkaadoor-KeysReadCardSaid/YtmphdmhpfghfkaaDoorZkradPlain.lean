import Derived.Test.YtmphdmhpfghfkaaDoorZkradEv
set_option linter.unusedSimpArgs false
set_option linter.unusedVariables false
namespace Go.Proofs.YtmphdmhpfghfkaaDoor.Pl
/-- Byte by byte. -/
def ltL : List Int → List Int → Bool
  | [], [] => false
  | [], _ :: _ => true
  | _ :: _, [] => false
  | a :: x, b :: y => if a = b then ltL x y else decide (a < b)
/-- A text, each 0 with 255 behind it. -/
def esc : List Int → List Int
  | [] => []
  | c :: r => if c = 0 then 0 :: 255 :: esc r else c :: esc r
theorem esc_length (a : List Int) : a.length ≤ (esc a).length ∧ (esc a).length ≤ 2 * a.length := by
  induction a with
  | nil => simp [esc]
  | cons c a ih =>
    unfold esc
    split <;> simp <;> omega
/-- Escaped texts with an end are ordered as the texts are. -/
theorem ltL_esc (p q : Int) (x y : List Int) (hp : 0 ≤ p ∧ p < 255) (hq : 0 ≤ q ∧ q < 255) : ∀ (n m : List Int), Bytes n → Bytes m →
    ltL (esc n ++ 0 :: p :: x) (esc m ++ 0 :: q :: y) = if n = m then ltL (p :: x) (q :: y) else ltL n m
  | [], [], _, _ => by simp [esc, ltL]
  | [], c :: m, _, hm => by
    have hc := hm.head
    unfold Byte at hc
    by_cases e : c = 0
    · subst e
      have h1 : ¬ p = 255 := by omega
      have h2 : p < 255 := by omega
      simp [esc, ltL, h1, h2]
    · have h1 : ¬ 0 = c := fun h => e h.symm
      have h2 : 0 < c := by omega
      simp [esc, ltL, e, h1, h2]
  | c :: n, [], hn, _ => by
    have hc := hn.head
    unfold Byte at hc
    by_cases e : c = 0
    · subst e
      have h1 : ¬ 255 = q := by omega
      have h2 : ¬ 255 < q := by omega
      simp [esc, ltL, h1, h2]
    · have h2 : ¬ c < 0 := by omega
      simp [esc, ltL, e, h2]
  | c :: n, d :: m, hn, hm => by
    have hc := hn.head
    have hd := hm.head
    unfold Byte at hc hd
    have ih := ltL_esc p q x y hp hq n m hn.tail hm.tail
    by_cases e : c = d
    · subst e
      by_cases e0 : c = 0
      · subst e0
        simp [esc, ltL, ih]
      · simp [esc, ltL, e0, ih]
    · have hne : ¬ (c :: n = d :: m) := fun h => e (List.cons.inj h).1
      rw [if_neg hne]
      by_cases e0 : c = 0
      · subst e0
        have hd0 : d ≠ 0 := fun h => e h.symm
        simp [esc, ltL, hd0, e]
      · by_cases d0 : d = 0
        · subst d0
          simp [esc, ltL, e0]
        · simp [esc, ltL, e0, d0, e]
/-- A number's eight bytes, the greatest first. -/
def b8 (x : Int) : List Int :=
  [x / 72057594037927936 % 256, x / 281474976710656 % 256, x / 1099511627776 % 256, x / 4294967296 % 256, x / 16777216 % 256, x / 65536 % 256, x / 256 % 256, x % 256]
theorem b8_length (x : Int) : (b8 x).length = 8 := rfl
theorem b8_bytes (x : Int) : Bytes (b8 x) := by
  intro y hy
  simp only [b8, List.mem_cons, List.not_mem_nil, or_false] at hy
  unfold Byte
  omega
/-- The number of a list of bytes. -/
def num (l : List Int) : Int := l.foldl (fun n c => n * 256 + c) 0
theorem foldl_num (l : List Int) : ∀ n, l.foldl (fun n c => n * 256 + c) n = n * 256 ^ l.length + num l := by
  induction l with
  | nil => intro n; simp [num]
  | cons c l ih =>
    intro n
    unfold num
    rw [List.foldl_cons, List.foldl_cons, ih, ih (0 * 256 + c), List.length_cons, Int.pow_succ, Int.add_mul, Int.mul_assoc, Int.mul_comm 256 (256 ^ l.length), Int.add_assoc]
    simp
theorem num_cons (c : Int) (l : List Int) : num (c :: l) = c * 256 ^ l.length + num l := by
  have h : num (c :: l) = l.foldl (fun n c => n * 256 + c) (0 * 256 + c) := rfl
  rw [h, foldl_num]
  simp
theorem num_append (l : List Int) (c : Int) : num (l ++ [c]) = num l * 256 + c := by simp [num]
theorem num_bound {l : List Int} (h : Bytes l) : 0 ≤ num l ∧ num l < 256 ^ l.length := by
  induction l with
  | nil => simp [num]
  | cons c l ih =>
    have hc := h.head
    have hl := ih h.tail
    unfold Byte at hc
    rw [num_cons, List.length_cons, Int.pow_succ]
    have hp : (0 : Int) < 256 ^ l.length := by omega
    constructor
    · have : 0 ≤ c * 256 ^ l.length := Int.mul_nonneg hc.1 (by omega)
      omega
    · have h1 : c * 256 ^ l.length ≤ 255 * 256 ^ l.length := Int.mul_le_mul_of_nonneg_right (by omega) (by omega)
      omega
theorem num_b8 {x : Int} (h0 : 0 ≤ x) (h1 : x < 18446744073709551616) : num (b8 x) = x := by
  simp only [num, b8, List.foldl_cons, List.foldl_nil]
  omega
theorem num_lt : ∀ (a b : List Int), a.length = b.length → Bytes a → Bytes b → ltL a b = decide (num a < num b)
  | [], [], _, _, _ => by simp [ltL, num]
  | [], _ :: _, h, _, _ => by simp at h
  | _ :: _, [], h, _, _ => by simp at h
  | c :: a, d :: b, h, ha, hb => by
    have hl : a.length = b.length := by simpa using h
    have ih := num_lt a b hl ha.tail hb.tail
    have na := num_bound ha.tail
    have nb := num_bound hb.tail
    rw [num_cons, num_cons, hl]
    rw [hl] at na
    unfold ltL
    by_cases e : c = d
    · subst e
      rw [if_pos rfl, ih]
      simp
    · rw [if_neg e, Bool.eq_iff_iff]
      simp only [decide_eq_true_eq]
      generalize hP : (256 : Int) ^ b.length = P at *
      constructor
      · intro hlt
        have h1 : (c + 1) * P ≤ d * P := Int.mul_le_mul_of_nonneg_right (by omega) (by omega)
        rw [Int.add_mul] at h1
        omega
      · intro hlt
        by_cases hcd : c < d
        · exact hcd
        · have h1 : (d + 1) * P ≤ c * P := Int.mul_le_mul_of_nonneg_right (by omega) (by omega)
          rw [Int.add_mul] at h1
          omega
theorem ltL_b8 {x y : Int} (h0 : 0 ≤ x) (h1 : x < 18446744073709551616) (k0 : 0 ≤ y) (k1 : y < 18446744073709551616) : ltL (b8 x) (b8 y) = decide (x < y) := by
  rw [num_lt (b8 x) (b8 y) rfl (b8_bytes x) (b8_bytes y), num_b8 h0 h1, num_b8 k0 k1]
theorem b8_inj {x y : Int} (h0 : 0 ≤ x) (h1 : x < 18446744073709551616) (k0 : 0 ≤ y) (k1 : y < 18446744073709551616) (h : b8 x = b8 y) : x = y := by
  have := congrArg num h
  rwa [num_b8 h0 h1, num_b8 k0 k1] at this
end Go.Proofs.YtmphdmhpfghfkaaDoor.Pl
