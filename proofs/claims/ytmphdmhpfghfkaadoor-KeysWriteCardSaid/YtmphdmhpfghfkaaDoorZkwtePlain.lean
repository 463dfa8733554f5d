import Derived.Test.YtmphdmhpfghfkaaDoorZkwteEv
set_option linter.unusedSimpArgs false
set_option linter.unusedVariables false
namespace Go.Proofs.YtmphdmhpfghfkaaDoor.Pl
/-- A text, each 0 with 255 behind it. -/
def esc : List Int → List Int
  | [] => []
  | c :: r => if c = 0 then 0 :: 255 :: esc r else c :: esc r
theorem esc_length (a : List Int) : a.length ≤ (esc a).length ∧ (esc a).length ≤ 2 * a.length := by
  induction a with
  | nil => simp [esc]
  | cons c a ih =>
    unfold esc
    split <;> simp <;> omega
/-- A number's eight bytes, the greatest first. -/
def b8 (x : Int) : List Int :=
  [x / 72057594037927936 % 256, x / 281474976710656 % 256, x / 1099511627776 % 256, x / 4294967296 % 256, x / 16777216 % 256, x / 65536 % 256, x / 256 % 256, x % 256]
theorem b8_length (x : Int) : (b8 x).length = 8 := rfl
end Go.Proofs.YtmphdmhpfghfkaaDoor.Pl
