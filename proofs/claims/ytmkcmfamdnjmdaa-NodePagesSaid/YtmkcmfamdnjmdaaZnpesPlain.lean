import Derived.Test.YtmkcmfamdnjmdaaZnpesEv
set_option linter.unusedSimpArgs false
set_option linter.unusedVariables false
namespace Go.Proofs.Ytmkcmfamdnjmdaa.Pl
/-- Byte by byte. -/
def ltL : List Int → List Int → Bool
  | [], [] => false
  | [], _ :: _ => true
  | _ :: _, [] => false
  | a :: x, b :: y => if a = b then ltL x y else decide (a < b)
/-- A number's eight bytes, the greatest first. -/
def b8 (x : Int) : List Int :=
  [x / 72057594037927936 % 256, x / 281474976710656 % 256, x / 1099511627776 % 256, x / 4294967296 % 256, x / 16777216 % 256, x / 65536 % 256, x / 256 % 256, x % 256]
theorem b8_length (x : Int) : (b8 x).length = 8 := rfl
end Go.Proofs.Ytmkcmfamdnjmdaa.Pl
