import Derived.Lib.ValidLaws
import Derived.Lib.MapLaws
import Derived.Lib.TrimUEq
import Derived.Laws.Cover4
import Derived.Laws.IdiomStrings
import Derived.Below
set_option linter.unusedSimpArgs false
set_option linter.unusedVariables false
namespace Go.Proofs.YtegcbfgoomopdaaDoor.Utf
open Go Go.Lib Go.RowKit
theorem u8 (a : Nat) (b : Int) (h : (a : Int) = b) : UInt8.ofNat a = b.toNat.toUInt8 := by
  subst h
  rfl
end Go.Proofs.YtegcbfgoomopdaaDoor.Utf
