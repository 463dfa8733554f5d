import Derived.Test.YtegcbfgoomopdaaDoorProg
import Derived.Test.YtegcbfgoomopdaaDoorZonrsWMore
import Derived.Test.YtegcbfgoomopdaaDoorZonrsUtf
import Derived.Shelf.Unicode.ValidAny
namespace Go.Proofs.YtegcbfgoomopdaaDoor.U8
open Go.Shelf
def ren : Go.Shelf.Ren := ⟨fun | 196 => 53 | 259 => 57 | n => n, fun | 9 => 9 | 4 => 4 | 3 => 3 | 5 => 5 | 12 => 12 | 119 => 64 | 0 => 0 | 46 => 62 | 139 => 67 | 138 => 66 | 53 => 68 | n => n, fun | 3 => 0 | 4 => 1 | n => n⟩
theorem lays : Go.Proofs.Lays.n196 Tryd.prog ren := {
  mixed := by kernel_rfl
  f196 := Tryd.func53.trans (congrArg some (by kernel_rfl))
  f259 := Tryd.func57.trans (congrArg some (by kernel_rfl))
  t0 := Tryd.underlying0
  a0 := Tryd.isAgg0
  z0 := Tryd.sizeOf0
  v0 := Tryd.zeroValue0
  t3 := Tryd.underlying3
  a3 := Tryd.isAgg3
  z3 := Tryd.sizeOf3
  v3 := Tryd.zeroValue3
  t4 := Tryd.underlying4
  a4 := Tryd.isAgg4
  z4 := Tryd.sizeOf4
  v4 := Tryd.zeroValue4
  t5 := Tryd.underlying5
  a5 := Tryd.isAgg5
  z5 := Tryd.sizeOf5
  v5 := Tryd.zeroValue5
  t9 := Tryd.underlying9
  a9 := Tryd.isAgg9
  z9 := Tryd.sizeOf9
  v9 := Tryd.zeroValue9
  t12 := Tryd.underlying12
  a12 := Tryd.isAgg12
  z12 := Tryd.sizeOf12
  v12 := Tryd.zeroValue12
  t46 := Tryd.underlying62
  a46 := Tryd.isAgg62
  z46 := Tryd.sizeOf62
  v46 := Tryd.zeroValue62
  t53 := Tryd.underlying68
  a53 := Tryd.isAgg68
  z53 := Tryd.sizeOf68
  v53 := Tryd.zeroValue68
  t119 := Tryd.underlying64
  a119 := Tryd.isAgg64
  z119 := Tryd.sizeOf64
  t138 := Tryd.underlying66
  a138 := Tryd.isAgg66
  z138 := Tryd.sizeOf66
  v138 := Tryd.zeroValue66
  t139 := Tryd.underlying67
  a139 := Tryd.isAgg67
  z139 := Tryd.sizeOf67
  v139 := Tryd.zeroValue67
  g3 := by kernel_rfl
  g4 := by kernel_rfl }
end Go.Proofs.YtegcbfgoomopdaaDoor.U8
namespace Go.Proofs.YtegcbfgoomopdaaDoorW.PrintWords
open Go.RowKit
/-- The library's two tables lie in the world as their initialisers lay them. -/
def Tabs (w : World) : Prop := Lib.Utf8Tabs (Go.Proofs.YtegcbfgoomopdaaDoor.U8.ren.g 3) (Go.Proofs.YtegcbfgoomopdaaDoor.U8.ren.g 4) w
theorem tabs_below {w w' : World} (h : Tabs w) (hb : Below w.heap.size w w') : Tabs w' := Utf8Tabs_below h hb
theorem valid_string (s : ByteArray) (w : World) (hs : s.size ≤ 1000000) (hT : Tabs w) :
    Calls Tryd.prog 53 #[.string s] w fun e w' => e = .returned (.bool (Lib.validD s.data.toList)) ∧ Below w.heap.size w w' :=
  Any.utf8_ValidString Go.Proofs.YtegcbfgoomopdaaDoor.U8.lays s w (by omega) hT
end Go.Proofs.YtegcbfgoomopdaaDoorW.PrintWords
