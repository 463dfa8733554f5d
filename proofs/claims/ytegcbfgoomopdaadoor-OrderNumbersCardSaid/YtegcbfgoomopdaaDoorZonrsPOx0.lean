import Derived.Test.YtegcbfgoomopdaaDoorProg
import Derived.Below
import Derived.Deep.Draws
import Derived.Deep.AppendLies
import Derived.Maps.AppendAt
import Derived.OwnWalk
import Derived.Laws.BytesArg
import Derived.Laws.MakeOwn
import Derived.Laws.OwnMore
import Derived.Deep.OwnRows
import Derived.Tactics
import Derived.Lib.ConvBytes
import Derived.Laws.Slices
import Derived.WalkKit
import Derived.KernelRfl
import Derived.RowKit3
import Derived.Deep.LoopGhost
import Derived.Deep.QuietTactic
import Derived.BigQuiet
import Derived.WideLaws
import Derived.Deep.DeepCutAuto
import Derived.Deep.CutBlock
import Derived.Deep.RegionHeld3
import Derived.Laws.Rows
import Derived.Lib.AppendStr
import Derived.ArgAppend
import Derived.Laws.IdiomCopy
import Derived.OrdersHeld
import Derived.Laws.BitsLemmas
import Derived.RowKit
import Derived.Lib.BytesEntry
import Derived.Laws.Externs
import Derived.Lib.SlBytesConst
import Derived.Test.YtegcbfgoomopdaaDoorZonrsPre
import Derived.Laws.RangeAny
import Derived.LoopTactic
import Derived.Test.YtegcbfgoomopdaaDoorZonrsU8
import Derived.Test.YtegcbfgoomopdaaDoorZonrsWWords
import Derived.Test.YtegcbfgoomopdaaDoorZonrsWLast
import Derived.Test.YtegcbfgoomopdaaDoorZonrsWTab
import Derived.Test.YtegcbfgoomopdaaDoorZonrsWApart
import Derived.Test.YtegcbfgoomopdaaDoorZonrsWFoot
import Derived.Test.YtegcbfgoomopdaaDoorZonrsWKept
import Derived.Test.YtegcbfgoomopdaaDoorZonrsWShare
import Derived.Test.YtegcbfgoomopdaaDoorZonrsWN
import Derived.Laws.StructEq
import Derived.Test.YtegcbfgoomopdaaDoorZonrsWRepsOne
import Derived.Test.YtegcbfgoomopdaaDoorZonrsWInv
import Derived.Test.YtegcbfgoomopdaaDoorZonrsWGuard
import Derived.Test.YtegcbfgoomopdaaDoorZonrsWMore
namespace Go.Proofs.YtegcbfgoomopdaaDoor.PO
open Go.RowKit Go.Proofs.YtegcbfgoomopdaaDoorW.PrintWords Go.Proofs.YtegcbfgoomopdaaDoorW.PrintLast Go.Proofs.YtegcbfgoomopdaaDoorW.PrintMore
attribute [local go_sem] max2_mx_ min2_mn_ max_two min_two max_three min_three max_four min_four   -- for this text's walks alone
set_option linter.unusedVariables false
set_option linter.unusedSimpArgs false
def errW : Option Int → Value
  | none => .nilIface
  | some c => .iface 0 (.int .i64 c)
theorem errW_none : errW none = .nilIface := rfl
theorem errW_some (c : Int) : errW (some c) = .iface 0 (.int .i64 c) := rfl
structure S30 where
  f0 : Int
  f1 : Int
  f2 : ByteArray
  f3 : (List ByteArray)
  f4 : (List S30)
def z30 : S30 := ⟨(0 : Int), (0 : Int), (⟨#[]⟩ : ByteArray), ([] : List ByteArray), ([] : List S30)⟩
def F30 (d : Kd S30) : Kd S30 := Kd.iso (Kd.pair (Kd.int .i64) (Kd.pair (Kd.int .i64) (Kd.pair Kd.string (Kd.pair (Kd.slice 9 Kd.string) (Kd.slice 30 d))))) (fun x : S30 => (x.f0, x.f1, x.f2, x.f3, x.f4))
theorem sub30 : Kd.Sub F30 [9, 30] := Kd.sub_iso _ (Kd.sub_pair (Kd.sub_const _ (by decide)) (Kd.sub_pair (Kd.sub_const _ (by decide)) (Kd.sub_pair (Kd.sub_const _ (by decide)) (Kd.sub_pair (Kd.sub_const _ (by decide)) (Kd.sub_slice 30 (by decide) Kd.sub_id)))))
theorem sz30 : ∀ n, (Kd.upto F30 5 [9, 30] n).sz = 5 := Kd.upto_sz (fun _ => rfl)
def k30 : Kd S30 := Kd.fix F30 5 [9, 30] sz30 (Kd.upto_E sub30)
theorem k30_open {w : World} {x : S30} {cs : List Value} (h : k30.K w x cs) : ∃ A3 c3 A4 c4, cs = [.int .i64 x.f0, .int .i64 x.f1, .string x.f2, .slice A3 x.f3.length c3, .slice A4 x.f4.length c4] ∧ x.f3.length ≤ c3 ∧ Kd.string.C w A3 x.f3.length x.f3 ∧ x.f4.length ≤ c4 ∧ k30.C w A4 x.f4.length x.f4 := by
  obtain ⟨n, h⟩ := h
  cases n with
  | zero => exact h.elim
  | succ n =>
    obtain ⟨_, _, rfl, rfl, ⟨_, _, rfl, rfl, ⟨_, _, rfl, rfl, ⟨_, _, rfl, ⟨A3, c3, rfl, l3, g3⟩, ⟨A4, c4, rfl, l4, g4⟩⟩⟩⟩⟩ := h
    exact ⟨A3, c3, A4, c4, rfl, l3, g3, l4, Kd.fix_C g4⟩
def rd_T30 (xs : List S30) (i : Int) : S30 := xs.getD i.toNat z30
theorem at_T30 {w : World} {A : Option Addr} {n : Nat} {xs : List S30} (h : Kd.C k30 w A n xs) (i : Int) (h0 : 0 ≤ i) (h1 : i < n) : ∃ ad A3 c3 A4 c4, A = some ad ∧ w.cell? (ad.add (i.toNat * 5)) = some (.int .i64 (rd_T30 xs i).f0) ∧ w.cell? ⟨(ad.add (i.toNat * 5)).block, (ad.add (i.toNat * 5)).off + 1, none⟩ = some (.int .i64 (rd_T30 xs i).f1) ∧ w.cell? ⟨(ad.add (i.toNat * 5)).block, (ad.add (i.toNat * 5)).off + 2, none⟩ = some (.string (rd_T30 xs i).f2) ∧ w.cell? ⟨(ad.add (i.toNat * 5)).block, (ad.add (i.toNat * 5)).off + 3, none⟩ = some (.slice A3 (rd_T30 xs i).f3.length c3) ∧ w.cell? ⟨(ad.add (i.toNat * 5)).block, (ad.add (i.toNat * 5)).off + 4, none⟩ = some (.slice A4 (rd_T30 xs i).f4.length c4) ∧ (rd_T30 xs i).f3.length ≤ c3 ∧ Kd.string.C w A3 (rd_T30 xs i).f3.length (rd_T30 xs i).f3 ∧ (rd_T30 xs i).f4.length ≤ c4 ∧ k30.C w A4 (rd_T30 xs i).f4.length (rd_T30 xs i).f4 := by
  obtain ⟨ad, c, e, _, hK, hc0⟩ := Kd.C_get h z30 i h0 h1
  have hc : ∀ j u, c[j]? = some u → w.cell? (ad.add (i.toNat * 5 + j)) = some u := hc0
  obtain ⟨A3, c3, A4, c4, rfl, l3, g3, l4, g4⟩ := k30_open hK
  exact ⟨ad, A3, c3, A4, c4, e, hc 0 _ rfl, by rw [← add_field _ _ 1 (by omega)]; exact hc 1 _ rfl, by rw [← add_field _ _ 2 (by omega)]; exact hc 2 _ rfl, by rw [← add_field _ _ 3 (by omega)]; exact hc 3 _ rfl, by rw [← add_field _ _ 4 (by omega)]; exact hc 4 _ rfl, l3, g3, l4, g4⟩
end Go.Proofs.YtegcbfgoomopdaaDoor.PO
