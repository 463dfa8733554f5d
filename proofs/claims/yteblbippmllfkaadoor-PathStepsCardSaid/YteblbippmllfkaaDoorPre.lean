/- Words that the printed texts lean on beside the kit's. -/
import Derived.Test.YteblbippmllfkaaDoorWMore
import Derived.Test.YteblbippmllfkaaDoorWFootNe
namespace Go.Proofs.YteblbippmllfkaaDoorW.PrintWords
open Go.RowKit
theorem u64_ones_ : (if IntKind.u64.signed = true then (-1 : Int) else IntKind.u64.max) = 18446744073709551615 := rfl
namespace Kd
section
variable {α : Type} {d : Kd α} {e base g n c : Nat} {W : World} {ok : Nat → Prop} {ad : Addr} {xs : List α}
/-- A row that was handed in and is read, of one element or more: it lies in a block of its footprint. -/
theorem V_away (h : V d e W base ok (.slice (some ad) n c) xs) (hok : ∀ k, ok k → k ≠ g)
    (hn : 0 < n := by first | omega | exact of_decide_eq_true (by assumption) | exact Int.ofNat_lt.mp (of_decide_eq_true (by assumption)) | (simp_all; done)) (hs : 0 < d.sz := by decide) : some g ≠ (Value.slice (some ad) n c).ownBlock := by
  have hF := V_F h
  intro he
  have hg : ad.block = g := by
    obtain ⟨b, o, s⟩ := ad
    simp only [Value.ownBlock] at he
    first | exact (Option.some.inj he).symm | (split at he <;> simp_all)
  obtain ⟨W', h1, h2, h3⟩ := emptied_at W ad.block
  have hC := hF W' (fun k hk _ => h2 k (fun e => hok k hk (e.trans hg)))
  exact C_not_empty hC hn hs (h3 ad rfl)
end
end Kd
end Go.Proofs.YteblbippmllfkaaDoorW.PrintWords
