import Derived.Test.YtmkcmfamdnjmdaaZnpesPreZ
import Derived.Test.YtmkcmfamdnjmdaaZnpesPNx0
import Derived.Test.YtmkcmfamdnjmdaaZnpesPNx2
import Derived.Test.YtmkcmfamdnjmdaaZnpesPNx3
import Derived.Test.YtmkcmfamdnjmdaaZnpesPNx4
import Derived.Test.YtmkcmfamdnjmdaaZnpesPNx8
import Derived.Test.YtmkcmfamdnjmdaaZnpesPNx9
namespace Go.Proofs.Ytmkcmfamdnjmdaa.PN
open Go.RowKit Go.Proofs.YtmkcmfamdnjmdaaW.PrintWords Go.Proofs.YtmkcmfamdnjmdaaW.PrintLast Go.Proofs.YtmkcmfamdnjmdaaW.PrintMore
attribute [local go_sem] max2_mx_ min2_mn_ max_two min_two max_three min_three max_four min_four
set_option linter.unusedVariables false
set_option linter.unusedSimpArgs false
def node_shaped_1.f (l0 : List Int) : Option (Bool) := some (decide ((l0.length : Int) > 260))
set_option maxHeartbeats 8000000 in
set_option maxRecDepth 100000 in
theorem node_shaped_1.calls (A0 : Option Addr) (c0 : Nat) (l0 : List Int) (r : Bool) (w : World) (hr0 : Kd.C (Kd.int .u8) w A0 l0.length l0) (hc0 : l0.length ≤ c0) (h : node_shaped_1.f l0 = some r) :
    Calls Try.prog 43 #[.slice A0 l0.length c0] w fun e w' => e = .returned (.bool r) ∧ Drawn0 w w' := by
 have HR0 := Aside0.mk hr0; have HC0 := Aside0.mk hc0; clear hr0 hc0; have H : (some (decide ((l0.length : Int) > 260))) = some r := h; clear h; obtain rfl := Option.some.inj H; go_enter Try.func43, Try.ntmps43; go_wp2; go_ret; exact ⟨by first | rfl | (simp; done) | (simp [*]; done), by repeat (first | exact Drawn0.refl _ | apply Drawn0.step)⟩
end Go.Proofs.Ytmkcmfamdnjmdaa.PN
