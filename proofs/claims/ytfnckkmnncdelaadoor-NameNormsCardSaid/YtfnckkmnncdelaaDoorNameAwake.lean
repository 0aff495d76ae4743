/-
  cubbylaw06.awake answers true.
-/
import Derived.Test.YtfnckkmnncdelaaDoorNorm
namespace Go.Proofs.YtfnckkmnncdelaaDoor
open Go.RowKit
theorem normV_inbox : normV ⟨#[105, 110, 98, 111, 120]⟩ = (inboxS, true) := by decide +kernel
set_option maxHeartbeats 400000 in
theorem awake06 (m : Int) (w : World) (hm : w.cell? ⟨0, 0, none⟩ = some (.int .i64 m)) :
    Calls Tryd.prog 12 #[] w fun e w' => e = .returned (.bool true) ∧ Below w.heap.size w w' := by
  go_enter Tryd.func12, Tryd.ntmps12
  go_wp2_with fail
  refine (norm_all ⟨#[105, 110, 98, 111, 120]⟩ m w (by decide) hm).mono ?_
  rintro e w1 ⟨rfl, hb⟩
  rw [normV_inbox]
  unfold inboxS
  clear hm
  go_wp2
  go_ret
  exact ⟨rfl, hb⟩
end Go.Proofs.YtfnckkmnncdelaaDoor
