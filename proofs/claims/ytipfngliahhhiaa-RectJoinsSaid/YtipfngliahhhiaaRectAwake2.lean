/-
  The law's fixed answer (awake) is true.
-/
import Derived.Test.YtipfngliahhhiaaRectAwake
namespace Go.Proofs.Ytipfngliahhhiaa
open Go.RowKit

set_option maxHeartbeats 1000000 in
theorem awake_any (w : World) :
    Calls Try.prog 10 #[] w fun e w' => e = .returned (.bool true) ∧ Below w.heap.size w w' := by
  go_enter Try.func10, Try.ntmps10
  go_wp2_with fail
  refine (cut_awake _).mono ?_
  rintro e w1 ⟨b, rfl, hg1, hg2, c0, c1, c2, c3, c4, c5, c6, c7, c8, c9, c10, c11, c12, c13, c14, c15, hbx⟩
  go_wp2
  go_ret
  exact ⟨rfl, hbx⟩
end Go.Proofs.Ytipfngliahhhiaa
