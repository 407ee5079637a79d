/- The laws NodeSpreads and NodeAll: their walks. -/
import Derived.Test.YtonfnlohbgbffaaNodeA
namespace Go.Proofs.Ytonfnlohbgbffaa
open Go.RowKit

set_option maxHeartbeats 400000 in
theorem nodeAwake_any (w : World) :
    Calls Try.prog 15 #[] w fun e w' => e = .returned (.bool true) ∧ Below w.heap.size w w' := by
  have h1 : ∀ w, Calls Try.prog 64 #[.int .i64 1000] w fun e w' => e = .returned (.tuple #[.int .i64 16, .int .i64 1]) ∧ w = w' := fun w => nodeSpread_any 1000 (by omega) w
  have h2 : ∀ w, Calls Try.prog 64 #[.int .i64 3000] w fun e w' => e = .returned (.tuple #[.int .i64 47, .int .i64 3]) ∧ w = w' := fun w => nodeSpread_any 3000 (by omega) w
  have H1 := Lib.hid h1
  have H2 := Lib.hid h2
  clear h1 h2
  go_enter Try.func15, Try.ntmps15
  go_wp2_with fail
  refine (H1.out _).mono ?_; rintro e w1 ⟨rfl, rfl⟩
  go_wp2_with fail
  refine (H2.out _).mono ?_; rintro e w1 ⟨rfl, rfl⟩
  go_wp2_with fail
  refine (nodeCheck_awake _).mono ?_; rintro e w1 ⟨rfl, hb⟩
  go_wp2_with fail
  go_ret
  exact ⟨rfl, hb⟩

end Go.Proofs.Ytonfnlohbgbffaa
