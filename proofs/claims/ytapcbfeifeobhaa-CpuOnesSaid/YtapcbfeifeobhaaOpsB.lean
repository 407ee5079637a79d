/- The law OpsNames: its walk, with what it calls. -/
import Derived.Test.YtapcbfeifeobhaaOpsA
namespace Go.Proofs.Ytapcbfeifeobhaa
open Go.RowKit

set_option maxHeartbeats 400000 in
theorem opsPack_any (a b c d : Int) (w : World) :
    Calls Try.prog 10 #[.agg #[.int .u8 a, .int .u8 b, .int .u8 c, .int .u8 d]] w fun e w' =>
      e = .returned (.agg #[.int .u8 a, .int .u8 b, .int .u8 c, .int .u8 d]) ∧ Below w.heap.size w w' := by
  go_enter Try.func10, Try.ntmps10
  go_wp2
  exact bodyPost_ret (v := .agg #[.int .u8 a, .int .u8 b, .int .u8 c, .int .u8 d]) (by simp [results, Try.results10, go_sem]) rfl ⟨rfl, ((Below.refl _ _).alloc (Nat.le_refl _) _).alloc (by simp) _⟩

end Go.Proofs.Ytapcbfeifeobhaa
