/- Pages: Give, Byte, Set, Copy, Used, Room. -/
import Derived.Test.YtonfnlohbgbffaaFrmB
set_option linter.unusedVariables false
set_option linter.unusedSimpArgs false
namespace Go.Proofs.Ytonfnlohbgbffaa
open Go.RowKit
open Go.Maps (Keyed)

section
variable {w0 w : World} {g gm : Nat} {a : Option Addr} {us : Nat → Nat} {F : Nat × Nat → Option (Nat → Nat)} {rs : List RegL}
theorem frameIndex (f : Nat → Nat) (X : Array Value) (hX : X = pageA f) (n : Nat) (hn : n < 64) (w : World) : (Instr.index 51 (.agg X) (.int .i64 n)).run Try.prog w = .ok (.int .u8 (f n)) w :=
  run_index_arr Try.underlying51 (by kernel_rfl) (fun w => by kernel_rfl) X (by rw [hX]; simp [pageA, rowArr, hn]) hn w
end
end Go.Proofs.Ytonfnlohbgbffaa
