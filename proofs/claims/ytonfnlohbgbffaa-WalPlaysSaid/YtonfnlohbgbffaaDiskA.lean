/- Contracts of package disk, and of the law's block. -/
import Derived.Test.YtonfnlohbgbffaaPc
set_option linter.unusedVariables false
set_option linter.unusedSimpArgs false
namespace Go.Proofs.Ytonfnlohbgbffaa
open Go.RowKit

def noughts : Array Value := rowArr 64 (fun _ => .int .u8 0)
theorem noughts_zero : (Try.prog.info? 52).bind (·.zero) = some (.agg noughts) := by kernel_rfl
theorem block_size : (Try.prog.info? 52).map (·.size) = some 64 := by kernel_rfl
theorem block_under : Try.prog.underlying 52 = some (.array 64 5) := by kernel_rfl

/-- The bytes of the block of a number. -/
def lawCell (n : Int) (i : Nat) : Value := .int .u8 ((n + i) % 256)

theorem lawCell_one (n : Int) : ∀ v ∈ (rowArr 64 (lawCell n)).toList, v.oneCell' = true := by
  intro v hv
  simp only [rowArr, List.mem_map] at hv
  obtain ⟨i, _, rfl⟩ := hv
  rfl

end Go.Proofs.Ytonfnlohbgbffaa
