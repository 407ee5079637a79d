/- Pages: New, has. -/
import Derived.Test.YtonfnlohbgbffaaTabA
set_option linter.unusedVariables false
set_option linter.unusedSimpArgs false
namespace Go.Proofs.Ytonfnlohbgbffaa
open Go.RowKit
open Go.Maps (Keyed)

section
variable {w : World} {g gm : Nat} {a : Option Addr} {us : Nat → Nat} {F : Nat × Nat → Option (Nat → Nat)}
/-- The answer of a look-up. -/
def pageOr (x : Option (Nat → Nat)) : Array Value := pageA (x.getD fun _ => 0)
theorem lk_page (x : Option (Nat → Nat)) : lkV pageV (pageV fun _ => 0) true x = .tuple #[.agg (pageOr x), .bool x.isSome] := by cases x <;> rfl
theorem lk_page1 (x : Option (Nat → Nat)) : lkV pageV (pageV fun _ => 0) false x = .agg (pageOr x) := by cases x <;> rfl
end
end Go.Proofs.Ytonfnlohbgbffaa
