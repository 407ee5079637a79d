/- Memory of a process: one byte loaded; the chapter's example. -/
import Derived.Test.YtpjfnmmgfmfcfaaSpcH
set_option linter.unusedVariables false
set_option linter.unusedSimpArgs false
namespace Go.Proofs.Ytpjfnmmgfmfcfaa
open Go.RowKit

theorem or_zero : ∀ y : Nat, y < 256 → bits .or .u32 0 (y : Int) = y := by decide +kernel
section
variable {w w' w0 : World} {base gs g gm lab : Nat} {ps : List (Nat × Nat)} {v : Value} {a : Option Addr} {us : Nat → Nat} {F F' : Nat × Nat → Option (Nat → Nat)} {rs : List RegL}
end
end Go.Proofs.Ytpjfnmmgfmfcfaa
