/- Memory of a process: the walks of Load, Store, Read, Write. -/
import Derived.Test.YtpjfnmmgfmfcfaaSpcF
set_option linter.unusedVariables false
set_option linter.unusedSimpArgs false
namespace Go.Proofs.Ytpjfnmmgfmfcfaa
open Go.RowKit

section
variable {w w' w0 : World} {base gs g gm lab : Nat} {ps : List (Nat × Nat)} {v : Value} {a : Option Addr} {us : Nat → Nat} {F F' : Nat × Nat → Option (Nat → Nat)} {rs : List RegL}
theorem insideB_yes {n at_ : Nat} {many : Int} (h : insideB n at_ many = true) : ∃ k : Nat, many = k ∧ at_ + k ≤ 64 * n := by
  simp [insideB] at h
  exact ⟨many.toNat, by omega, by omega⟩
theorem insideB_nat {n at_ k : Nat} : insideB n at_ (k : Int) = decide (at_ + k ≤ 64 * n) := by
  simp only [insideB]
  by_cases h : at_ + k ≤ 64 * n
  · simp [h]; omega
  · simp [h]; omega
/-! ### Read -/
end
end Go.Proofs.Ytpjfnmmgfmfcfaa
