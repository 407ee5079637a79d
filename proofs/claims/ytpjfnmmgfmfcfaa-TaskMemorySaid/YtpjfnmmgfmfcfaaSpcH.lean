/- Memory of a process: the walks of Write, Store, Load. -/
import Derived.Test.YtpjfnmmgfmfcfaaSpcG
set_option linter.unusedVariables false
set_option linter.unusedSimpArgs false
namespace Go.Proofs.Ytpjfnmmgfmfcfaa
open Go.RowKit

section
variable {w w' w0 : World} {base gs g gm lab : Nat} {ps : List (Nat × Nat)} {v : Value} {a : Option Addr} {us : Nat → Nat} {F F' : Nat × Nat → Option (Nat → Nat)} {rs : List RegL}
theorem SpV.chg2 (h : SpV w base gs g lab ps v) (ht : FP w g gm a us F) (c : Chg (fun k => k = g ∨ k = gm) w w') : SpV w' base gs g lab ps v :=
  h.chg c (by have := h.ne ht; omega) (fun x hx => by have := h.own_ne ht hx; omega)
/-! ### Load -/
end
end Go.Proofs.Ytpjfnmmgfmfcfaa
