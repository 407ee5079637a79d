/- Pages: Set, Copy, Used, Room. -/
import Derived.Test.YtonfnlohbgbffaaFrmC
set_option linter.unusedVariables false
set_option linter.unusedSimpArgs false
namespace Go.Proofs.Ytonfnlohbgbffaa
open Go.RowKit
open Go.Maps (Keyed)

/-- One byte of a page is another one. -/
def setB (f : Nat → Nat) (n c : Nat) : Nat → Nat := fun j => if j = n then c else f j
theorem page_row {w : World} {x : Nat} {f : Nat → Nat} (h : w.heap[x]? = some (.cells (pageA f) 51 (0, 0))) : w.rowIs x 51 64 (fun i => .int .u8 (f i)) := rowIs_of_arr h
theorem page_set {w : World} {x : Nat} {f : Nat → Nat} (h : w.heap[x]? = some (.cells (pageA f) 51 (0, 0))) (n c : Nat) :
    (w.setCell ⟨x, n, none⟩ (.int .u8 c)).heap[x]? = some (.cells (pageA (setB f n c)) 51 (0, 0)) :=
  rowIs_arr (((page_row h).set n (.int .u8 c)).congr (fun j hj => by unfold setB; split <;> rfl))

section
variable {w0 w : World} {g gm : Nat} {a : Option Addr} {us : Nat → Nat} {F : Nat × Nat → Option (Nat → Nat)} {rs : List RegL}
end
end Go.Proofs.Ytonfnlohbgbffaa
