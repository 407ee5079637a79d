/- Pages: Take. -/
import Derived.Test.YtonfnlohbgbffaaFrmA
set_option linter.unusedVariables false
set_option linter.unusedSimpArgs false
namespace Go.Proofs.Ytonfnlohbgbffaa
open Go.RowKit
open Go.Maps (Keyed)

theorem set_two {w : World} {G : Nat} {x0 x1 : Value} {t : TypeId} (h : w.heap[G]? = some (.cells #[x0, x1] t (0, 0))) (y0 y1 : Value) :
    ((w.setCell ⟨G, 0, none⟩ y0).setCell ⟨G, 1, none⟩ y1).heap[G]? = some (.cells #[y0, y1] t (0, 0)) ∧ One w ((w.setCell ⟨G, 0, none⟩ y0).setCell ⟨G, 1, none⟩ y1) (some G) := by
  have h1 := heap_setCell_same h y0 (off := 0) (by simp)
  have h2 := heap_setCell_same h1 y1 (off := 1) (by simp)
  exact ⟨by simpa using h2, (one_setCell w G 0 y0).trans (one_setCell _ G 1 y1)⟩

section
variable {w0 w : World} {g gm : Nat} {a : Option Addr} {us : Nat → Nat} {F : Nat × Nat → Option (Nat → Nat)} {rs : List RegL}
/-- The number that stands in a page's name. -/
def numAt (w : World) (x : Nat) : Nat := (intOf ((w.cell? ⟨x, 1, none⟩).getD undef)).toNat
theorem frm_step {n : Nat} (h : n + 1 < 65536) : IntKind.u16.wrap ((n : Int) + 1) = ((n + 1 : Nat) : Int) := by
  simp [IntKind.wrap, IntKind.bits, IntKind.signed]
  omega

end
end Go.Proofs.Ytonfnlohbgbffaa
