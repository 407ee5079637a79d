/- Labels: contracts of Join, Meet, Top. -/
import Derived.Test.YtmieioaklgdbdaaDoorLabB
import Derived.Test.YtmieioaklgdbdaaDoorPc
import Derived.BigRegion
set_option linter.unusedVariables false
set_option linter.unusedSimpArgs false
namespace Go.Proofs.YtmieioaklgdbdaaDoor
open Go.RowKit

def joinAll (ls : List (Nat × Nat)) : Nat × Nat := ls.foldl joinL (0, 0)
def meetAll (ls : List (Nat × Nat)) : Nat × Nat := ls.foldl meetL (15, 65535)
theorem foldl_next {α β : Type} (f : β → α → β) (z : β) (ls : List α) (k : Nat) (hk : k < ls.length) : (ls.take (k + 1)).foldl f z = f ((ls.take k).foldl f z) ls[k] := by
  rw [List.take_add_one, List.getElem?_eq_getElem hk, List.foldl_append]
  rfl
theorem foldl_ok {f : Nat × Nat → Nat × Nat → Nat × Nat} (hf : ∀ a b, okL a → okL b → okL (f a b)) : ∀ (ls : List (Nat × Nat)) (z : Nat × Nat), okL z → (∀ p ∈ ls, okL p) → okL (ls.foldl f z)
  | [], z, hz, _ => hz
  | p :: ls, z, hz, h => foldl_ok hf ls (f z p) (hf z p hz (h p (by simp))) (fun q hq => h q (by simp [hq]))

/-- The cells of a label's variable. -/
def labRow (p : Nat × Nat) (i : Nat) : Value := if i = 0 then .int .u8 p.1 else .int .u16 p.2

theorem labRow0 {w : World} {g : Nat} {t : TypeId} {p : Nat × Nat} (h : w.rowIs g t 2 (labRow p)) : w.cell? ⟨g, 0, none⟩ = some (.int .u8 p.1) := h.cell (by omega)
theorem labRow1 {w : World} {g : Nat} {t : TypeId} {p : Nat × Nat} (h : w.rowIs g t 2 (labRow p)) : w.cell? ⟨g, 1, none⟩ = some (.int .u16 p.2) := h.cell (by omega)
theorem labRow_set {w : World} {g : Nat} {t : TypeId} {p : Nat × Nat} (h : w.rowIs g t 2 (labRow p)) (x y : Nat) : ((w.setCell ⟨g, 0, none⟩ (.int .u8 x)).setCell ⟨g, 1, none⟩ (.int .u16 y)).rowIs g t 2 (labRow (x, y)) :=
  ((h.set 0 _).set 1 _).congr (fun i hi => by
    have : i = 0 ∨ i = 1 := by omega
    rcases this with rfl | rfl <;> simp [labRow])

theorem lab_load {w : World} {g : Nat} {t : TypeId} {p : Nat × Nat} (h : w.rowIs g t 2 (labRow p)) : (loadVar 24 ⟨g, 0, none⟩).run Tryd.prog w = .ok (labV p) w :=
  run_loadVar_piece w 24 g 0 #[.int .u8 p.1, .int .u16 p.2] _ (fun j v hv => by
    have hj : j < 2 := by
      rcases Nat.lt_or_ge j 2 with h | h
      · exact h
      · rw [List.getElem?_eq_none (by simpa using h)] at hv; cases hv
    rw [Nat.zero_add, h.cell hj]
    have : j = 0 ∨ j = 1 := by omega
    rcases this with rfl | rfl <;> simpa [labRow] using hv) Tryd.underlying24 rfl (by kernel_rfl)

theorem labRow_new (w : World) (t : TypeId) (p : Nat × Nat) : (w.alloc (.cells #[.int .u8 p.1, .int .u16 p.2] t)).rowIs w.heap.size t 2 (labRow p) :=
  World.rowIs_alloc w #[.int .u8 p.1, .int .u16 p.2] t (labRow p) (fun i hi => by
    have : i = 0 ∨ i = 1 := by simp at hi; omega
    rcases this with rfl | rfl <;> rfl)

end Go.Proofs.YtmieioaklgdbdaaDoor
