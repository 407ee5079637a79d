/- The law's Awake of layer 3. -/
import Derived.Test.YtonfnlohbgbffaaDiskF
import Derived.Great.BuildSlice
set_option linter.unusedVariables false
set_option linter.unusedSimpArgs false
namespace Go.Proofs.Ytonfnlohbgbffaa
open Go.RowKit

/-- A block whose first byte is given. -/
def firstCell (z : Int) (i : Nat) : Value := if i = 0 then .int .u8 z else .int .u8 0
theorem firstCell_u8 {z : Int} (h : 0 ≤ z ∧ z ≤ 255) : ∀ k, k < 64 → ∃ y : Int, firstCell z k = .int .u8 y ∧ 0 ≤ y ∧ y ≤ 255 := fun k _ => by
  unfold firstCell
  split
  · exact ⟨z, rfl, h⟩
  · exact ⟨0, rfl, by omega, by omega⟩

/-! The contracts of Write, the array behind a letter -/
section
theorem diskWrite_ok' {w : World} {g gb n : Nat} {C : Nat → Value} {left : Int} {dead : Bool} {writes reads : Int} (h : DK w g gb n C left dead writes reads) (hw0 : 0 ≤ writes) (hw1 : writes < 1000000000) (hl0 : -1 ≤ left) (hl1 : left ≤ 9223372036854775807) (hn : n ≤ 65536) (k : Nat) (hk : k < n) (hd : dead = false) (hl : left ≠ 0) {D : Nat → Value} (hD : ∀ k, k < 64 → ∃ z : Int, D k = .int .u8 z ∧ 0 ≤ z ∧ z ≤ 255)
    {X : Array Value} (hX : Hid (X = rowArr 64 D)) {x : Int} (hx : x = k) :
    Calls Try.prog 52 #[.pointer (some ⟨g, 0, none⟩), .int .i64 x, .agg X] w fun e w' => e = .returned (.int .i64 0) ∧ DK w' g gb n (wrote C k D) (if 0 < left then left - 1 else left) false (writes + 1) reads ∧ Two w w' g gb := by
  subst hx
  obtain rfl := hX.out
  exact diskWrite_ok h hw0 hw1 hl0 hl1 hn k hk hd hl D hD
theorem diskWrite_no' {w : World} {g gb n : Nat} {C : Nat → Value} {left : Int} {dead : Bool} {writes reads : Int} (h : DK w g gb n C left dead writes reads) (k : Nat) (hk : k < n) (hd : dead = true ∨ left = 0) {D : Nat → Value} {X : Array Value} (hX : Hid (X = rowArr 64 D)) {x : Int} (hx : x = k) :
    Calls Try.prog 52 #[.pointer (some ⟨g, 0, none⟩), .int .i64 x, .agg X] w fun e w' => e = .returned (.int .i64 24) ∧ DK w' g gb n C left true writes reads ∧ Two w w' g gb := by
  subst hx
  obtain rfl := hX.out
  exact diskWrite_no h k hk hd D
end

end Go.Proofs.Ytonfnlohbgbffaa
