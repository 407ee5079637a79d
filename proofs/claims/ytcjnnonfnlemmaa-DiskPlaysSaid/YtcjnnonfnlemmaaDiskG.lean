/- The law's Awake of layer 3. -/
import Derived.Test.YtcjnnonfnlemmaaDiskF
import Derived.Great.BuildSlice
set_option linter.unusedVariables false
set_option linter.unusedSimpArgs false
namespace Go.Proofs.Ytcjnnonfnlemmaa
open Go.RowKit

/-- A block whose first byte is given. -/
def firstCell (z : Int) (i : Nat) : Value := if i = 0 then .int .u8 z else .int .u8 0
theorem firstCell_u8 {z : Int} (h : 0 ≤ z ∧ z ≤ 255) : ∀ k, k < 64 → ∃ y : Int, firstCell z k = .int .u8 y ∧ 0 ≤ y ∧ y ≤ 255 := fun k _ => by
  unfold firstCell
  split
  · exact ⟨z, rfl, h⟩
  · exact ⟨0, rfl, by omega, by omega⟩

/-! The contracts of Write, the array behind a letter -/
section
theorem diskWrite_ok' {w : World} {g gb n : Nat} {C : Nat → Value} {left : Int} {dead : Bool} {writes reads : Int} (h : DK w g gb n C left dead writes reads) (hw0 : 0 ≤ writes) (hw1 : writes < 1000000000) (hl0 : -1 ≤ left) (hl1 : left ≤ 9223372036854775807) (hn : n ≤ 65536) (k : Nat) (hk : k < n) (hd : dead = false) (hl : left ≠ 0) {D : Nat → Value} (hD : ∀ k, k < 64 → ∃ z : Int, D k = .int .u8 z ∧ 0 ≤ z ∧ z ≤ 255)
    {X : Array Value} (hX : Hid (X = rowArr 64 D)) {x : Int} (hx : x = k) :
    Calls Try.prog 11 #[.pointer (some ⟨g, 0, none⟩), .int .i64 x, .agg X] w fun e w' => e = .returned (.int .i64 0) ∧ DK w' g gb n (wrote C k D) (if 0 < left then left - 1 else left) false (writes + 1) reads ∧ Two w w' g gb := by
  subst hx
  obtain rfl := hX.out
  exact diskWrite_ok h hw0 hw1 hl0 hl1 hn k hk hd hl D hD
theorem diskWrite_no' {w : World} {g gb n : Nat} {C : Nat → Value} {left : Int} {dead : Bool} {writes reads : Int} (h : DK w g gb n C left dead writes reads) (k : Nat) (hk : k < n) (hd : dead = true ∨ left = 0) {D : Nat → Value} {X : Array Value} (hX : Hid (X = rowArr 64 D)) {x : Int} (hx : x = k) :
    Calls Try.prog 11 #[.pointer (some ⟨g, 0, none⟩), .int .i64 x, .agg X] w fun e w' => e = .returned (.int .i64 24) ∧ DK w' g gb n C left true writes reads ∧ Two w w' g gb := by
  subst hx
  obtain rfl := hX.out
  exact diskWrite_no h k hk hd D
end

set_option maxRecDepth 10000 in
set_option maxHeartbeats 400000 in
theorem diskAwake_any (w : World) : Calls Try.prog 8 #[] w fun e w' => e = .returned (.bool true) ∧ Below w.heap.size w w' := by
  obtain ⟨X1, hX1⟩ : ∃ X, X = rowArr 64 (firstCell 1) := ⟨_, rfl⟩
  obtain ⟨X2, hX2⟩ : ∃ X, X = rowArr 64 (firstCell 2) := ⟨_, rfl⟩
  have hbX1 : Try.prog.built 32 [(0, .int .u8 1)] = some X1 := by rw [hX1]; kernel_rfl
  have hbX2 : Try.prog.built 32 [(0, .int .u8 2)] = some X2 := by rw [hX2]; kernel_rfl
  replace hX1 := Lib.hid hX1
  replace hX2 := Lib.hid hX2
  replace hbX1 := Lib.hid hbX1
  replace hbX2 := Lib.hid hbX2
  go_enter Try.func8, Try.ntmps8
  go_wp2_with (first
    | (go_at_call 9; refine (diskNew_ok 2 (by omega) _).mono ?_; rintro e w1 ⟨he, hd1, hb1⟩; subst he)
    | (go_at_call 10; refine (diskArm_ok hd1 1).mono ?_; rintro e w2 ⟨he, hd2, ht2⟩; subst he; rw [show max (1 : Int) (-1) = 1 by decide] at hd2)
    | (refine wpList_buildTo rfl 32 _ rfl (some 12) rfl X1 ?hf ?_; case hf => (rw [hX1.out]; kernel_rfl))
    | (refine wpList_buildTo rfl 32 _ rfl (some 15) rfl X2 ?hf ?_; case hf => (rw [hX2.out]; kernel_rfl))
    | (go_at_call 11; refine (diskWrite_ok' hd2 (by omega) (by omega) (by omega) (by omega) (by omega) 0 (by omega) rfl (by omega) (firstCell_u8 (z := 1) (by omega)) hX1 (x := 0) rfl).mono ?_; rintro e w3 ⟨he, hd3, ht3⟩; subst he; rw [show (if (0 : Int) < 1 then (1 : Int) - 1 else 1) = 0 by decide] at hd3; clear hd2)
    | (go_at_call 11; refine (diskWrite_no' hd3 1 (by omega) (Or.inr rfl) hX2 (x := 1) rfl).mono ?_; rintro e w4 ⟨he, hd4, ht4⟩; subst he; clear hd3)
    | (go_at_call 20; refine (diskWake_ok hd4).mono ?_; rintro e w5 ⟨he, hd5, ht5⟩; subst he; clear hd4)
    | (go_at_call 11; refine (diskWrite_ok' hd5 (by omega) (by omega) (by omega) (by omega) (by omega) 1 (by omega) rfl (by omega) (D := firstCell 2) (firstCell_u8 (z := 2) (by omega)) (Lib.hid (by kernel_rfl)) (x := 1) rfl).mono ?_; rintro e w6 ⟨he, hd6, ht6⟩; subst he))
  have b3 : Below w.heap.size w w3 := (ht2.trans ht3 |> fun h => (Two.toBelow (B := w.heap.size) h (by omega) (Nat.le_refl _) hb1.size)) |> fun h => hb1.trans h
  have b6 : Below w.heap.size w w6 := b3.trans (Two.toBelow (B := w.heap.size) (ht4.trans (ht5.trans ht6)) (by omega) (Nat.le_refl _) b3.size)
  go_ret
  exact ⟨rfl, b6⟩
end Go.Proofs.Ytcjnnonfnlemmaa
