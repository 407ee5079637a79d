/- Both disks: Read and Write of any place. -/
import Derived.Test.YtcjnnonfnlemmaaDiskK
set_option linter.unusedVariables false
set_option linter.unusedSimpArgs false
namespace Go.Proofs.Ytcjnnonfnlemmaa
open Go.RowKit

def inDisk (n : Nat) (y : Int) : Prop := 0 ≤ y ∧ y < (n : Int)
instance (n : Nat) (y : Int) : Decidable (inDisk n y) := by unfold inDisk; infer_instance

def rdV (C : Nat → Value) (n : Nat) (y : Int) : Array Value := if inDisk n y then rowArr 64 (fun j => C (y.toNat * 64 + j)) else noughts
def rdE (n : Nat) (y : Int) : Int := if inDisk n y then 0 else 27
def rd1 (n : Nat) (y : Int) : Int := if inDisk n y then 1 else 0

theorem rdV_size (C : Nat → Value) (n : Nat) (y : Int) : (rdV C n y).size = 64 := by
  unfold rdV
  split
  · exact rowArr_size _ _
  · exact rowArr_size _ _

section
variable {w : World} {g gb n : Nat} {C : Nat → Value} {left : Int} {dead : Bool} {writes reads : Int}

theorem rdV_u8 (h : ∀ k, k < n * 64 → ∃ z : Int, C k = .int .u8 z ∧ 0 ≤ z ∧ z ≤ 255) (y : Int) : U8s (rdV C n y).toList := by
  unfold rdV
  split
  · rename_i hy
    have hy := hy
    unfold inDisk at hy
    exact U8s.row (fun k hk => h _ (by omega))
  · exact U8s.row (fun k _ => ⟨0, rfl, by omega, by omega⟩)

theorem diskRead_any (h : DK w g gb n C left dead writes reads) (hr0 : 0 ≤ reads) (hr1 : reads < 1000000000) (hn : n ≤ 65536) (y : Int) :
    Calls Try.prog 13 #[.pointer (some ⟨g, 0, none⟩), .int .i64 y] w fun e w' => e = .returned (.tuple #[.agg (rdV C n y), .int .i64 (rdE n y)]) ∧ DK w' g gb n C left dead writes (reads + rd1 n y) ∧ Two w w' g gb := by
  by_cases hy : inDisk n y
  · have hy' := hy
    unfold inDisk at hy'
    obtain ⟨k, rfl⟩ : ∃ k : Nat, y = k := ⟨y.toNat, by omega⟩
    have e1 : rdV C n k = rowArr 64 (fun j => C (k * 64 + j)) := by unfold rdV; rw [if_pos hy]; rfl
    have e2 : rdE n k = 0 := by unfold rdE; rw [if_pos hy]
    have e3 : rd1 n k = 1 := by unfold rd1; rw [if_pos hy]
    rw [e1, e2, e3]
    exact diskRead_ok h hr0 hr1 hn k (by omega)
  · have hy' := hy
    unfold inDisk at hy'
    have e1 : rdV C n y = noughts := by unfold rdV; rw [if_neg hy]
    have e2 : rdE n y = 27 := by unfold rdE; rw [if_neg hy]
    have e3 : rd1 n y = 0 := by unfold rd1; rw [if_neg hy]
    rw [e1, e2, e3, Int.add_zero]
    refine (diskRead_range h y (by omega) (Lib.hid rfl)).mono ?_
    rintro e w' ⟨he, hb⟩
    exact ⟨he, h.kept hb, (Two.refl w g gb).below hb⟩

theorem refRead_any (h : RK w g gb n C left dead reads writes) (hr0 : 0 ≤ reads) (hr1 : reads < 1000000000) (hn : n ≤ 65536) (y : Int) :
    Calls Try.prog 19 #[.pointer (some ⟨g, 0, none⟩), .int .i64 y] w fun e w' => e = .returned (.tuple #[.agg (rdV C n y), .int .i64 (rdE n y)]) ∧ RK w' g gb n C left dead (reads + rd1 n y) writes ∧ Two w w' g gb := by
  by_cases hy : inDisk n y
  · have hy' := hy
    unfold inDisk at hy'
    obtain ⟨k, rfl⟩ : ∃ k : Nat, y = k := ⟨y.toNat, by omega⟩
    have e1 : rdV C n k = rowArr 64 (fun j => C (k * 64 + j)) := by unfold rdV; rw [if_pos hy]; rfl
    have e2 : rdE n k = 0 := by unfold rdE; rw [if_pos hy]
    have e3 : rd1 n k = 1 := by unfold rd1; rw [if_pos hy]
    rw [e1, e2, e3]
    exact refRead_ok h hr0 hr1 hn k (by omega)
  · have hy' := hy
    unfold inDisk at hy'
    have e1 : rdV C n y = noughts := by unfold rdV; rw [if_neg hy]
    have e2 : rdE n y = 27 := by unfold rdE; rw [if_neg hy]
    have e3 : rd1 n y = 0 := by unfold rd1; rw [if_neg hy]
    rw [e1, e2, e3, Int.add_zero]
    refine (refRead_range h y (by omega) (Lib.hid rfl)).mono ?_
    rintro e w' ⟨he, hb⟩
    exact ⟨he, h.kept hb, (Two.refl w g gb).below hb⟩
end

/-- What a write makes of a disk. -/
def wrGo (n : Nat) (y left : Int) (dead : Bool) : Prop := inDisk n y ∧ dead = false ∧ left ≠ 0
instance (n : Nat) (y left : Int) (dead : Bool) : Decidable (wrGo n y left dead) := by unfold wrGo; infer_instance
def wrE (n : Nat) (y left : Int) (dead : Bool) : Int := if wrGo n y left dead then 0 else if inDisk n y then 24 else 27
def wrC (C : Nat → Value) (n : Nat) (y left : Int) (dead : Bool) (D : Nat → Value) : Nat → Value := if wrGo n y left dead then wrote C y.toNat D else C
def wrL (n : Nat) (y left : Int) (dead : Bool) : Int := if wrGo n y left dead ∧ 0 < left then left - 1 else left
def wrD (n : Nat) (y left : Int) (dead : Bool) : Bool := if wrGo n y left dead then false else if inDisk n y then true else dead
def wr1 (n : Nat) (y left : Int) (dead : Bool) : Int := if wrGo n y left dead then 1 else 0

section
variable {w : World} {g gb n : Nat} {C : Nat → Value} {left : Int} {dead : Bool} {writes reads : Int}
theorem diskWrite_any (h : DK w g gb n C left dead writes reads) (hw0 : 0 ≤ writes) (hw1 : writes < 1000000000) (hl0 : -1 ≤ left) (hl1 : left ≤ 9223372036854775807) (hn : n ≤ 65536) (y : Int)
    {D : Nat → Value} (hD : ∀ k, k < 64 → ∃ z : Int, D k = .int .u8 z ∧ 0 ≤ z ∧ z ≤ 255) {X : Array Value} (hX : Hid (X = rowArr 64 D)) :
    Calls Try.prog 11 #[.pointer (some ⟨g, 0, none⟩), .int .i64 y, .agg X] w fun e w' => e = .returned (.int .i64 (wrE n y left dead)) ∧
      DK w' g gb n (wrC C n y left dead D) (wrL n y left dead) (wrD n y left dead) (writes + wr1 n y left dead) reads ∧ Two w w' g gb := by
  obtain rfl := hX.out
  by_cases hgo : wrGo n y left dead
  · have h1 := hgo
    unfold wrGo inDisk at h1
    obtain ⟨h2, h3, h4⟩ := h1
    obtain ⟨k, rfl⟩ : ∃ k : Nat, y = k := ⟨y.toNat, by omega⟩
    have e1 : wrE n k left dead = 0 := by unfold wrE; rw [if_pos hgo]
    have e2 : wrC C n k left dead D = wrote C k D := by unfold wrC; rw [if_pos hgo]; rfl
    have e3 : wrL n k left dead = if 0 < left then left - 1 else left := by unfold wrL; simp [hgo]
    have e4 : wrD n k left dead = false := by unfold wrD; rw [if_pos hgo]
    have e5 : wr1 n k left dead = 1 := by unfold wr1; rw [if_pos hgo]
    rw [e1, e2, e3, e4, e5]
    exact diskWrite_ok h hw0 hw1 hl0 hl1 hn k (by omega) h3 h4 D hD
  · have e2 : wrC C n y left dead D = C := by unfold wrC; rw [if_neg hgo]
    have e3 : wrL n y left dead = left := by unfold wrL; simp [hgo]
    have e5 : wr1 n y left dead = 0 := by unfold wr1; rw [if_neg hgo]
    rw [e2, e3, e5, Int.add_zero]
    by_cases hy : inDisk n y
    · have e1 : wrE n y left dead = 24 := by unfold wrE; rw [if_neg hgo, if_pos hy]
      have e4 : wrD n y left dead = true := by unfold wrD; rw [if_neg hgo, if_pos hy]
      rw [e1, e4]
      have hy' := hy
      unfold inDisk at hy'
      unfold wrGo at hgo
      obtain ⟨k, rfl⟩ : ∃ k : Nat, y = k := ⟨y.toNat, by omega⟩
      refine diskWrite_no h k (by omega) ?_ D
      by_cases hd : dead = true
      · exact .inl hd
      · refine .inr ?_
        by_cases hl : left = 0
        · exact hl
        · exact absurd ⟨hy, by simpa using hd, hl⟩ hgo
    · have e1 : wrE n y left dead = 27 := by unfold wrE; rw [if_neg hgo, if_neg hy]
      have e4 : wrD n y left dead = dead := by unfold wrD; rw [if_neg hgo, if_neg hy]
      rw [e1, e4]
      unfold inDisk at hy
      exact diskWrite_range h y (by omega) D

theorem refWrite_any (h : RK w g gb n C left dead reads writes) (hw0 : 0 ≤ writes) (hw1 : writes < 1000000000) (hl0 : -1 ≤ left) (hl1 : left ≤ 9223372036854775807) (hn : n ≤ 65536) (y : Int)
    {D : Nat → Value} (hD : ∀ k, k < 64 → ∃ z : Int, D k = .int .u8 z ∧ 0 ≤ z ∧ z ≤ 255) {X : Array Value} (hX : Hid (X = rowArr 64 D)) :
    Calls Try.prog 21 #[.pointer (some ⟨g, 0, none⟩), .int .i64 y, .agg X] w fun e w' => e = .returned (.int .i64 (wrE n y left dead)) ∧
      RK w' g gb n (wrC C n y left dead D) (wrL n y left dead) (wrD n y left dead) reads (writes + wr1 n y left dead) ∧ Two w w' g gb := by
  obtain rfl := hX.out
  by_cases hgo : wrGo n y left dead
  · have h1 := hgo
    unfold wrGo inDisk at h1
    obtain ⟨h2, h3, h4⟩ := h1
    obtain ⟨k, rfl⟩ : ∃ k : Nat, y = k := ⟨y.toNat, by omega⟩
    have e1 : wrE n k left dead = 0 := by unfold wrE; rw [if_pos hgo]
    have e2 : wrC C n k left dead D = wrote C k D := by unfold wrC; rw [if_pos hgo]; rfl
    have e3 : wrL n k left dead = if 0 < left then left - 1 else left := by unfold wrL; simp [hgo]
    have e4 : wrD n k left dead = false := by unfold wrD; rw [if_pos hgo]
    have e5 : wr1 n k left dead = 1 := by unfold wr1; rw [if_pos hgo]
    rw [e1, e2, e3, e4, e5]
    exact refWrite_ok h hw0 hw1 hl0 hl1 hn k (by omega) h3 h4 D hD
  · have e2 : wrC C n y left dead D = C := by unfold wrC; rw [if_neg hgo]
    have e3 : wrL n y left dead = left := by unfold wrL; simp [hgo]
    have e5 : wr1 n y left dead = 0 := by unfold wr1; rw [if_neg hgo]
    rw [e2, e3, e5, Int.add_zero]
    by_cases hy : inDisk n y
    · have e1 : wrE n y left dead = 24 := by unfold wrE; rw [if_neg hgo, if_pos hy]
      have e4 : wrD n y left dead = true := by unfold wrD; rw [if_neg hgo, if_pos hy]
      rw [e1, e4]
      have hy' := hy
      unfold inDisk at hy'
      unfold wrGo at hgo
      obtain ⟨k, rfl⟩ : ∃ k : Nat, y = k := ⟨y.toNat, by omega⟩
      refine refWrite_no h k (by omega) ?_ D
      by_cases hd : dead = true
      · exact .inl hd
      · refine .inr ?_
        by_cases hl : left = 0
        · exact hl
        · exact absurd ⟨hy, by simpa using hd, hl⟩ hgo
    · have e1 : wrE n y left dead = 27 := by unfold wrE; rw [if_neg hgo, if_neg hy]
      have e4 : wrD n y left dead = dead := by unfold wrD; rw [if_neg hgo, if_neg hy]
      rw [e1, e4]
      unfold inDisk at hy
      exact refWrite_range h y (by omega) D
end

theorem rd1_le (n : Nat) (y : Int) : 0 ≤ rd1 n y ∧ rd1 n y ≤ 1 := by unfold rd1; split <;> omega
theorem wr1_le (n : Nat) (y left : Int) (dead : Bool) : 0 ≤ wr1 n y left dead ∧ wr1 n y left dead ≤ 1 := by unfold wr1; split <;> omega
theorem wrL_le (n : Nat) (y left : Int) (dead : Bool) (h0 : -1 ≤ left) (h1 : left ≤ 9223372036854775807) : -1 ≤ wrL n y left dead ∧ wrL n y left dead ≤ 9223372036854775807 := by
  unfold wrL
  split
  · rename_i h; omega
  · omega
end Go.Proofs.Ytcjnnonfnlemmaa
