/- The actions of FdsPlays as data: the thing to open among their cells. -/
import Derived.Test.YtfnkbgcgajgppaaPlyC
import Derived.Test.YtfnkbgcgajgppaaSetB
set_option linter.unusedVariables false
set_option linter.unusedSimpArgs false
namespace Go.Proofs.Ytfnkbgcgajgppaa
open Go.RowKit

/-- An action's cells: the thing to open. -/
theorem act24o {w : World} {m : Nat} {cs : List Value} (h : Okay Try.prog w m 110 cs) :
    ∃ o, okOpen o ∧ ∀ j, j < 14 → cs[4 + j]? = (openA o)[j]? := by
  have hf := Okay.fits 6 110 m cs kinds24 h (by kernel_rfl)
  obtain ⟨hl, hg⟩ := FitsAll.get hf
  obtain ⟨_, h4, ⟨x4, rfl, w4⟩⟩ := hg 4 ⟨0, .u8, 0⟩ rfl
  obtain ⟨_, h5, ⟨x5, rfl, w5⟩⟩ := hg 5 ⟨0, .u8, 0⟩ rfl
  obtain ⟨_, h6, ⟨x6, rfl, w6⟩⟩ := hg 6 ⟨0, .u16, 0⟩ rfl
  obtain ⟨_, h7, ⟨x7, rfl, w7⟩⟩ := hg 7 ⟨0, .u16, 0⟩ rfl
  obtain ⟨_, h8, ⟨x8, rfl⟩⟩ := hg 8 ⟨1, .i64, 0⟩ rfl
  obtain ⟨_, h9, ⟨x9, rfl, w9⟩⟩ := hg 9 ⟨0, .u8, 0⟩ rfl
  obtain ⟨_, h10, ⟨x10, rfl, w10⟩⟩ := hg 10 ⟨0, .u16, 0⟩ rfl
  obtain ⟨_, h11, ⟨x11, rfl, w11⟩⟩ := hg 11 ⟨0, .u16, 0⟩ rfl
  obtain ⟨_, h12, ⟨x12, rfl, w12⟩⟩ := hg 12 ⟨0, .i64, 0⟩ rfl
  obtain ⟨_, h13, ⟨x13, rfl, w13⟩⟩ := hg 13 ⟨0, .i64, 0⟩ rfl
  obtain ⟨_, h14, ⟨x14, rfl⟩⟩ := hg 14 ⟨1, .i64, 0⟩ rfl
  obtain ⟨_, h15, ⟨x15, rfl⟩⟩ := hg 15 ⟨1, .i64, 0⟩ rfl
  obtain ⟨_, h16, ⟨x16, rfl⟩⟩ := hg 16 ⟨1, .i64, 0⟩ rfl
  obtain ⟨_, h17, ⟨x17, rfl, w17⟩⟩ := hg 17 ⟨2, .i64, 0⟩ rfl
  have b4 := wf_u8 w4
  have b5 := wf_u8 w5
  have b6 := wf_u16 w6
  have b7 := wf_u16 w7
  have b9 := wf_u8 w9
  have b10 := wf_u16 w10
  have b11 := wf_u16 w11
  obtain ⟨y4, rfl⟩ : ∃ n : Nat, x4 = n := ⟨x4.toNat, by omega⟩
  obtain ⟨y5, rfl⟩ : ∃ n : Nat, x5 = n := ⟨x5.toNat, by omega⟩
  obtain ⟨y6, rfl⟩ : ∃ n : Nat, x6 = n := ⟨x6.toNat, by omega⟩
  obtain ⟨y7, rfl⟩ : ∃ n : Nat, x7 = n := ⟨x7.toNat, by omega⟩
  obtain ⟨y9, rfl⟩ : ∃ n : Nat, x9 = n := ⟨x9.toNat, by omega⟩
  obtain ⟨y10, rfl⟩ : ∃ n : Nat, x10 = n := ⟨x10.toNat, by omega⟩
  obtain ⟨y11, rfl⟩ : ∃ n : Nat, x11 = n := ⟨x11.toNat, by omega⟩
  refine ⟨⟨y4, y5, y6, y7, x8, y9, y10, y11, x12, x13, x14, x15, x16, x17⟩, ⟨by show y4 ≤ _; omega, by show y5 ≤ _; omega, by show y6 ≤ _; omega, by show y7 ≤ _; omega, by show y9 ≤ _; omega, by show y10 ≤ _; omega, by show y11 ≤ _; omega, w12, w13, w17⟩, fun j hj => ?_⟩
  match j, hj with
  | 0, _ => exact h4
  | 1, _ => exact h5
  | 2, _ => exact h6
  | 3, _ => exact h7
  | 4, _ => exact h8
  | 5, _ => exact h9
  | 6, _ => exact h10
  | 7, _ => exact h11
  | 8, _ => exact h12
  | 9, _ => exact h13
  | 10, _ => exact h14
  | 11, _ => exact h15
  | 12, _ => exact h16
  | 13, _ => exact h17
end Go.Proofs.Ytfnkbgcgajgppaa
