/- Bits: begun, New, place. -/
import Derived.Test.YtonfnlohbgbffaaWalF
set_option linter.unusedVariables false
set_option linter.unusedSimpArgs false
namespace Go.Proofs.Ytonfnlohbgbffaa
open Go.RowKit
open Go.Maps (Keyed)

def bmF (gt first many : Nat) : Nat → Value
  | 0 => .iface 42 (.pointer (some ⟨gt, 0, none⟩))
  | 1 => .int .i64 first
  | _ => .int .i64 many
section
variable {W w w' : World} {gd gb gl gt gm n first many g : Nat} {F : Int → Option (Nat → Nat)} {bad : Int} {D : Nat → Nat → Nat} {left : Int} {dead : Bool}
set_option maxRecDepth 10000 in
set_option maxHeartbeats 1000000 in
theorem bitsNew_ok (gt first many : Nat) (h1 : first ≤ 65536) (h2 : many ≤ 65536) (w : World) :
    Calls Try.prog 24 #[.pointer (some ⟨gt, 0, none⟩), .int .i64 first, .int .i64 many] w fun e w' => ∃ g, e = .returned (.tuple #[.pointer (some ⟨g, 0, none⟩), .int .i64 0]) ∧ w'.rowIs g 137 3 (bmF gt first many) ∧ w.heap.size ≤ g ∧ Below w.heap.size w w' := by
  go_enter Try.func24, Try.ntmps24
  go_wp2_with fail
  go_ret2
  refine ⟨_, rfl, ?_, Nat.le_refl _, bnew _ _⟩
  exact World.rowIs_alloc _ _ _ _ (fun i hi => by rcases i with _ | _ | _ | i; rfl; rfl; rfl; simp at hi; omega)
set_option maxRecDepth 10000 in
set_option maxHeartbeats 1000000 in
theorem bitsPlace_in (h : w.rowIs g 137 3 (bmF gt first many)) (i : Nat) (hi : i ≤ 65536) (hf : first ≤ 65536) :
    Calls Try.prog 68 #[.pointer (some ⟨g, 0, none⟩), .int .i64 i] w fun e w' => e = .returned (.tuple #[.int .i64 ((first + i / 512 : Nat) : Int), .int .i64 ((i / 8 % 64 : Nat) : Int), .int .u8 ((2 ^ (i % 8) : Nat) : Int)]) ∧ ∃ k, w' = w.drewN k := by
  have c1 : w.cell? ⟨g, 1, none⟩ = some (.int .i64 first) := h.cell (i := 1) (by omega)
  have s1 : IntKind.i64.wrap ((first : Int) + (i : Int) / 512) = ((first + i / 512 : Nat) : Int) := by simp [IntKind.wrap, IntKind.bits, IntKind.signed]; omega
  have s2 : bits .and .i64 ((i : Int) / 8) 63 = ((i / 8 % 64 : Nat) : Int) := by
    have h1 := (bits_nat .i64 63 (by decide) (fun n h0 h1 => by simp [IntKind.wrap, IntKind.bits, IntKind.signed]; omega) (i / 8) 63 (by omega) (by omega)).1
    rw [show ((i : Int) / 8) = ((i / 8 : Nat) : Int) by omega, show (63 : Int) = ((63 : Nat) : Int) from rfl, h1, show 63 = 2 ^ 6 - 1 from rfl, Nat.and_two_pow_sub_one_eq_mod]
  have s3 : bits .and .i64 (i : Int) 7 = ((i % 8 : Nat) : Int) := by
    have h1 := (bits_nat .i64 63 (by decide) (fun n h0 h1 => by simp [IntKind.wrap, IntKind.bits, IntKind.signed]; omega) i 7 (by omega) (by omega)).1
    rw [show (7 : Int) = ((7 : Nat) : Int) from rfl, h1, show 7 = 2 ^ 3 - 1 from rfl, Nat.and_two_pow_sub_one_eq_mod]
  obtain ⟨b, hb⟩ : ∃ b, b = 2 ^ (i % 8) := ⟨_, rfl⟩
  rw [← hb]
  obtain ⟨r, hr⟩ : ∃ r, r = i % 8 := ⟨_, rfl⟩
  rw [← hr] at hb
  have HB := Lib.hid hb
  obtain ⟨q, hq⟩ : ∃ q, q = i / 8 % 64 := ⟨_, rfl⟩
  obtain ⟨p, hp⟩ : ∃ p, p = first + i / 512 := ⟨_, rfl⟩
  rw [← hr] at s3
  rw [← hq] at s2 ⊢
  rw [← hp] at s1 ⊢
  have hr8 : r < 8 := by omega
  clear h hr hq hp hb
  go_enter Try.func68, Try.ntmps68
  go_wp2_with fail
  refine wp_region_quiet_lit (by kernel_rfl) (by kernel_rfl) ?_
  iterate 12 (go_big_quiet_step (fail))
  refine quiet_by (v := .int .u8 (b : Int)) (by kernel_rfl) (some 19) rfl (fun w => by
    have : r = 0 ∨ r = 1 ∨ r = 2 ∨ r = 3 ∨ r = 4 ∨ r = 5 ∨ r = 6 ∨ r = 7 := by omega
    have hb := HB.out
    clear s1 s2 s3 c1 HB
    rcases this with rfl | rfl | rfl | rfl | rfl | rfl | rfl | rfl <;> subst hb <;> first | (go_simp; done) | (go_simp; rfl)) ?_
  go_simp
  repeat (go_big_quiet_step (fail))
  refine wpQuiet_nil ?_
  intro nq
  go_wp2_with fail
  go_ret3
  exact ⟨rfl, nq, rfl⟩
end
end Go.Proofs.Ytonfnlohbgbffaa
