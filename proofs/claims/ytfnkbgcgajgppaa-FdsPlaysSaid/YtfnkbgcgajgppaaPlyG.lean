/- FdsPlays: the calls' contracts said of the one view G. -/
import Derived.Test.YtfnkbgcgajgppaaPlyE
set_option linter.unusedVariables false
set_option linter.unusedSimpArgs false
namespace Go.Proofs.Ytfnkbgcgajgppaa
open Go.RowKit
open Go.Maps (Keyed)

def opOf (x : Option (OpenL × Nat)) : OpenL := match x with | none => openN | some x => x.1
section
variable {w w' : World} {g gm gM gW n : Nat} {a : Option Addr} {G : Nat × Nat → Option (OpenL × Nat)} {us : Nat → Nat}
theorem lk_open (p : Nat × Nat) : lkV openV (openV openN) false (mapOf G p) = .agg (openA (opOf (G p))) := by
  unfold mapOf opOf
  cases G p <;> rfl
theorem zOpen : (Try.prog.info? 78).bind (·.zero) = some (openV openN) := by kernel_rfl
theorem tabOf_none {p : Nat × Nat} (h : G p = none) : tabOf G p = none := by simp [tabOf, h]
theorem tabOf_some {p : Nat × Nat} {x : OpenL × Nat} (h : G p = some x) : tabOf G p = some (openA x.1, x.2) := by simp [tabOf, h]
theorem fdsGet_any (h : TP w g gm a us (tabOf G)) (p : Nat × Nat) (h1 : p.1 ≤ 255) (h2 : p.2 ≤ 65535) :
    Calls Try.prog 50 #[.pointer (some ⟨g, 0, none⟩), markV p] w fun e w' => e = .returned (.tuple #[.agg (openA (opOf (G p))), .bool (G p).isSome]) ∧ Below w.heap.size w w' := by
  cases hG : G p with
  | none => exact fdsGet_no h (tabOf_ok G) p h1 h2 (tabOf_none hG)
  | some x => exact fdsGet_yes h (tabOf_ok G) p h1 h2 (openA x.1) x.2 (tabOf_some hG)
theorem fdsRefs_any (h : TP w g gm a us (tabOf G)) (p : Nat × Nat) (h1 : p.1 < 64) (h2 : p.2 ≤ 65535) (hr : refN (G p) < 1000000) :
    Calls Try.prog 51 #[.pointer (some ⟨g, 0, none⟩), markV p] w fun e w' => e = .returned (.int .i64 (refN (G p))) ∧ Below w.heap.size w w' := by
  cases hG : G p with
  | none => exact fdsRefs_no h (tabOf_ok G) p (by omega) h2 (tabOf_none hG)
  | some x => exact fdsRefs_yes h (tabOf_ok G) p h1 h2 (openA x.1) x.2 (tabOf_some hG) (by rw [hG] at hr; exact hr)
end
section
variable {n B : Nat} {G : Nat × Nat → Option (OpenL × Nat)} {L : Nat → List Nat} {us : Nat → Nat}
theorem PInv.okOp (h : PInv n B G L us) (p : Nat × Nat) : okOpen (opOf (G p)) := by
  cases hG : G p with
  | none => exact openN_ok
  | some x => exact (h.pos p x.1 x.2 hG).2.2
theorem PInv.refLe (h : PInv n B G L us) (p : Nat × Nat) : refN (G p) ≤ B := by
  cases hG : G p with
  | none => exact Nat.zero_le _
  | some x => exact (h.pos p x.1 x.2 hG).2.1
theorem PInv.isPos (h : PInv n B G L us) (p : Nat × Nat) : (G p).isSome = decide (0 < refN (G p)) := by
  cases hG : G p with
  | none => rfl
  | some x => have := (h.pos p x.1 x.2 hG).1; simp [refN, this]
end
end Go.Proofs.Ytfnkbgcgajgppaa
