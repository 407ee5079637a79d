/- Which blocks may turn, said by a predicate. -/
import Derived.Test.YtapcbfeifeobhaaTabA
set_option linter.unusedVariables false
set_option linter.unusedSimpArgs false
namespace Go.Proofs.Ytapcbfeifeobhaa
open Go.RowKit

/-- Of the blocks that were there only those that meet S may turn; new ones come. -/
structure Chg (S : Nat → Prop) (w w' : World) : Prop where
  os : w'.os = w.os
  tape : w'.tape = w.tape
  output : w'.output = w.output
  size : w.heap.size ≤ w'.heap.size
  block : ∀ k, k < w.heap.size → ¬ S k → w'.heap[k]? = w.heap[k]?
section
variable {S T : Nat → Prop} {w w1 w' : World}
theorem Chg.refl (S : Nat → Prop) (w : World) : Chg S w w := ⟨rfl, rfl, rfl, Nat.le_refl _, fun _ _ _ => rfl⟩
theorem Chg.of_below (S : Nat → Prop) (h : Below w.heap.size w w') : Chg S w w' := ⟨h.os, h.tape, h.output, h.size, fun k hk _ => h.block k hk⟩
theorem Chg.of_one {x : Nat} (h : One w w' (some x)) (hx : S x) : Chg S w w' := ⟨h.os, h.tape, h.output, h.size, fun k hk hS => h.block k hk (fun e => hS (by cases e; exact hx))⟩
theorem Chg.of_oneO {r : Option Nat} (h : One w w' r) (hx : ∀ x, r = some x → S x) : Chg S w w' := ⟨h.os, h.tape, h.output, h.size, fun k hk hS => h.block k hk (fun e => hS (hx k e))⟩
theorem Chg.of_duo {g h : Nat} (d : Duo w w' g h) (hg : S g) (hh : S h) : Chg S w w' := ⟨d.os, d.tape, d.output, d.size, fun k hk hS => d.block k hk (fun e => hS (e ▸ hg)) (fun e => hS (e ▸ hh))⟩
theorem Chg.trans (a : Chg S w w1) (b : Chg T w1 w') (h : ∀ k, k < w.heap.size → T k → S k) : Chg S w w' :=
  ⟨b.os.trans a.os, b.tape.trans a.tape, b.output.trans a.output, Nat.le_trans a.size b.size, fun k hk hS => (b.block k (Nat.lt_of_lt_of_le hk a.size) (fun ht => hS (h k hk ht))).trans (a.block k hk hS)⟩
theorem Chg.mono (a : Chg S w w') (h : ∀ k, k < w.heap.size → S k → T k) : Chg T w w' := ⟨a.os, a.tape, a.output, a.size, fun k hk hT => a.block k hk (fun hs => hT (h k hk hs))⟩
theorem Chg.blk {k : Nat} {x : Obj} (a : Chg S w w') (hx : w.heap[k]? = some x) (h : ¬ S k) : w'.heap[k]? = some x := by rw [a.block k (rowlt hx) h]; exact hx
theorem Chg.below {B : Nat} (a : Chg S w w') (h : ∀ k, S k → B ≤ k) (hB : B ≤ w.heap.size) : Below B w w' :=
  ⟨a.os, a.tape, a.output, a.size, fun k hk => a.block k (by omega) (fun hs => by have := h k hs; omega)⟩
theorem Chg.go {B : Nat} {w0 : World} (hb : Below B w0 w) (a : Chg S w w') (h : ∀ k, S k → B ≤ k) (hB : B ≤ w.heap.size) : Below B w0 w' := hb.trans (a.below h hB)
end
end Go.Proofs.Ytapcbfeifeobhaa
