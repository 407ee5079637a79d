/- Contracts of package disk: Arm, Wake, Dead, Len, Counts, Read, Write. -/
import Derived.Test.YtonfnlohbgbffaaDiskB
set_option linter.unusedVariables false
set_option linter.unusedSimpArgs false
namespace Go.Proofs.Ytonfnlohbgbffaa
open Go.RowKit

section
variable {w : World} {g gb n : Nat} {C : Nat → Value} {left : Int} {dead : Bool} {writes reads : Int}
theorem DK.c0 (h : DK w g gb n C left dead writes reads) : w.cell? ⟨g, 0, none⟩ = some (.slice (some ⟨gb, 0, none⟩) n n) := h.row.cell (by omega)
theorem DK.c1 (h : DK w g gb n C left dead writes reads) : w.cell? ⟨g, 1, none⟩ = some (.int .i64 left) := h.row.cell (by omega)
theorem DK.c2 (h : DK w g gb n C left dead writes reads) : w.cell? ⟨g, 2, none⟩ = some (.bool dead) := h.row.cell (by omega)
theorem DK.c3 (h : DK w g gb n C left dead writes reads) : w.cell? ⟨g, 3, none⟩ = some (.int .i64 writes) := h.row.cell (by omega)
theorem DK.c4 (h : DK w g gb n C left dead writes reads) : w.cell? ⟨g, 4, none⟩ = some (.int .i64 reads) := h.row.cell (by omega)
end

/-- What a call on a disk may turn: its two blocks, and what it makes. -/
structure Two (w w' : World) (g gb : Nat) : Prop where
  os : w'.os = w.os
  tape : w'.tape = w.tape
  output : w'.output = w.output
  size : w.heap.size ≤ w'.heap.size
  block : ∀ k, k < w.heap.size → k ≠ g → k ≠ gb → w'.heap[k]? = w.heap[k]?
theorem Two.refl (w : World) (g gb : Nat) : Two w w g gb := ⟨rfl, rfl, rfl, Nat.le_refl _, fun _ _ _ _ => rfl⟩
theorem Two.set {w w1 : World} {g gb : Nat} (h : Two w w1 g gb) (i : Nat) (v : Value) : Two w (w1.setCell ⟨g, i, none⟩ v) g gb :=
  ⟨h.os, h.tape, h.output, by simpa using h.size, fun k hk hkg hkb => by rw [Below.heap_setCell _ _ _ _ (by exact hkg)]; exact h.block k hk hkg hkb⟩
theorem Two.set' {w w1 : World} {g gb : Nat} (h : Two w w1 g gb) (i : Nat) (v : Value) : Two w (w1.setCell ⟨gb, i, none⟩ v) g gb :=
  ⟨h.os, h.tape, h.output, by simpa using h.size, fun k hk hkg hkb => by rw [Below.heap_setCell _ _ _ _ (by exact hkb)]; exact h.block k hk hkg hkb⟩
theorem Two.setCells {w : World} {g gb : Nat} : ∀ (vs : List Value) (o : Nat) (w1 : World), Two w w1 g gb → Two w (w1.setCells gb o vs) g gb
  | [], _, _, h => h
  | v :: r, o, w1, h => Two.setCells r (o + 1) _ (h.set' o v)
theorem Two.drewN {w w1 : World} {g gb : Nat} (h : Two w w1 g gb) (k : Nat) : Two w (w1.drewN k) g gb := ⟨h.os, h.tape, h.output, h.size, h.block⟩
theorem Two.below {w w1 w2 : World} {g gb : Nat} (h : Two w w1 g gb) (hb : Below w1.heap.size w1 w2) : Two w w2 g gb :=
  ⟨hb.os.trans h.os, hb.tape.trans h.tape, hb.output.trans h.output, Nat.le_trans h.size hb.size, fun k hk hkg hkb => by rw [hb.block k (Nat.lt_of_lt_of_le hk h.size)]; exact h.block k hk hkg hkb⟩
theorem Two.trans {w w1 w2 : World} {g gb : Nat} (h : Two w w1 g gb) (h' : Two w1 w2 g gb) : Two w w2 g gb :=
  ⟨h'.os.trans h.os, h'.tape.trans h.tape, h'.output.trans h.output, Nat.le_trans h.size h'.size, fun k hk hkg hkb => by rw [h'.block k (Nat.lt_of_lt_of_le hk h.size) hkg hkb]; exact h.block k hk hkg hkb⟩
theorem Two.toBelow {w w' : World} {g gb B : Nat} (h : Two w w' g gb) (hg : B ≤ g) (hgb : B ≤ gb) (hB : B ≤ w.heap.size) : Below B w w' :=
  ⟨h.os, h.tape, h.output, h.size, fun k hk => h.block k (by omega) (by omega) (by omega)⟩

set_option maxHeartbeats 1000000 in
theorem diskArm_ok {w : World} {g gb n : Nat} {C : Nat → Value} {left : Int} {dead : Bool} {writes reads : Int} (h : DK w g gb n C left dead writes reads) (x : Int) :
    Calls Try.prog 57 #[.pointer (some ⟨g, 0, none⟩), .int .i64 x] w fun e w' => e = .returned (.tuple #[]) ∧ DK w' g gb n C (max x (-1)) dead writes reads ∧ Two w w' g gb := by
  have hD := h
  have c1 := h.c1
  have f1 := h.row.frozen
  go_enter Try.func57, Try.ntmps57
  go_wp2_with fail
  all_goals
    go_end0
    refine ⟨rfl, ?_, (Two.refl w g gb).set 1 _⟩
  · have e : max x (-1) = -1 := by omega
    rw [e]; exact hD.setLeft _
  · have e : max x (-1) = x := by omega
    rw [e]; exact hD.setLeft _

set_option maxHeartbeats 1000000 in
theorem diskWake_ok {w : World} {g gb n : Nat} {C : Nat → Value} {left : Int} {dead : Bool} {writes reads : Int} (h : DK w g gb n C left dead writes reads) :
    Calls Try.prog 58 #[.pointer (some ⟨g, 0, none⟩)] w fun e w' => e = .returned (.tuple #[]) ∧ DK w' g gb n C (-1) false writes reads ∧ Two w w' g gb := by
  have hD := h
  have c1 := h.c1
  have c2 := h.c2
  have f1 := h.row.frozen
  go_enter Try.func58, Try.ntmps58
  go_wp2_with fail
  go_end0
  exact ⟨rfl, (h.setDead false).setLeft (-1), ((Two.refl w g gb).set 2 _).set 1 _⟩

set_option maxHeartbeats 1000000 in
theorem diskDead_ok {w : World} {g gb n : Nat} {C : Nat → Value} {left : Int} {dead : Bool} {writes reads : Int} (h : DK w g gb n C left dead writes reads) :
    Calls Try.prog 63 #[.pointer (some ⟨g, 0, none⟩)] w fun e w' => e = .returned (.bool dead) ∧ w' = w := by
  have c2 := h.c2
  go_enter Try.func63, Try.ntmps63
  go_wp2_with fail
  go_ret
  exact ⟨rfl, rfl⟩

set_option maxHeartbeats 1000000 in
theorem diskLen_ok {w : World} {g gb n : Nat} {C : Nat → Value} {left : Int} {dead : Bool} {writes reads : Int} (h : DK w g gb n C left dead writes reads) :
    Calls Try.prog 72 #[.pointer (some ⟨g, 0, none⟩)] w fun e w' => e = .returned (.int .i64 n) ∧ w' = w := by
  have c0 := h.c0
  go_enter Try.func72, Try.ntmps72
  go_wp2_with fail
  go_ret
  exact ⟨rfl, rfl⟩

set_option maxHeartbeats 1000000 in
theorem diskCounts_ok {w : World} {g gb n : Nat} {C : Nat → Value} {left : Int} {dead : Bool} {writes reads : Int} (h : DK w g gb n C left dead writes reads) :
    Calls Try.prog 78 #[.pointer (some ⟨g, 0, none⟩)] w fun e w' => e = .returned (.tuple #[.int .i64 reads, .int .i64 writes]) ∧ ∃ k, w' = w.drewN k := by
  have c3 := h.c3
  have c4 := h.c4
  go_enter Try.func78, Try.ntmps78
  go_wp2_with fail
  go_quiet (fail)
  go_wp2_with fail
  go_ret2
  exact ⟨rfl, _, rfl⟩

theorem rowIs_other {b n g : Nat} {t : TypeId} {f : Nat → Value} (hne : b ≠ g) : ∀ (vs : List Value) (o : Nat) (w : World), w.rowIs b t n f → (w.setCells g o vs).rowIs b t n f
  | [], _, _, h => h
  | v :: r, o, w, h => rowIs_other hne r (o + 1) _ (h.setOther (by exact hne) v)

theorem isSome_of {α : Type} {o : Option α} {x : α} (h : o = some x) : o.isSome = true := by rw [h]; rfl

/-- The bytes of a disk behind a write. -/
def wrote (C : Nat → Value) (n : Nat) (D : Nat → Value) (j : Nat) : Value := if n * 64 ≤ j ∧ j < n * 64 + 64 then D (j - n * 64) else C j

theorem DK.write {w : World} {g gb n : Nat} {C : Nat → Value} {left : Int} {dead : Bool} {writes reads : Int} (h : DK w g gb n C left dead writes reads) (k : Nat) (hk : k < n) (D : Nat → Value) (hD : ∀ k, k < 64 → ∃ z : Int, D k = .int .u8 z ∧ 0 ≤ z ∧ z ≤ 255) :
    DK (w.setCells gb (k * 64) (rowArr 64 D).toList) g gb n (wrote C k D) left dead writes reads := by
  have hb := rowIs_piece (m := 64) (off := k * 64) (h := D) h.blk
  refine ⟨?_, hb, h.ne, fun j hj => ?_⟩
  · exact rowIs_other h.ne _ _ _ h.row
  · unfold wrote
    split
    · exact hD _ (by omega)
    · exact h.one j hj
end Go.Proofs.Ytonfnlohbgbffaa
