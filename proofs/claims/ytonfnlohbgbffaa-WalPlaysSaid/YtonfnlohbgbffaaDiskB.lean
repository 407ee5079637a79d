/- Contracts of package disk: the object, New, Arm, Wake, Dead, Len, Counts. -/
import Derived.Test.YtonfnlohbgbffaaDiskA
set_option linter.unusedVariables false
set_option linter.unusedSimpArgs false
namespace Go.Proofs.Ytonfnlohbgbffaa
open Go.RowKit

def diskCell (gb n : Nat) (left : Int) (dead : Bool) (writes reads : Int) (k : Nat) : Value :=
  if k = 0 then .slice (some ⟨gb, 0, none⟩) n n else if k = 1 then .int .i64 left else if k = 2 then .bool dead else if k = 3 then .int .i64 writes else .int .i64 reads

/-- A disk: its object at block g, its blocks' bytes at block gb. -/
structure DK (w : World) (g gb n : Nat) (C : Nat → Value) (left : Int) (dead : Bool) (writes reads : Int) : Prop where
  row : w.rowIs g 162 5 (diskCell gb n left dead writes reads)
  blk : w.rowIs gb 52 (n * 64) C
  ne : g ≠ gb
  one : ∀ k, k < n * 64 → ∃ z : Int, C k = .int .u8 z ∧ 0 ≤ z ∧ z ≤ 255

theorem made_noughts (w : World) (n : Nat) (t : TypeId) : (w.alloc (.cells (madeCells noughts (n * 64)) t)).rowIs w.heap.size t (n * 64) (fun _ => .int .u8 0) := by
  refine ⟨_, heap_alloc_last w _, size_madeCells _ _, fun i hi => ?_⟩
  have hs : noughts.size = 64 := rowArr_size _ _
  have hm : i % 64 < 64 := Nat.mod_lt _ (by omega)
  simp only [madeCells, Array.getElem?_map, Array.getElem?_range, hi, if_true, Option.map_some, hs]
  have : noughts[i % 64]! = .int .u8 0 := by
    rw [getElem!_pos noughts (i % 64) (by rw [hs]; exact hm)]
    simp [noughts, rowArr]
  rw [this]

theorem block_row : (Try.prog.info? 52).map (fun i => (i.zero, i.size, i.bytes)) = some (some (.agg noughts), 64, 64) := by kernel_rfl

set_option maxHeartbeats 1000000 in
theorem diskNew_bad (n : Int) (h : n < 0 ∨ 65536 < n) (w : World) : Calls Try.prog 43 #[.int .i64 n] w fun e w' => e = .returned (.tuple #[.pointer none, .int .i64 27]) ∧ w' = w := by
  by_cases h0 : n < 0
  · go_enter Try.func43, Try.ntmps43
    go_wp2
    go_ret2
    exact ⟨rfl, rfl⟩
  · go_enter Try.func43, Try.ntmps43
    go_wp2
    go_ret2
    exact ⟨rfl, rfl⟩

set_option maxHeartbeats 1000000 in
theorem diskNew_ok (n : Nat) (h : n ≤ 65536) (w : World) : Calls Try.prog 43 #[.int .i64 n] w fun e w' => e = .returned (.tuple #[.pointer (some ⟨w.heap.size + 1, 0, none⟩), .int .i64 0]) ∧
    DK w' (w.heap.size + 1) w.heap.size n (fun _ => .int .u8 0) (-1) false 0 0 ∧ Below w.heap.size w w' := by
  have hmk : ∀ w, (Instr.makeSlice 50 (.int .i64 (n : Int)) (.int .i64 (n : Int))).run Try.prog w = .ok (.slice (some ⟨w.heap.size, 0, none⟩) n n) (w.alloc (.cells (madeCells noughts (n * 64)) 52)) := fun w => by
    obtain ⟨i, hi, hz, hz1, hz2⟩ := info_parts block_row
    have := run_make (P := Try.prog) w 50 52 i (.agg noughts) Try.underlying50 hi hz .i64 .i64 n n (by omega) (Int.le_refl _) (by rw [hz2]; omega) (by omega)
    rw [hz1] at this
    simpa [Value.cells] using this
  have hmade := made_noughts w n 52
  have hb := bnew w (.cells (madeCells noughts (n * 64)) 52)
  have hs : (w.alloc (.cells (madeCells noughts (n * 64)) 52)).heap.size = w.heap.size + 1 := by simp
  go_enter Try.func43, Try.ntmps43
  go_wp2_with fail
  go_ret2
  refine ⟨rfl, ⟨?_, hmade.alloc _, by omega, fun k _ => ⟨0, rfl, by omega, by omega⟩⟩, bnewAfter hb _⟩
  refine ⟨_, by rw [← hs]; exact heap_alloc_last _ _, rfl, fun i hi => ?_⟩
  have h5 : i = 0 ∨ i = 1 ∨ i = 2 ∨ i = 3 ∨ i = 4 := by omega
  rcases h5 with rfl | rfl | rfl | rfl | rfl <;> rfl

section
variable {w w' : World} {g gb n : Nat} {C : Nat → Value} {left : Int} {dead : Bool} {writes reads : Int}

theorem DK.kept (h : DK w g gb n C left dead writes reads) (hb : Below w.heap.size w w') : DK w' g gb n C left dead writes reads :=
  ⟨h.row.of_block (hb.block g h.row.lt), h.blk.of_block (hb.block gb h.blk.lt), h.ne, h.one⟩
theorem DK.drewN (h : DK w g gb n C left dead writes reads) (k : Nat) : DK (w.drewN k) g gb n C left dead writes reads := ⟨h.row, h.blk, h.ne, h.one⟩

theorem DK.setLeft (h : DK w g gb n C left dead writes reads) (x : Int) : DK (w.setCell ⟨g, 1, none⟩ (.int .i64 x)) g gb n C x dead writes reads := by
  refine ⟨(h.row.set 1 _).congr (fun i hi => ?_), h.blk.setOther (by exact h.ne.symm) _, h.ne, h.one⟩
  have h5 : i = 0 ∨ i = 1 ∨ i = 2 ∨ i = 3 ∨ i = 4 := by omega
  rcases h5 with rfl | rfl | rfl | rfl | rfl <;> rfl
theorem DK.setDead (h : DK w g gb n C left dead writes reads) (x : Bool) : DK (w.setCell ⟨g, 2, none⟩ (.bool x)) g gb n C left x writes reads := by
  refine ⟨(h.row.set 2 _).congr (fun i hi => ?_), h.blk.setOther (by exact h.ne.symm) _, h.ne, h.one⟩
  have h5 : i = 0 ∨ i = 1 ∨ i = 2 ∨ i = 3 ∨ i = 4 := by omega
  rcases h5 with rfl | rfl | rfl | rfl | rfl <;> rfl
theorem DK.setWrites (h : DK w g gb n C left dead writes reads) (x : Int) : DK (w.setCell ⟨g, 3, none⟩ (.int .i64 x)) g gb n C left dead x reads := by
  refine ⟨(h.row.set 3 _).congr (fun i hi => ?_), h.blk.setOther (by exact h.ne.symm) _, h.ne, h.one⟩
  have h5 : i = 0 ∨ i = 1 ∨ i = 2 ∨ i = 3 ∨ i = 4 := by omega
  rcases h5 with rfl | rfl | rfl | rfl | rfl <;> rfl
theorem DK.setReads (h : DK w g gb n C left dead writes reads) (x : Int) : DK (w.setCell ⟨g, 4, none⟩ (.int .i64 x)) g gb n C left dead writes x := by
  refine ⟨(h.row.set 4 _).congr (fun i hi => ?_), h.blk.setOther (by exact h.ne.symm) _, h.ne, h.one⟩
  have h5 : i = 0 ∨ i = 1 ∨ i = 2 ∨ i = 3 ∨ i = 4 := by omega
  rcases h5 with rfl | rfl | rfl | rfl | rfl <;> rfl
end
end Go.Proofs.Ytonfnlohbgbffaa
