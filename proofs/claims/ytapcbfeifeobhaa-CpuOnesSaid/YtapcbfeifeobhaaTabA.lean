/- Tables of a configuration (frame.Pool, fds.Table): a pointer, a map, a row of counts; two blocks that may turn. -/
import Derived.Test.YtapcbfeifeobhaaConH
import Derived.StillTailTactics
set_option linter.unusedVariables false
set_option linter.unusedSimpArgs false
namespace Go.Proofs.Ytapcbfeifeobhaa
open Go.RowKit
open Go.Maps (Keyed)

/-- Duo blocks may turn; new ones come. -/
structure Duo (w w' : World) (g h : Nat) : Prop where
  os : w'.os = w.os
  tape : w'.tape = w.tape
  output : w'.output = w.output
  size : w.heap.size ≤ w'.heap.size
  block : ∀ k, k < w.heap.size → k ≠ g → k ≠ h → w'.heap[k]? = w.heap[k]?
theorem Duo.refl (w : World) (g h : Nat) : Duo w w g h := ⟨rfl, rfl, rfl, Nat.le_refl _, fun _ _ _ _ => rfl⟩
theorem Duo.trans {w w' w'' : World} {g h : Nat} (a : Duo w w' g h) (b : Duo w' w'' g h) : Duo w w'' g h :=
  ⟨b.os.trans a.os, b.tape.trans a.tape, b.output.trans a.output, Nat.le_trans a.size b.size, fun k hk h1 h2 => (b.block k (Nat.lt_of_lt_of_le hk a.size) h1 h2).trans (a.block k hk h1 h2)⟩
theorem Duo.of_below {w w' : World} {g h : Nat} (a : Below w.heap.size w w') : Duo w w' g h := ⟨a.os, a.tape, a.output, a.size, fun k hk _ _ => a.block k hk⟩
theorem Duo.of_one {w w' : World} {g h : Nat} (a : One w w' (some g)) : Duo w w' g h := ⟨a.os, a.tape, a.output, a.size, fun k hk h1 _ => a.block k hk (fun e => h1 (by cases e; rfl))⟩
theorem Duo.of_one' {w w' : World} {g h : Nat} (a : One w w' (some h)) : Duo w w' g h := ⟨a.os, a.tape, a.output, a.size, fun k hk _ h2 => a.block k hk (fun e => h2 (by cases e; rfl))⟩
theorem Duo.below {w w' : World} {g h B : Nat} (a : Duo w w' g h) (h1 : B ≤ g) (h2 : B ≤ h) (hB : B ≤ w.heap.size) : Below B w w' :=
  ⟨a.os, a.tape, a.output, a.size, fun k hk => a.block k (by omega) (by omega) (by omega)⟩
theorem Duo.later {w0 w w' : World} {g h : Nat} (hb : Below w0.heap.size w0 w) (a : Duo w w' g h) (h1 : w0.heap.size ≤ g) (h2 : w0.heap.size ≤ h) : Below w0.heap.size w0 w' := hb.trans (a.below h1 h2 hb.size)
theorem Duo.blk {w w' : World} {g h k : Nat} {x : Obj} (a : Duo w w' g h) (hx : w.heap[k]? = some x) (h1 : k ≠ g) (h2 : k ≠ h) : w'.heap[k]? = some x := by rw [a.block k (rowlt hx) h1 h2]; exact hx
/-- A new block (from B on) may have turned besides. -/
theorem Duo.of_one_new {w w1 w' : World} {g h x : Nat} (a : Duo w w1 g h) (o : One w1 w' (some x)) (hx : w.heap.size ≤ x) : Duo w w' g h :=
  ⟨o.os.trans a.os, o.tape.trans a.tape, o.output.trans a.output, Nat.le_trans a.size o.size, fun k hk h1 h2 => (o.block k (Nat.lt_of_lt_of_le hk a.size) (fun e => by cases e; omega)).trans (a.block k hk h1 h2)⟩

theorem bone {B : Nat} {a w w' : World} {x : Nat} (h : Below B a w) (o : One w w' (some x)) (hx : B ≤ x) (hB : B ≤ w.heap.size) : Below B a w' := h.trans (o.toBelow (fun k e => by cases e; exact hx) hB)

theorem Duo.go {B : Nat} {a w w' : World} {g h : Nat} (hb : Below B a w) (d : Duo w w' g h) (h1 : B ≤ g) (h2 : B ≤ h) (hB : B ≤ w.heap.size) : Below B a w' := hb.trans (d.below h1 h2 hB)
theorem Duo.next {a w w' : World} {g h : Nat} (hb : Below a.heap.size a w) (d : Duo w w' g h) (h1 : a.heap.size ≤ g) (h2 : a.heap.size ≤ h) : Below a.heap.size a w' := Duo.go hb d h1 h2 hb.size

/-- In a region whose first operations only read: the next one, its run known. -/
theorem still_by {P : Program} {ops : Array Oper} {w : World} {Q : Act → Prop} {a : Act} {o : Oper} {rest : List Oper} (hw : Region.wanted o (yielded ops a.tmps) = true) (v : Value) (d : Option Tmp) (hd : o.dst = d)
    (hr : (execOp a.eval o).run P w = .ok (.value v) w) (h : wpStill P ops w Q rest (a.put d v)) : wpStill P ops w Q (o :: rest) a := by
  subst hd
  refine wpStill_step fun K hK => ?_
  rw [if_pos hw]
  unfold Oper.still
  rw [hr]
  exact ⟨rfl, hK _ h⟩
theorem still_lookup {κ α : Type} [DecidableEq κ] {P : Program} {k t e : TypeId} {w : World} {g : Nat} {kv : κ → Value} {vv : α → Value} {F : κ → Option α} {ops : Array Oper} {Q : Act → Prop} {a : Act} {o : Oper} {rest : List Oper}
    (hw : Region.wanted o (yielded ops a.tmps) = true) (d : Option Tmp) (hd : o.dst = d) (h : MK w P k g kv vv F) (K : Keyed P k) (hi : ∀ a b, kv a = kv b → a = b) (ht : P.underlying t = some (.map k e)) {z : Value} (hz : (P.info? e).bind (·.zero) = some z)
    (m x : Operand) (c : Bool) (ho : o.op = .lookup t m x c) (hm : a.eval m = .map (some g)) (y : κ) (hx : a.eval x = kv y) {l : Lit} (hl : keyOf P k (kv y) = some l)
    (v : Value) (hv : lkV vv z c (F y) = v) (hk : wpStill P ops w Q rest (a.put d v)) : wpStill P ops w Q (o :: rest) a :=
  still_by hw v d hd (by rw [← hv]; exact h.exec_lookup K hi ht hz m x c ho hm y hx hl) hk
theorem load_piece {P : Program} {ρ : Operand → Value} {o : Oper} {w : World} (ty : TypeId) (x : Operand) (ho : o.op = .load ty x)
    (g off : Nat) (hx : ρ x = .pointer (some ⟨g, off, none⟩)) (cs : Array Value) (d : TypeDesc) (hc : ∀ j v, cs.toList[j]? = some v → w.cell? ⟨g, off + j, none⟩ = some v)
    (hu : P.underlying ty = some d) (hd : (match d with | .struct _ | .array _ _ => true | _ => false) = true) (hi : (P.info? ty).map (·.size) = some cs.size) : (execOp ρ o).run P w = .ok (.value (.agg cs)) w := by
  unfold execOp
  simp only [ho, hx, Instr.loadAt, Instr.sureAddr, Sem.run_bind, Sem.run_pure, Result.andThen_ok, run_loadVar_piece w ty g off cs d hc hu hd hi]

theorem exec_alloc {P : Program} {ρ : Operand → Value} {o : Oper} {w : World} (t : TypeId) (ho : o.op = .alloc t) (z : Value) (hz : ((P.info? t).bind (·.zero)) = some z) :
    (execOp ρ o).run P w = .ok (.value (.pointer (some ⟨w.heap.size, 0, none⟩))) (w.alloc (.cells z.cells t)) := by
  cases hi : P.info? t with
  | none => simp [hi] at hz
  | some i =>
    simp only [hi, Option.bind_some] at hz
    unfold execOp
    simp [ho, Instr.alloc, zeroValue, typeInfo, hi, hz, newVar, newRow]

theorem exec_build {P : Program} {ρ : Operand → Value} {o : Oper} {w : World} (t : TypeId) (parts : Array (Nat × Operand)) (ho : o.op = .build t parts)
    (cells : Array Value) (hf : P.built t (parts.map fun (i, x) => (i, ρ x)).toList = some cells) : (execOp ρ o).run P w = .ok (.value (.agg cells)) w := by
  unfold execOp; simp only [ho, Sem.run_bind, run_build w t _ cells hf, Result.andThen_ok]; rfl

/-- An element of an array value. -/
theorem run_index_arr {P : Program} {t e : TypeId} {m : Nat} (hu : P.underlying t = some (.array m e)) (he : P.cellsOf e = 1) (hagg : ∀ w, (isAgg e).run P w = .ok false w) (Y : Array Value) {p : Nat} {v : Value} (hv : Y[p]? = some v) (hp : p < m) (w : World) :
    (Instr.index t (.agg Y) (.int .i64 p)).run P w = .ok v w := by
  unfold Program.cellsOf at he
  cases hi : P.info? e with
  | none => rw [hi] at he; simp at he
  | some i =>
    rw [hi] at he
    have hs : i.size = 1 := by simpa using he
    simp [Instr.index, asIntOf, run_underlying hu, sizeOf, typeInfo, hi, hs, part, hagg, hp, hv]

/-- The cells of a table. -/
def tabF (a : Option Addr) (gm : Nat) (us : Nat → Nat) : Nat → Value
  | 0 => .pointer a
  | 1 => .map (some gm)
  | j + 2 => .int .i64 (us j)
def setN (us : Nat → Nat) (l : Nat) (n : Nat) : Nat → Nat := fun j => if j = l then n else us j
theorem setN_same (us : Nat → Nat) (l n : Nat) : setN us l n l = n := if_pos rfl
theorem setN_other (us : Nat → Nat) {l j : Nat} (n : Nat) (h : j ≠ l) : setN us l n j = us j := if_neg h

section
variable {α : Type} {T K : TypeId} {vv : α → Value} {w w' : World} {g gm : Nat} {a : Option Addr} {us : Nat → Nat} {F : Nat × Nat → Option α}
/-- A table at block g, its map at block gm. -/
structure PT (T K : TypeId) (vv : α → Value) (w : World) (g gm : Nat) (a : Option Addr) (us : Nat → Nat) (F : Nat × Nat → Option α) : Prop where
  row : w.rowIs g T 66 (tabF a gm us)
  mp : MK w Try.prog K gm markV vv F
theorem PT.keep (h : PT T K vv w g gm a us F) (hb : Below w.heap.size w w') : PT T K vv w' g gm a us F := ⟨h.row.of_block (hb.block g h.row.lt), h.mp.keep hb⟩
theorem PT.one (h : PT T K vv w g gm a us F) {x : Nat} (o : One w w' (some x)) (h1 : x ≠ g) (h2 : x ≠ gm) : PT T K vv w' g gm a us F :=
  ⟨h.row.of_block (o.block g h.row.lt (fun e => h1 (by cases e; rfl))), h.mp.one o (fun e => h2 (by cases e; rfl))⟩
theorem PT.apart (h : PT T K vv w g gm a us F) : g ≠ gm := fun e => by
  subst e
  obtain ⟨c, hb, _⟩ := h.row
  exact h.mp.notCells hb
theorem PT.ne_cells (h : PT T K vv w g gm a us F) {x : Nat} {cs : Array Value} {t : TypeId} {fr : Nat × Nat} (hx : w.heap[x]? = some (.cells cs t fr)) (ht : t ≠ T) : x ≠ g ∧ x ≠ gm := by
  refine ⟨fun e => ?_, fun e => ?_⟩
  · subst e
    obtain ⟨c, hb, _⟩ := h.row
    rw [hx] at hb
    simp at hb
    exact ht hb.2.1
  · subst e
    exact h.mp.notCells hx
theorem PT.setMap (h : PT T K vv w g gm a us F) (o : One w w' (some gm)) {G : Nat × Nat → Option α} (hm : MK w' Try.prog K gm markV vv G) : PT T K vv w' g gm a us G :=
  ⟨h.row.of_block (o.block g h.row.lt (fun e => h.apart (by cases e; rfl))), hm⟩
theorem PT.setUs (h : PT T K vv w g gm a us F) (l n : Nat) (hl : l < 64) : PT T K vv (w.setCell ⟨g, 2 + l, none⟩ (.int .i64 n)) g gm a (setN us l n) F := by
  have o := one_setCell w g (2 + l) (.int .i64 (n : Int))
  refine ⟨?_, h.mp.one o (fun e => h.apart (by cases e; rfl))⟩
  refine (h.row.set (2 + l) _).congr (fun j hj => ?_)
  rcases j with _ | _ | j
  · rw [if_neg (by omega)]; rfl
  · rw [if_neg (by omega)]; rfl
  · by_cases e : j = l
    · subst e
      rw [if_pos (by omega)]
      show _ = Value.int .i64 (setN us j n j)
      rw [setN_same]
    · rw [if_neg (by omega)]
      show _ = Value.int .i64 (setN us l n j)
      rw [setN_other _ _ e]
      rfl
theorem PT.c0 (h : PT T K vv w g gm a us F) : w.cell? ⟨g, 0, none⟩ = some (.pointer a) := h.row.cell (i := 0) (by omega)
theorem PT.c1 (h : PT T K vv w g gm a us F) : w.cell? ⟨g, 1, none⟩ = some (.map (some gm)) := h.row.cell (i := 1) (by omega)
theorem PT.cu (h : PT T K vv w g gm a us F) {l : Nat} (hl : l < 64) : w.cell? ⟨g, 2 + l, none⟩ = some (.int .i64 (us l)) := by
  have := h.row.cell (i := 2 + l) (by omega)
  rw [this, show 2 + l = l + 2 by omega]
  rfl
theorem PT.frz (h : PT T K vv w g gm a us F) (o : Nat) : w.frozen? ⟨g, o, none⟩ = false := h.row.frozen o
end

theorem sizeLe (s : SizeL) : (sizeRegs s).length ≤ 100 := by rw [sizeRegs_length]; have := manyOf_le s; omega
theorem sizeLe64 (s : SizeL) : (sizeRegs s).length ≤ 64 := by rw [sizeRegs_length]; have := manyOf_le s; omega
theorem sizeOk (s : SizeL) : ∀ r ∈ sizeRegs s, okL r.lab := fun r hr => (have h := (size_ok s).each r hr; have h1 := h.lev; have h2 := h.cats; ⟨by omega, by omega⟩)
theorem sizeFr (s : SizeL) (k : Nat) (h : k < (sizeRegs s).length) : (sizeRegs s)[k].fr = 4 + s.h (k * 5 + 2) % 40 := by rw [sizeRegs_get]; rfl
theorem sizeOp (s : SizeL) (k : Nat) (h : k < (sizeRegs s).length) : (sizeRegs s)[k].op = 2 + s.h (k * 5 + 4) % 14 := by rw [sizeRegs_get]; rfl

/-! ### Pages -/
def pageA (f : Nat → Nat) : Array Value := rowArr 64 fun i => .int .u8 (f i)
def pageV (f : Nat → Nat) : Value := .agg (pageA f)
theorem pageA_size (f : Nat → Nat) : (pageA f).size = 64 := rowArr_size _ _
theorem page_one (f : Nat → Nat) : ∀ v ∈ (pageA f).toList, v.oneCell' = true := by
  intro v hv
  obtain ⟨i, hi, rfl⟩ := List.getElem_of_mem hv
  have := rowArr_get 64 (fun i => .int .u8 (f i)) i (pageA f).toList[i] (List.getElem?_eq_getElem hi)
  rw [this.2]
  rfl
theorem keyedFrame : Keyed Try.prog 110 := Keyed.of_law (deep_law_laid laidOut (m := 2) (by omega) (of_decide_eq_true (by kernel_rfl)) (by kernel_rfl) (by kernel_rfl))
theorem key_frame (p : Nat × Nat) (h1 : p.1 ≤ 255) (h2 : p.2 ≤ 65535) : ∃ l, keyOf Try.prog 110 (markV p) = some l :=
  key_pair (by kernel_rfl) (by kernel_rfl) ⟨_, Try.underlying110, by kernel_rfl, by kernel_rfl⟩ p h1 h2
theorem pageZ : (Try.prog.info? 130).bind (·.zero) = some (pageV fun _ => 0) := by kernel_rfl
abbrev FP (w : World) (g gm : Nat) (a : Option Addr) (us : Nat → Nat) (F : Nat × Nat → Option (Nat → Nat)) : Prop := PT 134 110 pageV w g gm a us F
end Go.Proofs.Ytapcbfeifeobhaa
