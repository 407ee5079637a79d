/- Whole arrays in a variable's block: made, loaded, stored, with the worlds left unnamed. -/
import Derived.Test.YtonfnlohbgbffaaDiskG
import Derived.Test.YtonfnlohbgbffaaRng
set_option linter.unusedVariables false
set_option linter.unusedSimpArgs false
namespace Go.Proofs.Ytonfnlohbgbffaa
open Go.RowKit

section
variable {P : Program} {ops : Array Oper} {Q : Exit → Act → World → Prop} {a : Act} {w : World} {rest : List Oper} {o : Oper} {T : TypeId} {n : Nat} {C Z : Nat → Value}
/-- A new variable of an array type. -/
theorem wpList_new_row (hg : o.guard = none) (T : TypeId) (ho : o.op = .alloc T) (d : Option Tmp) (hd : o.dst = d) (n : Nat) (Z : Nat → Value) (hz : ((P.info? T).bind (·.zero)) = some (.agg (rowArr n Z)))
    (h : ∀ w' G, w.heap.size ≤ G → w'.rowIs G T n Z → Below w.heap.size w w' → wpList P ops Q rest (a.put d (.pointer (some ⟨G, 0, none⟩))) w') : wpList P ops Q (o :: rest) a w :=
  wpList_allocTo hg T ho d hd _ hz (h _ _ (Nat.le_refl _) (rowIs_of_arr (heap_alloc_last w (.cells (rowArr n Z) T))) (bnew w _))
/-- A value of an array type is laid into a variable. -/
theorem wpList_box_row (hg : o.guard = none) (T : TypeId) (x : Operand) (ho : o.op = .box T x) (d : Option Tmp) (hd : o.dst = d) (n : Nat) (C : Nat → Value) (hx : a.eval x = .agg (rowArr n C))
    (h : ∀ w' G, w.heap.size ≤ G → w'.rowIs G T n C → Below w.heap.size w w' → wpList P ops Q rest (a.put d (.pointer (some ⟨G, 0, none⟩))) w') : wpList P ops Q (o :: rest) a w := by
  have h := h _ _ (Nat.le_refl _) (rowIs_of_arr (heap_alloc_last w (.cells (rowArr n C) T))) (bnew w _)
  subst hd
  refine wpList_plain hg fun K hK => ?_
  unfold Oper.wp execOp
  simp only [ho, hx, Instr.box, newVar, newRow, Sem.run_bind, Sem.run_pure, run_newObj, Result.andThen_ok, Value.cells]
  exact hK _ _ h
theorem piece_row {G : Nat} (hr : w.rowIs G T n C) : ∀ j v, (rowArr n C).toList[j]? = some v → w.cell? ⟨G, 0 + j, none⟩ = some v := fun j v hv => by
  obtain ⟨h1, rfl⟩ := rowArr_get _ _ _ _ hv
  rw [Nat.zero_add]; exact hr.cell h1
/-- It is read. -/
theorem wpList_row_load (hw : Region.wanted o (yielded ops a.tmps) = true) (T : TypeId) (x : Operand) (ho : o.op = .load T x) (d : Option Tmp) (hd : o.dst = d)
    (G n : Nat) (C : Nat → Value) (hx : a.eval x = .pointer (some ⟨G, 0, none⟩)) (hr : w.rowIs G T n C) (D : TypeDesc) (hu : P.underlying T = some D) (hD : (match D with | .struct _ | .array _ _ => true | _ => false) = true) (hi : (P.info? T).map (·.size) = some n)
    (h : wpList P ops Q rest (a.put d (.agg (rowArr n C))) w) : wpList P ops Q (o :: rest) a w :=
  wpList_load_by hw T x ho d hd G 0 hx (rowArr n C) D (piece_row hr) hu hD (by rw [rowArr_size]; exact hi) h
theorem one_setCells (w : World) (g : Nat) : ∀ (vs : List Value) (o : Nat), One w (w.setCells g o vs) (some g) := fun vs o => One.setCells vs o (One.refl w _)
/-- It is stored. -/
theorem wpList_row_store (hg : o.guard = none) (T : TypeId) (x y : Operand) (ho : o.op = .store T x y) (hd : o.dst = none)
    (G n : Nat) (C D : Nat → Value) (hx : a.eval x = .pointer (some ⟨G, 0, none⟩)) (hy : a.eval y = .agg (rowArr n D)) (hr : w.rowIs G T n C) (h1 : ∀ i, i < n → (D i).oneCell' = true) (hi : (P.info? T).map (·.size) = some n)
    (h : ∀ w', w'.rowIs G T n D → One w w' (some G) → wpList P ops Q rest a w') : wpList P ops Q (o :: rest) a w :=
  wpList_store_pieceTo hg T x y ho hd G 0 (rowArr n D) hx hy (by rw [rowArr_size]; exact hi) (fun j hj => by rw [rowArr_size] at hj; rw [Nat.zero_add, hr.cell hj]; rfl) (fun j _ => hr.frozen _)
    (fun v hv => by
      obtain ⟨i, hi⟩ := List.mem_iff_getElem?.1 hv
      obtain ⟨h2, rfl⟩ := rowArr_get _ _ _ _ hi
      exact h1 i h2)
    (fun w' hw' => h w' (by rw [hw']; exact (rowIs_piece (m := n) (off := 0) (h := D) hr).congr (fun i hi => by rw [if_pos (by omega)]; rfl)) (by rw [hw']; exact one_setCells w G _ 0))
/-- A result that lies in a variable. -/
theorem run_load_row {T : TypeId} {G : Nat} (hr : w.rowIs G T n C) (D : TypeDesc) (hu : P.underlying T = some D) (hD : (match D with | .struct _ | .array _ _ => true | _ => false) = true) (hi : (P.info? T).map (·.size) = some n) :
    (loadVar T ⟨G, 0, none⟩).run P w = .ok (.agg (rowArr n C)) w := run_loadVar_piece w T G 0 (rowArr n C) D (piece_row hr) hu hD (by rw [rowArr_size]; exact hi)
/-- In a region that draws its order: it is read. -/
theorem yi_row {S : World → Prop} (hw : Region.wanted o (yielded ops a.tmps) = true) (T : TypeId) (x : Operand) (ho : o.op = .load T x)
    (G n : Nat) (C : Nat → Value) (hx : a.eval x = .pointer (some ⟨G, 0, none⟩)) (hr : ∀ w, S w → w.rowIs G T n C) (D : TypeDesc) (hu : P.underlying T = some D) (hD : (match D with | .struct _ | .array _ _ => true | _ => false) = true) (hi : (P.info? T).map (·.size) = some n) :
    YieldsIf P ops S o (.agg (rowArr n C)) a := yi_piece hw T x ho G 0 hx (rowArr n C) D (fun w hS => piece_row (hr w hS)) hu hD (by rw [rowArr_size]; exact hi)
end

/-! ### One's own changes -/
theorem Chg.one {S : Nat → Prop} {w w1 w2 : World} {x : Nat} (a : Chg S w w1) (o : One w1 w2 (some x)) (h : S x ∨ w.heap.size ≤ x) : Chg S w w2 :=
  ⟨o.os.trans a.os, o.tape.trans a.tape, o.output.trans a.output, Nat.le_trans a.size o.size, fun k hk hS => (o.block k (Nat.lt_of_lt_of_le hk a.size) (fun e => by
    cases e
    rcases h with h | h
    · exact hS h
    · omega)).trans (a.block k hk hS)⟩
theorem Chg.next {S : Nat → Prop} {w w1 w2 : World} (a : Chg S w w1) (b : Below w1.heap.size w1 w2) : Chg S w w2 := a.trans (Chg.of_below S b) (fun k _ h => h)
theorem Chg.drewN {S : Nat → Prop} {w w1 : World} (a : Chg S w w1) (k : Nat) : Chg S w (w1.drewN k) := ⟨a.os, a.tape, a.output, a.size, a.block⟩
theorem Chg.row {S : Nat → Prop} {w w' : World} {b : Nat} {t : TypeId} {n : Nat} {f : Nat → Value} (a : Chg S w w') (h : w.rowIs b t n f) (hb : ¬ S b) : w'.rowIs b t n f := h.of_block (a.block b h.lt hb)
theorem rowIs_one {w w' : World} {b x : Nat} {t : TypeId} {n : Nat} {f : Nat → Value} (h : w.rowIs b t n f) (o : One w w' (some x)) (hne : b ≠ x) : w'.rowIs b t n f := h.of_block (o.block b h.lt (fun e => hne (by cases e; rfl)))
theorem rowIs_below {w w' : World} {b : Nat} {t : TypeId} {n : Nat} {f : Nat → Value} (h : w.rowIs b t n f) (o : Below w.heap.size w w') : w'.rowIs b t n f := h.of_block (o.block b h.lt)
theorem rowIs_ne {w : World} {b c : Nat} {t u : TypeId} {n m : Nat} {f g : Nat → Value} (h : w.rowIs b t n f) (h' : w.rowIs c u m g) (hne : t ≠ u) : b ≠ c := fun e => by
  subst e
  obtain ⟨x, hx, _⟩ := h
  obtain ⟨y, hy, _⟩ := h'
  rw [hx] at hy
  injection hy with hy
  injection hy with _ h2 _
  exact hne h2
end Go.Proofs.Ytonfnlohbgbffaa
