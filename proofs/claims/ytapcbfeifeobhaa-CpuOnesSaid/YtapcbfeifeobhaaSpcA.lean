/- Memory of a process: a space: its blocks; Grow (upwards). -/
import Derived.Test.YtapcbfeifeobhaaFrmD
import Derived.Test.YtapcbfeifeobhaaChg
set_option linter.unusedVariables false
set_option linter.unusedSimpArgs false
namespace Go.Proofs.Ytapcbfeifeobhaa
open Go.RowKit

def spF (g lab : Nat) (v : Value) : Nat → Value
  | 0 => .pointer (some ⟨g, 0, none⟩)
  | 1 => .int .i64 lab
  | _ => v
/-- A space at block gs, over the pool at g; its pages. -/
structure SpV (w : World) (base gs g lab : Nat) (ps : List (Nat × Nat)) (v : Value) : Prop where
  row : w.rowIs gs 86 3 (spF g lab v)
  ov : w.ownsRow base 110 2 v ps.length (markCells ps)
  bs : base ≤ gs
section
variable {w w' w0 : World} {base gs g gm lab : Nat} {ps : List (Nat × Nat)} {v : Value} {a : Option Addr} {us : Nat → Nat} {F : Nat × Nat → Option (Nat → Nat)} {rs : List RegL}
theorem SpV.keep (h : SpV w base gs g lab ps v) (hb : Below w.heap.size w w') : SpV w' base gs g lab ps v :=
  ⟨h.row.of_block (hb.block gs h.row.lt), own_below h.ov hb, h.bs⟩
theorem SpV.chg {S : Nat → Prop} (h : SpV w base gs g lab ps v) (c : Chg S w w') (h1 : ¬ S gs) (h2 : ∀ x, v.ownBlock = some x → ¬ S x) : SpV w' base gs g lab ps v :=
  ⟨h.row.of_block (c.block gs h.row.lt h1), own_keep h.ov (fun x hx => c.block x (by obtain ⟨_, cur, hb⟩ := own_blk h.ov hx; exact rowlt hb) (h2 x hx)), h.bs⟩
theorem SpV.c0 (h : SpV w base gs g lab ps v) : w.cell? ⟨gs, 0, none⟩ = some (.pointer (some ⟨g, 0, none⟩)) := h.row.cell (i := 0) (by omega)
theorem SpV.c1 (h : SpV w base gs g lab ps v) : w.cell? ⟨gs, 1, none⟩ = some (.int .i64 lab) := h.row.cell (i := 1) (by omega)
theorem SpV.c2 (h : SpV w base gs g lab ps v) : w.cell? ⟨gs, 2, none⟩ = some v := h.row.cell (i := 2) (by omega)
theorem SpV.ne (h : SpV w base gs g lab ps v) (ht : FP w g gm a us F) : gs ≠ g ∧ gs ≠ gm := by
  obtain ⟨c, hb, _⟩ := h.row
  exact ht.ne_cells hb (by decide)
theorem SpV.own_ne (h : SpV w base gs g lab ps v) (ht : FP w g gm a us F) {x : Nat} (hx : v.ownBlock = some x) : x ≠ g ∧ x ≠ gm ∧ x ≠ gs ∧ base ≤ x := by
  obtain ⟨hk, cur, hb⟩ := own_blk h.ov hx
  have := ht.ne_cells hb (by decide)
  refine ⟨this.1, this.2, fun e => ?_, hk⟩
  subst e
  obtain ⟨c, h2, _⟩ := h.row
  rw [hb] at h2
  simp at h2
theorem pt_chg {S : Nat → Prop} (h : FP w g gm a us F) (c : Chg S w w') (h1 : ¬ S g) (h2 : ¬ S gm) : FP w' g gm a us F :=
  ⟨h.row.of_block (c.block g h.row.lt h1), h.mp.keepAt (c.block gm h.mp.lt h2)⟩
/-- A row as an array. -/
theorem row_arr {w : World} {g n : Nat} {t : TypeId} {f : Nat → Value} (h : w.rowIs g t n f) : w.heap[g]? = some (.cells (rowArr n f) t (0, 0)) := by
  obtain ⟨cur, h1, h2, h3⟩ := h
  have : cur = rowArr n f := by
    apply Array.ext_getElem?
    intro i
    by_cases hi : i < n
    · rw [h3 i hi]; simp [rowArr, hi]
    · rw [Array.getElem?_eq_none (by omega), Array.getElem?_eq_none (by rw [rowArr_size]; omega)]
  rw [← this]; exact h1
/-- The pages' cells. -/
theorem page_cells {w : World} {v : Value} {ps : List (Nat × Nat)} (h : SR w v ps.length 2 (markCells ps)) (hn : 0 < ps.length) : ∃ g off cap, v = .slice (some ⟨g, off, none⟩) ps.length cap ∧ ps.length ≤ cap ∧ cap ≤ maxLen ∧ g < w.heap.size ∧
    ∀ i (hi : i < ps.length), w.cell? ⟨g, off + i * 2, none⟩ = some (.int .u8 ps[i].1) ∧ w.cell? ⟨g, off + i * 2 + 1, none⟩ = some (.int .u16 ps[i].2) := by
  rcases h.cases with ⟨h1, _⟩ | ⟨_, g, off, cap, h1, h2, h3, h4, h5⟩
  · omega
  · refine ⟨g, off, cap, h1, h2, h3, h4, fun i hi => ?_⟩
    have key : ∀ j, j < 2 → w.cell? ⟨g, off + i * 2 + j, none⟩ = (labCells ps[i])[j]? := fun j hj => by
      rw [Nat.add_assoc, h5 (i * 2 + j) (by omega)]
      exact flat_get labCells 2 (fun _ => rfl) ps i hi j hj
    exact ⟨key 0 (by decide), key 1 (by decide)⟩
theorem markCells_snoc (ps : List (Nat × Nat)) (p : Nat × Nat) : markCells (ps ++ [p]) = markCells ps ++ [.int .u8 p.1, .int .u16 p.2] := by simp [markCells, labCells]

/-- Of each label the taken pages are the first ones. -/
def Cont (us : Nat → Nat) (F : Nat × Nat → Option (Nat → Nat)) : Prop := ∀ l n, F (l, n) = none ↔ us l ≤ n
theorem Cont.nil : Cont (fun _ => 0) (fun _ => none) := fun l n => by simp
theorem Cont.put (h : Cont us F) (l : Nat) (f : Nat → Nat) : Cont (setN us l (us l + 1)) (putF F (l, us l) f) := fun m n => by
  unfold setN putF
  by_cases e : m = l
  · subst e
    by_cases e2 : n = us m
    · subst e2; simp
    · simp only [Prod.mk.injEq, e2, and_false, if_false, if_true]
      rw [h m n]; omega
  · simp only [Prod.mk.injEq, e, false_and, if_false]
    exact h m n
/-- m pages of noughts more. -/
def moreF (F : Nat × Nat → Option (Nat → Nat)) (l u : Nat) : Nat → Nat × Nat → Option (Nat → Nat)
  | 0 => F
  | m + 1 => putF (moreF F l u m) (l, u + m) fun _ => 0
theorem Cont.more (h : Cont us F) (l m : Nat) : Cont (setN us l (us l + m)) (moreF F l (us l) m) := by
  induction m with
  | zero =>
    have : setN us l (us l + 0) = us := by funext j; unfold setN; split <;> simp_all
    rw [this]; exact h
  | succ m ih =>
    have := ih.put l fun _ => 0
    rw [setN_same] at this
    have e : setN (setN us l (us l + m)) l (us l + m + 1) = setN us l (us l + (m + 1)) := by funext j; unfold setN; split <;> rfl
    rw [e] at this
    exact this
def morePs (l u m : Nat) : List (Nat × Nat) := (List.range m).map fun j => (l, u + j)
theorem morePs_next (l u m : Nat) : morePs l u (m + 1) = morePs l u m ++ [(l, u + m)] := by simp [morePs, List.range_succ]
theorem morePs_len (l u m : Nat) : (morePs l u m).length = m := by simp [morePs]
end
end Go.Proofs.Ytapcbfeifeobhaa
