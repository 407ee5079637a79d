/- FdsPlays: the blocks of a round as one thing: the table, the row of lists, the map. -/
import Derived.Test.YtfnkbgcgajgppaaPlyD
set_option linter.unusedVariables false
set_option linter.unusedSimpArgs false
namespace Go.Proofs.Ytfnkbgcgajgppaa
open Go.RowKit
open Go.Maps (Keyed)

def openV (o : OpenL) : Value := .agg (openA o)
/-- The table (g, gm), the lists (gM and their own blocks), the map gW: all newer than w0. -/
structure PW (w0 w : World) (g gm gM gW : Nat) (a : Option Addr) (n : Nat) (F : Nat × Nat → Option (Array Value × Nat)) (M : Nat × Nat → Option OpenL) (V : Nat → Value) (L : Nat → List Nat) (us : Nat → Nat) : Prop where
  bl : Below w0.heap.size w0 w
  tp : TP w g gm a us F
  ms : MS w gM n w0.heap.size V L
  mp : MK w Try.prog 69 gW markV openV M
  g0 : w0.heap.size ≤ g
  gm0 : w0.heap.size ≤ gm
  gM0 : w0.heap.size ≤ gM
  gW0 : w0.heap.size ≤ gW
  nw : gm ≠ gW
section
variable {w0 w w' : World} {g gm gM gW n : Nat} {a : Option Addr} {F F' : Nat × Nat → Option (Array Value × Nat)} {M M' : Nat × Nat → Option OpenL} {V V' : Nat → Value} {L L' : Nat → List Nat} {us us' : Nat → Nat}
theorem PW.keep (h : PW w0 w g gm gM gW a n F M V L us) (hb : Below w.heap.size w w') : PW w0 w' g gm gM gW a n F M V L us :=
  ⟨bnext h.bl hb, h.tp.keep hb, h.ms.keep hb, h.mp.keep hb, h.g0, h.gm0, h.gM0, h.gW0, h.nw⟩
theorem PW.gM_ne (h : PW w0 w g gm gM gW a n F M V L us) : gM ≠ g ∧ gM ≠ gm ∧ gM ≠ gW := by
  obtain ⟨c, hb, _⟩ := h.ms.row
  have h1 := h.tp.ne_cells hb (by decide)
  exact ⟨h1.1, h1.2, fun e => by subst e; exact h.mp.notCells hb⟩
theorem PW.gW_ne (h : PW w0 w g gm gM gW a n F M V L us) : gW ≠ g := fun e => by
  subst e
  obtain ⟨c, hb, _⟩ := h.tp.row
  exact h.mp.notCells hb
/-- A list's own block is none of the others. -/
theorem PW.own_ne (h : PW w0 w g gm gM gW a n F M V L us) {l k : Nat} (hl : l < n) (e : (V l).ownBlock = some k) : k ≠ g ∧ k ≠ gm ∧ k ≠ gM ∧ k ≠ gW ∧ w0.heap.size ≤ k := by
  obtain ⟨hk, cur, hb⟩ := own_blk (h.ms.own l hl) e
  have h1 := h.tp.ne_cells hb (by decide)
  refine ⟨h1.1, h1.2, fun e => ?_, fun e => by subst e; exact h.mp.notCells hb, hk⟩
  subst e
  obtain ⟨c, h2, _⟩ := h.ms.row
  rw [hb] at h2
  simp at h2
/-- The lists stay where only blocks outside them turn. -/
theorem MS.keepAt {w w' : World} {gM n base : Nat} {V : Nat → Value} {L : Nat → List Nat} (h : MS w gM n base V L) (hM : w'.heap[gM]? = w.heap[gM]?) (ho : ∀ l, l < n → ∀ k, (V l).ownBlock = some k → w'.heap[k]? = w.heap[k]?) : MS w' gM n base V L :=
  ⟨h.row.of_block hM, fun l hl => own_keep (h.own l hl) (ho l hl), h.apart, h.bd⟩
/-- The table turns. -/
theorem PW.duo (h : PW w0 w g gm gM gW a n F M V L us) (d : Duo w w' g gm) (ht : TP w' g gm a us' F') : PW w0 w' g gm gM gW a n F' M V L us' where
  bl := Duo.go h.bl d h.g0 h.gm0 h.bl.size
  tp := ht
  ms := h.ms.keepAt (d.block gM h.ms.row.lt h.gM_ne.1 h.gM_ne.2.1) fun l hl k e => d.block k (by obtain ⟨_, cur, hb⟩ := own_blk (h.ms.own l hl) e; exact rowlt hb) (h.own_ne hl e).1 (h.own_ne hl e).2.1
  mp := h.mp.keepAt (d.block gW h.mp.lt h.gW_ne (Ne.symm h.nw))
  g0 := h.g0
  gm0 := h.gm0
  gM0 := h.gM0
  gW0 := h.gW0
  nw := h.nw
/-- The lists turn. -/
theorem PW.foot (h : PW w0 w g gm gM gW a n F M V L us) {l : Nat} (hl : l < n) (d : Foot w w' gM (V l).ownBlock) (ht : MS w' gM n w0.heap.size V' L') : PW w0 w' g gm gM gW a n F M V' L' us where
  bl := h.bl.trans (d.below h.gM0 (fun k e => (h.own_ne hl e).2.2.2.2) h.bl.size)
  tp := ⟨h.tp.row.of_block (d.block g h.tp.row.lt (Ne.symm h.gM_ne.1) (fun e => (h.own_ne hl e).1 rfl)), h.tp.mp.keepAt (d.block gm h.tp.mp.lt (Ne.symm h.gM_ne.2.1) (fun e => (h.own_ne hl e).2.1 rfl))⟩
  ms := ht
  mp := h.mp.keepAt (d.block gW h.mp.lt (Ne.symm h.gM_ne.2.2) (fun e => (h.own_ne hl e).2.2.2.1 rfl))
  g0 := h.g0
  gm0 := h.gm0
  gM0 := h.gM0
  gW0 := h.gW0
  nw := h.nw
/-- The map turns. -/
theorem PW.map (h : PW w0 w g gm gM gW a n F M V L us) (o : One w w' (some gW)) (ht : MK w' Try.prog 69 gW markV openV M') : PW w0 w' g gm gM gW a n F M' V L us where
  bl := bone h.bl o h.gW0 h.bl.size
  tp := h.tp.one o h.gW_ne (Ne.symm h.nw)
  ms := h.ms.keepAt (o.block gM h.ms.row.lt (fun e => h.gM_ne.2.2 (by cases e; rfl))) fun l hl k e => o.block k (by obtain ⟨_, cur, hb⟩ := own_blk (h.ms.own l hl) e; exact rowlt hb) (fun e2 => (h.own_ne hl e).2.2.2.1 (by cases e2; rfl))
  mp := ht
  g0 := h.g0
  gm0 := h.gm0
  gM0 := h.gM0
  gW0 := h.gW0
  nw := h.nw
end
end Go.Proofs.Ytfnkbgcgajgppaa
