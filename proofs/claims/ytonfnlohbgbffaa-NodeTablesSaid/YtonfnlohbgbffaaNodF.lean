/- Nodes: Decode. -/
import Derived.Test.YtonfnlohbgbffaaNodE
set_option linter.unusedVariables false
set_option linter.unusedSimpArgs false
namespace Go.Proofs.Ytonfnlohbgbffaa
open Go.RowKit

def zeroN : NodL := ⟨0, 0, 0, 0, 0, 0, 0, 0, 0, 0, 0, 0⟩
def decN (bf : Nat → Nat) : NodL := ⟨getB bf 0 1, getB bf 1 1, getB bf 2 2, getB bf 4 4, getB bf 8 2, getB bf 10 2, getB bf 12 2, getB bf 14 2, getB bf 16 2, getB bf 18 2, getB bf 20 2, getB bf 22 2⟩
def nodF (n : NodL) (i : Nat) : Value := (nodA n).getD i undef
theorem nodA_row (n : NodL) : nodA n = rowArr 12 (nodF n) := rfl
theorem nodA_one (n : NodL) : ∀ v ∈ (nodA n).toList, v.oneCell' = true := by
  intro v hv
  rw [nodA_row] at hv
  simp only [rowArr, List.mem_map, List.mem_range] at hv
  obtain ⟨i, hi, rfl⟩ := hv
  rcases i with _ | _ | _ | _ | _ | _ | _ | _ | _ | _ | _ | _ | i <;> first | rfl | omega
theorem node_zero : (Try.prog.info? 27).bind (·.zero) = some (.agg (nodA zeroN)) := by kernel_rfl
theorem node_size : (Try.prog.info? 27).map (·.size) = some 12 := by kernel_rfl
theorem decN_ok {bf : Nat → Nat} (hb : ∀ i, bf i ≤ 255) : (decN bf).ok := by
  have h1 := fun a => getB_lt hb a 1
  have h2 := fun a => getB_lt hb a 2
  have h4 := fun a => getB_lt hb a 4
  refine ⟨?_, ?_, ?_, ?_, ?_, ?_, ?_, ?_, ?_, ?_, ?_, ?_⟩
  · have := h1 0; simp only [decN]; omega
  · have := h1 1; simp only [decN]; omega
  · have := h2 2; simp only [decN]; omega
  · have := h4 4; simp only [decN]; omega
  · have := h2 8; simp only [decN]; omega
  · have := h2 10; simp only [decN]; omega
  · have := h2 12; simp only [decN]; omega
  · have := h2 14; simp only [decN]; omega
  · have := h2 16; simp only [decN]; omega
  · have := h2 18; simp only [decN]; omega
  · have := h2 20; simp only [decN]; omega
  · have := h2 22; simp only [decN]; omega
def partF (bf : Nat → Nat) (j i : Nat) : Value := if i < 4 + j then nodF (decN bf) i else nodF zeroN i
theorem partF_next (bf : Nat → Nat) (j i : Nat) : (if i = 4 + j then nodF (decN bf) (4 + j) else partF bf j i) = partF bf (j + 1) i := by
  unfold partF
  by_cases h : i = 4 + j
  · subst h; rw [if_pos rfl, if_pos (by omega)]
  · rw [if_neg h]
    by_cases h2 : i < 4 + j
    · rw [if_pos h2, if_pos (by omega)]
    · rw [if_neg h2, if_neg (by omega)]
theorem nodF_dir (bf : Nat → Nat) (j : Nat) (hj : j < 8) : nodF (decN bf) (4 + j) = .int .u16 (getB bf (8 + 2 * j) 2) := by
  rcases j with _ | _ | _ | _ | _ | _ | _ | _ | j <;> first | rfl | omega
theorem nodF_zero (j : Nat) (hj : j < 8) : nodF zeroN (4 + j) = .int .u16 0 := by
  rcases j with _ | _ | _ | _ | _ | _ | _ | _ | j <;> first | rfl | omega
/-- While bytes are read as a node. -/
structure DecW (w0 w : World) (B R F N : Nat) (bf : Nat → Nat) (at_ j : Nat) : Prop where
  b : w.rowIs B 28 32 (byteF bf)
  r : w.rowIs R 27 12 (nodF zeroN)
  f : FL w F bf at_
  n : w.rowIs N 27 12 (partF bf j)
  bl : Below w0.heap.size w0 w
  hR : w0.heap.size ≤ R
  hF : w0.heap.size ≤ F
  hN : w0.heap.size ≤ N
  bF : B ≠ F
  rF : R ≠ F
  nF : N ≠ F
  bN : B ≠ N
  rN : R ≠ N
section
variable {w0 w w' : World} {B R F N : Nat} {bf : Nat → Nat} {at_ j a' : Nat}
theorem DecW.get (h : DecW w0 w B R F N bf at_ j) (o : One w w' (some F)) (f : FL w' F bf a') : DecW w0 w' B R F N bf a' j :=
  ⟨h.b.of_block (o.block B h.b.lt (fun e => h.bF (by injection e with e; exact e.symm))), h.r.of_block (o.block R h.r.lt (fun e => h.rF (by injection e with e; exact e.symm))), f,
    h.n.of_block (o.block N h.n.lt (fun e => h.nF (by injection e with e; exact e.symm))), bone h.bl o h.hF h.bl.size, h.hR, h.hF, h.hN, h.bF, h.rF, h.nF, h.bN, h.rN⟩
theorem DecW.set (h : DecW w0 w B R F N bf at_ j) (o : One w w' (some N)) (n : w'.rowIs N 27 12 (partF bf a')) : DecW w0 w' B R F N bf at_ a' :=
  ⟨h.b.of_block (o.block B h.b.lt (fun e => h.bN (by injection e with e; exact e.symm))), h.r.of_block (o.block R h.r.lt (fun e => h.rN (by injection e with e; exact e.symm))), h.f.of_block (o.block F h.f.lt (fun e => h.nF (by injection e with e))), n,
    bone h.bl o h.hN h.bl.size, h.hR, h.hF, h.hN, h.bF, h.rF, h.nF, h.bN, h.rN⟩
theorem DecW.ret (h : DecW w0 w B R F N bf at_ j) (x : NodL) : Below w0.heap.size w0 (w.setCells R 0 (nodA x).toList) ∧ (loadVar 27 ⟨R, 0, none⟩).run Try.prog (w.setCells R 0 (nodA x).toList) = .ok (.agg (nodA x)) (w.setCells R 0 (nodA x).toList) := by
  refine ⟨below_setCells h.hR _ _ _ h.bl, ?_⟩
  rw [nodA_row]
  have hrS := (rowIs_piece (m := 12) (off := 0) (h := nodF x) h.r).congr (g := nodF x) (fun i hi => by rw [if_pos (by omega)]; rfl)
  exact run_loadVar_piece _ 27 R 0 (rowArr 12 (nodF x)) _ (fun j v h => by
    obtain ⟨h1, rfl⟩ := rowArr_get _ _ _ _ h
    rw [Nat.zero_add]; exact hrS.cell h1) Try.underlying27 rfl (by rw [rowArr_size]; exact node_size)
theorem DecW.some (h : DecW w0 w B R F N bf at_ j) (x : NodL) : ∀ q, q < (nodA x).size → (w.cell? ⟨R, 0 + q, none⟩).isSome = true := fun q hq => by
  rw [Nat.zero_add, h.r.cell (i := q) hq]; rfl
theorem DecW.piece (h : DecW w0 w B R F N bf at_ 8) : ∀ q v, (nodA (decN bf)).toList[q]? = Option.some v → w.cell? ⟨N, 0 + q, none⟩ = Option.some v := fun q v hv => by
  rw [nodA_row] at hv
  obtain ⟨h1, rfl⟩ := rowArr_get _ _ _ _ hv
  rw [Nat.zero_add, h.n.cell h1]
  unfold partF
  rw [if_pos (by omega)]
end
end Go.Proofs.Ytonfnlohbgbffaa
