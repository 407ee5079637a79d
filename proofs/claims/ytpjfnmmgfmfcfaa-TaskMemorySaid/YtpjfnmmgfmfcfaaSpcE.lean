/- Memory of a process: size, what lies in it, a byte read, a byte set. -/
import Derived.Test.YtpjfnmmgfmfcfaaSpcD
set_option linter.unusedVariables false
set_option linter.unusedSimpArgs false
namespace Go.Proofs.Ytpjfnmmgfmfcfaa
open Go.RowKit

/-- The pages are there, each once. -/
structure SpOk (F : Nat × Nat → Option (Nat → Nat)) (ps : List (Nat × Nat)) : Prop where
  p1 : ∀ p ∈ ps, p.1 ≤ 255 ∧ p.2 ≤ 65535
  is : ∀ p ∈ ps, (F p).isSome = true
  nd : ps.Nodup
  len : ps.length ≤ 32
/-- A space's bytes. -/
def spMem (F : Nat × Nat → Option (Nat → Nat)) (ps : List (Nat × Nat)) (i : Nat) : Nat := ((F (ps.getD (i / 64) (0, 0))).getD fun _ => 0) (i % 64)
section
variable {w w' w0 : World} {base gs g gm lab : Nat} {ps : List (Nat × Nat)} {v : Value} {a : Option Addr} {us : Nat → Nat} {F : Nat × Nat → Option (Nat → Nat)} {rs : List RegL}
/-- Do so many bytes from there lie in it? -/
def insideB (n at_ : Nat) (many : Int) : Bool := decide (0 ≤ many) && decide ((at_ : Int) + many ≤ 64 * n)
/-- A page's number: the two cells of it, where it lies. -/
theorem SpV.page (hs : SpV w base gs g lab ps v) (ok : SpOk F ps) {i : Nat} (hi : i < 64 * ps.length) :
    ∃ q off c, v = .slice (some ⟨q, off, none⟩) ps.length c ∧ w.cell? ⟨q, off + i / 64 * 2, none⟩ = some (.int .u8 (ps.getD (i / 64) (0, 0)).1) ∧ w.cell? ⟨q, off + i / 64 * 2 + 1, none⟩ = some (.int .u16 (ps.getD (i / 64) (0, 0)).2) := by
  obtain ⟨q, off, c, h1, _, _, _, h2⟩ := page_cells (SR.of_own hs.ov) (by omega)
  have hk : i / 64 < ps.length := by omega
  have := h2 (i / 64) hk
  refine ⟨q, off, c, h1, ?_, ?_⟩
  · rw [List.getD_eq_getElem?_getD, List.getElem?_eq_getElem hk]; exact this.1
  · rw [List.getD_eq_getElem?_getD, List.getElem?_eq_getElem hk]; exact this.2
theorem SpOk.at (ok : SpOk F ps) {k : Nat} (hk : k < ps.length) : (ps.getD k (0, 0)) ∈ ps := by
  rw [List.getD_eq_getElem?_getD, List.getElem?_eq_getElem hk]; exact List.getElem_mem hk
/-- A byte of the space turns: the pages' contents. -/
def spPut (F : Nat × Nat → Option (Nat → Nat)) (ps : List (Nat × Nat)) (i c : Nat) : Nat × Nat → Option (Nat → Nat) :=
  putF F (ps.getD (i / 64) (0, 0)) (setB ((F (ps.getD (i / 64) (0, 0))).getD fun _ => 0) (i % 64) c)
theorem SpOk.put (ok : SpOk F ps) (p : Nat × Nat) (f : Nat → Nat) : SpOk (putF F p f) ps :=
  ⟨ok.p1, fun q hq => by unfold putF; split; · rfl
                         · exact ok.is q hq, ok.nd, ok.len⟩
end
end Go.Proofs.Ytpjfnmmgfmfcfaa
