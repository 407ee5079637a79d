/- Configurations: what is read of one. -/
import Derived.Test.YtmieioaklgdbdaaConC
set_option linter.unusedVariables false
set_option linter.unusedSimpArgs false
namespace Go.Proofs.Ytmieioaklgdbdaa
open Go.RowKit

theorem flat_get {α β : Type} (f : α → List β) (m : Nat) (hm : ∀ a, (f a).length = m) : ∀ (l : List α) (i : Nat) (hi : i < l.length) (j : Nat), j < m → (l.flatMap f)[i * m + j]? = (f l[i])[j]?
  | a :: l, 0, _, j, hj => by
    rw [List.flatMap_cons, Nat.zero_mul, Nat.zero_add, List.getElem?_append_left (by rw [hm]; exact hj)]
    rfl
  | a :: l, i + 1, hi, j, hj => by
    rw [List.flatMap_cons, Nat.add_mul, Nat.one_mul, List.getElem?_append_right (by rw [hm]; omega), hm, show i * m + m + j - m = i * m + j by omega]
    exact flat_get f m hm l i (by simpa using hi) j hj

/-- A row of registered labels: its cells. -/
theorem RS_cases {w : World} {v : Value} {rs : List RegL} (h : SR w v rs.length 9 (regCells rs)) (hn : 0 < rs.length) : ∃ g off cap, v = .slice (some ⟨g, off, none⟩) rs.length cap ∧ rs.length ≤ cap ∧ cap ≤ maxLen ∧ g < w.heap.size ∧
    ∀ i (hi : i < rs.length), w.cell? ⟨g, off + i * 9, none⟩ = some (.string rs[i].name) ∧ w.cell? ⟨g, off + i * 9 + 1, none⟩ = some (.int .u8 rs[i].lab.1) ∧ w.cell? ⟨g, off + i * 9 + 2, none⟩ = some (.int .u16 rs[i].lab.2) ∧
      w.cell? ⟨g, off + i * 9 + 3, none⟩ = some (.int .i64 rs[i].bl) ∧ w.cell? ⟨g, off + i * 9 + 4, none⟩ = some (.int .i64 rs[i].no) ∧ w.cell? ⟨g, off + i * 9 + 5, none⟩ = some (.int .i64 rs[i].fr) ∧
      w.cell? ⟨g, off + i * 9 + 6, none⟩ = some (.int .i64 rs[i].pr) ∧ w.cell? ⟨g, off + i * 9 + 7, none⟩ = some (.int .i64 rs[i].op) ∧ w.cell? ⟨g, off + i * 9 + 8, none⟩ = some (.int .i64 rs[i].cl) := by
  rcases h.cases with ⟨h1, _⟩ | ⟨_, g, off, cap, h1, h2, h3, h4, h5⟩
  · omega
  · refine ⟨g, off, cap, h1, h2, h3, h4, fun i hi => ?_⟩
    have key : ∀ j, j < 9 → w.cell? ⟨g, off + i * 9 + j, none⟩ = (regArr rs[i]).toList[j]? := fun j hj => by
      rw [Nat.add_assoc, h5 (i * 9 + j) (by omega)]
      exact flat_get (fun r => (regArr r).toList) 9 (fun _ => rfl) rs i hi j hj
    exact ⟨key 0 (by decide), key 1 (by decide), key 2 (by decide), key 3 (by decide), key 4 (by decide), key 5 (by decide), key 6 (by decide), key 7 (by decide), key 8 (by decide)⟩

def inB (i : Int) (n : Nat) : Bool := decide (0 ≤ i) && decide (i < n)
theorem inB_yes {i : Int} {n : Nat} (h : inB i n = true) : ∃ k : Nat, i = k ∧ k < n := by
  simp [inB] at h
  exact ⟨i.toNat, by omega, by omega⟩
theorem inB_nat {k n : Nat} (h : k < n) : inB (k : Int) n = true := by simp [inB]; omega

section
variable {w : World} {g gT gN gL : Nat} {v m u : Value} {rs : List RegL} {ms : List (Nat × Nat)}
def regZ : Value := .agg #[.string ⟨#[]⟩, .int .u8 0, .int .u16 0, .int .i64 0, .int .i64 0, .int .i64 0, .int .i64 0, .int .i64 0, .int .i64 0]
/-- The answer of Leq. -/
def leqI (rs : List RegL) (a b : Int) : Bool := inB a rs.length && inB b rs.length && leqL (rs.getD a.toNat ⟨ByteArray.empty, (0, 0), 0, 0, 0, 0, 0, 0⟩).lab (rs.getD b.toNat ⟨ByteArray.empty, (0, 0), 0, 0, 0, 0, 0, 0⟩).lab
theorem leqI_nat {i j : Nat} (hi : i < rs.length) (hj : j < rs.length) : leqI rs (i : Int) (j : Int) = leqL rs[i].lab rs[j].lab := by
  unfold leqI
  rw [inB_nat hi, inB_nat hj]
  simp [hi, hj]

end

end Go.Proofs.Ytmieioaklgdbdaa
