/- Sizes: the labels and marks of one (Size.Regs). -/
import Derived.Test.YtmieioaklgdbdaaConF
import Derived.Test.YtmieioaklgdbdaaGenF
import Derived.Deep.DeepCutAuto
set_option linter.unusedVariables false
set_option linter.unusedSimpArgs false
namespace Go.Proofs.Ytmieioaklgdbdaa
open Go.RowKit

theorem own_lower {w : World} {base base' : Nat} {e : TypeId} {size : Nat} {v : Value} {n : Nat} {xs : List Value} (h : w.ownsRow base e size v n xs) (hb : base' ≤ base) : w.ownsRow base' e size v n xs := by
  refine ⟨h.1, ?_⟩
  rcases h.2 with h1 | ⟨g0, c0, cur, hv, hb0, hrest⟩
  · exact .inl h1
  · exact .inr ⟨g0, c0, cur, hv, Nat.le_trans hb hb0, hrest⟩

/-- A size as a value. -/
def SizeV (w : World) (v : Value) (s : SizeL) : Prop :=
  ∃ X tv, v = .agg X ∧ X.size = 27 ∧ X[0]? = some (.int .u8 s.many) ∧ (∀ i, i < 25 → X[1 + i]? = some (.int .u8 (s.h i))) ∧ X[26]? = some tv ∧ SI w .u8 tv (s.trust.map fun (x : Nat) => (x : Int)) ∧ s.many ≤ 255 ∧ ∀ i, s.h i ≤ 255

def namesA : Array Value := #[.string ⟨#[108, 111, 119]⟩, .string ⟨#[114, 101, 100]⟩, .string ⟨#[98, 108, 117, 101]⟩, .string ⟨#[116, 111, 112]⟩, .string ⟨#[104, 105, 103, 104]⟩]
def labsA : Array Value := #[.int .u8 0, .int .u16 0, .int .u8 1, .int .u16 1, .int .u8 1, .int .u16 2, .int .u8 2, .int .u16 3, .int .u8 9, .int .u16 7]
theorem namesA_get : ∀ k, k < 5 → namesA[k]? = some (.string (nameAt k)) := by
  intro k hk
  have : k = 0 ∨ k = 1 ∨ k = 2 ∨ k = 3 ∨ k = 4 := by omega
  rcases this with rfl | rfl | rfl | rfl | rfl <;> rfl
theorem labsA_get : ∀ k, k < 5 → labsA[k * 2]? = some (.int .u8 (labAt k).1) ∧ labsA[k * 2 + 1]? = some (.int .u16 (labAt k).2) := by
  intro k hk
  have : k = 0 ∨ k = 1 ∨ k = 2 ∨ k = 3 ∨ k = 4 := by omega
  rcases this with rfl | rfl | rfl | rfl | rfl <;> exact ⟨rfl, rfl⟩
def arr5 (h : Nat → Nat) (k : Nat) : Array Value := #[.int .u8 (h (k * 5)), .int .u8 (h (k * 5 + 1)), .int .u8 (h (k * 5 + 2)), .int .u8 (h (k * 5 + 3)), .int .u8 (h (k * 5 + 4))]

theorem arr5_cells {X : Array Value} {h : Nat → Nat} (xh : ∀ i, i < 25 → X[1 + i]? = some (.int .u8 (h i))) {k : Nat} (hk : k < 5) : ∀ j v, (arr5 h k).toList[j]? = some v → X[1 + k * 5 + j]? = some v := by
  intro j v hv
  have hj : j < 5 := by
    rcases Nat.lt_or_ge j 5 with h | h
    · exact h
    · rw [List.getElem?_eq_none (by simpa [arr5] using h)] at hv; cases hv
  rw [Nat.add_assoc, xh (k * 5 + j) (by omega), ← hv]
  have : j = 0 ∨ j = 1 ∨ j = 2 ∨ j = 3 ∨ j = 4 := by omega
  rcases this with rfl | rfl | rfl | rfl | rfl <;> rfl

/-- A label's numbers before its clearance is right. -/
def regI (k n : Nat) (h0 h1 h2 h3 h4 : Nat) : Array Value := #[.string (nameAt k), .int .u8 (labAt k).1, .int .u16 (labAt k).2, .int .i64 (8 + (h0 : Int) % 60), .int .i64 (8 + 2 * ((h1 : Int) % 12)), .int .i64 (4 + (h2 : Int) % 40), .int .i64 (1 + (h3 : Int) % 6), .int .i64 (2 + (h4 : Int) % 14), .int .i64 ((n : Int) - 1)]
def regZA : Array Value := #[.string ⟨#[]⟩, .int .u8 0, .int .u16 0, .int .i64 0, .int .i64 0, .int .i64 0, .int .i64 0, .int .i64 0, .int .i64 0]
theorem regI_eq (s : SizeL) (k n h0 h1 h2 h3 h4 : Nat) (c : Int) (hn : n = manyOf s) (e0 : h0 = s.h (k * 5)) (e1 : h1 = s.h (k * 5 + 1)) (e2 : h2 = s.h (k * 5 + 2)) (e3 : h3 = s.h (k * 5 + 3)) (e4 : h4 = s.h (k * 5 + 4)) (hc : c = ((clearAt (manyOf s) k : Nat) : Int)) :
    (regArr (sizeReg0 s k)).toList = (#[.string (nameAt k), .int .u8 (labAt k).1, .int .u16 (labAt k).2, .int .i64 (8 + (h0 : Int) % 60), .int .i64 (8 + 2 * ((h1 : Int) % 12)), .int .i64 (4 + (h2 : Int) % 40), .int .i64 (1 + (h3 : Int) % 6), .int .i64 (2 + (h4 : Int) % 14), .int .i64 c] : Array Value).toList := by
  subst hn e0 e1 e2 e3 e4 hc
  simp [regArr, sizeReg0]
theorem ltMaxLen {i n : Nat} (h : i < n) (hn : n ≤ maxLen) : (i : Int) < 9223372036854775807 := by
  have e : maxLen = 9223372036854775807 := rfl
  rw [e] at hn
  omega
theorem regs3 (s : SizeL) (h : manyOf s = 3) : (regCells (regs0 s 3)).set 8 (.int .i64 1) = regCells (sizeRegs s) := by
  rw [sizeRegs_of, if_pos h, h]
  simp [regs0, List.range_succ, regCells, regArr, sizeReg0]
theorem regsN (s : SizeL) (h : manyOf s ≠ 3) : regs0 s (manyOf s) = sizeRegs s := by rw [sizeRegs_of, if_neg h]
theorem getD_cast (l : List Nat) (i : Nat) (hi : i < l.length) : (l.map fun (x : Nat) => (x : Int)).getD i 0 = ((l.getD i 0 : Nat) : Int) := by
  simp [List.getD_eq_getElem?_getD, List.getElem?_eq_getElem hi]
def sizeD : List (Nat × Tmp) := [(0, 29), (2, 31), (3, 32), (4, 33), (6, 35), (7, 36), (36, 65), (37, 8)]
def sizeNeed (i : Nat) : Nat := match i with
  | 2 => 2 ^ 0
  | 3 => 2 ^ 2
  | 4 => 2 ^ 0
  | 6 => 2 ^ 4
  | 7 => 2 ^ 6
  | 36 => 2 ^ 3 + 2 ^ 7
  | _ => 0
def sizeMasks : List Nat := [0, 1, 5, 13, 17, 21, 29, 81, 85, 93, 209, 213, 221, 68719476957, 137438953472, 137438953473, 137438953477, 137438953485, 137438953489, 137438953493, 137438953501, 137438953553, 137438953557, 137438953565, 137438953681, 137438953685, 137438953693, 206158430429]
end Go.Proofs.Ytmieioaklgdbdaa
