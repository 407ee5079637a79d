/- Nodes: the plain laws of NodeBytes. -/
import Derived.Test.YtonfnlohbgbffaaNodH
set_option linter.unusedVariables false
set_option linter.unusedSimpArgs false
namespace Go.Proofs.Ytonfnlohbgbffaa
open Go.RowKit

theorem putB_le {bf : Nat → Nat} (hb : ∀ i, bf i ≤ 255) (a k n i : Nat) : putB bf a k n i ≤ 255 := by
  unfold putB
  split
  · have := Nat.mod_lt (n / 256 ^ (i - a)) (show 256 > 0 by omega); omega
  · exact hb i
theorem dirB_le {bf : Nat → Nat} (hb : ∀ i, bf i ≤ 255) (n : NodL) : ∀ j i, dirB n bf j i ≤ 255
  | 0, i => hb i
  | j + 1, i => putB_le (dirB_le hb n j) _ _ _ _
theorem encN_le (n : NodL) : ∀ i, encN n i ≤ 255 := fun i => putB_le (putB_le (dirB_le (putB_le (putB_le (putB_le (putB_le (fun _ => Nat.zero_le 255) _ _ _) _ _ _) _ _ _) _ _ _) n 6) _ _ _) _ _ _ i
/-- A node's bytes, one by one. -/
def bytL (n : NodL) : List Nat := [n.kd % 256, n.lk % 256, n.gn % 256, n.gn / 256 % 256, n.sz % 256, n.sz / 256 % 256, n.sz / 65536 % 256, n.sz / 16777216 % 256, n.d0 % 256, n.d0 / 256 % 256, n.d1 % 256, n.d1 / 256 % 256, n.d2 % 256, n.d2 / 256 % 256,
  n.d3 % 256, n.d3 / 256 % 256, n.d4 % 256, n.d4 / 256 % 256, n.d5 % 256, n.d5 / 256 % 256, n.sg % 256, n.sg / 256 % 256, n.db % 256, n.db / 256 % 256, 0, 0, 0, 0, 0, 0, 0, 0]
theorem encN_at (n : NodL) : ∀ i, i < 32 → (bytL n)[i]? = some (encN n i) := by
  intro i hi
  rcases i with _ | _ | _ | _ | _ | _ | _ | _ | _ | _ | _ | _ | _ | _ | _ | _ | _ | _ | _ | _ | _ | _ | _ | _ | _ | _ | _ | _ | _ | _ | _ | _ | i <;>
    first | omega | (simp [bytL, encN, headB, dirB, putB, NodL.d])
theorem encN_row (n : NodL) : (List.range 32).map (encN n) = bytL n := by
  apply List.ext_getElem?
  intro i
  by_cases hi : i < 32
  · rw [encN_at n i hi]
    simp [hi]
  · rw [List.getElem?_eq_none (by simp; omega), List.getElem?_eq_none (by show 32 ≤ i; omega)]
theorem encN_val (n : NodL) {i x : Nat} (h : (bytL n)[i]? = some x) (hi : i < 32) : encN n i = x := by
  rw [encN_at n i hi] at h
  injection h
theorem getB_one (bf : Nat → Nat) (a : Nat) : getB bf a 1 = bf a := by simp [getB]
theorem getB_two (bf : Nat → Nat) (a : Nat) : getB bf a 2 = bf a + bf (a + 1) * 256 := by simp [getB]
theorem getB_four (bf : Nat → Nat) (a : Nat) : getB bf a 4 = bf a + bf (a + 1) * 256 + bf (a + 2) * 65536 + bf (a + 3) * 16777216 := by simp [getB]
theorem two_enc (n : NodL) {a x : Nat} (h0 : (bytL n)[a]? = some (x % 256)) (h1 : (bytL n)[a + 1]? = some (x / 256 % 256)) (ha : a + 1 < 32) (hx : x ≤ 65535) : getB (encN n) a 2 = x := by
  rw [getB_two, encN_val n h0 (by omega), encN_val n h1 ha]; omega
theorem one_enc (n : NodL) {a x : Nat} (h0 : (bytL n)[a]? = some (x % 256)) (ha : a < 32) (hx : x ≤ 255) : getB (encN n) a 1 = x := by
  rw [getB_one, encN_val n h0 ha]; omega
theorem four_enc (n : NodL) {a x : Nat} (h0 : (bytL n)[a]? = some (x % 256)) (h1 : (bytL n)[a + 1]? = some (x / 256 % 256)) (h2 : (bytL n)[a + 2]? = some (x / 65536 % 256)) (h3 : (bytL n)[a + 3]? = some (x / 16777216 % 256)) (ha : a + 3 < 32) (hx : x < 4294967296) : getB (encN n) a 4 = x := by
  rw [getB_four, encN_val n h0 (by omega), encN_val n h1 (by omega), encN_val n h2 (by omega), encN_val n h3 ha]; omega
theorem decN_enc {n : NodL} (h : n.ok) : decN (encN n) = n := by
  have f0 := one_enc n (a := 0) (x := n.kd) rfl (by omega) h.kd
  have f1 := one_enc n (a := 1) (x := n.lk) rfl (by omega) h.lk
  have f2 := two_enc n (a := 2) (x := n.gn) rfl rfl (by omega) h.gn
  have f4 := four_enc n (a := 4) (x := n.sz) rfl rfl rfl rfl (by omega) h.sz
  have g0 := two_enc n (a := 8) (x := n.d0) rfl rfl (by omega) h.d0
  have g1 := two_enc n (a := 10) (x := n.d1) rfl rfl (by omega) h.d1
  have g2 := two_enc n (a := 12) (x := n.d2) rfl rfl (by omega) h.d2
  have g3 := two_enc n (a := 14) (x := n.d3) rfl rfl (by omega) h.d3
  have g4 := two_enc n (a := 16) (x := n.d4) rfl rfl (by omega) h.d4
  have g5 := two_enc n (a := 18) (x := n.d5) rfl rfl (by omega) h.d5
  have g6 := two_enc n (a := 20) (x := n.sg) rfl rfl (by omega) h.sg
  have g7 := two_enc n (a := 22) (x := n.db) rfl rfl (by omega) h.db
  unfold decN
  rw [f0, f1, f2, f4, g0, g1, g2, g3, g4, g5, g6, g7]
theorem tail_enc (n : NodL) : tailZ (encN n) := fun q h1 h2 => by
  have : (bytL n)[q]? = some 0 := by
    rcases (show q = 24 ∨ q = 25 ∨ q = 26 ∨ q = 27 ∨ q = 28 ∨ q = 29 ∨ q = 30 ∨ q = 31 by omega) with rfl | rfl | rfl | rfl | rfl | rfl | rfl | rfl <;> rfl
  exact encN_val n this h2
theorem two_dec {bf : Nat → Nat} (hb : ∀ i, bf i ≤ 255) (a : Nat) : getB bf a 2 % 256 = bf a ∧ getB bf a 2 / 256 % 256 = bf (a + 1) := by
  have h0 := hb a
  have h1 := hb (a + 1)
  rw [getB_two]; omega
theorem one_dec {bf : Nat → Nat} (hb : ∀ i, bf i ≤ 255) (a : Nat) : getB bf a 1 % 256 = bf a := by
  have h0 := hb a
  rw [getB_one]; omega
theorem four_dec {bf : Nat → Nat} (hb : ∀ i, bf i ≤ 255) (a : Nat) : getB bf a 4 % 256 = bf a ∧ getB bf a 4 / 256 % 256 = bf (a + 1) ∧ getB bf a 4 / 65536 % 256 = bf (a + 2) ∧ getB bf a 4 / 16777216 % 256 = bf (a + 3) := by
  have h0 := hb a
  have h1 := hb (a + 1)
  have h2 := hb (a + 2)
  have h3 := hb (a + 3)
  rw [getB_four]; omega
theorem bytL_dec {bf : Nat → Nat} (hb : ∀ i, bf i ≤ 255) (ht : tailZ bf) : bytL (decN bf) = [bf 0, bf 1, bf 2, bf 3, bf 4, bf 5, bf 6, bf 7, bf 8, bf 9, bf 10, bf 11, bf 12, bf 13, bf 14, bf 15, bf 16, bf 17, bf 18, bf 19, bf 20, bf 21, bf 22, bf 23, bf 24, bf 25, bf 26, bf 27, bf 28, bf 29, bf 30, bf 31] := by
  rw [ht 24 (by omega) (by omega), ht 25 (by omega) (by omega), ht 26 (by omega) (by omega), ht 27 (by omega) (by omega), ht 28 (by omega) (by omega), ht 29 (by omega) (by omega), ht 30 (by omega) (by omega), ht 31 (by omega) (by omega)]
  unfold bytL decN
  simp only
  rw [one_dec hb 0, one_dec hb 1, (two_dec hb 2).1, (two_dec hb 2).2, (four_dec hb 4).1, (four_dec hb 4).2.1, (four_dec hb 4).2.2.1, (four_dec hb 4).2.2.2, (two_dec hb 8).1, (two_dec hb 8).2, (two_dec hb 10).1, (two_dec hb 10).2, (two_dec hb 12).1, (two_dec hb 12).2,
    (two_dec hb 14).1, (two_dec hb 14).2, (two_dec hb 16).1, (two_dec hb 16).2, (two_dec hb 18).1, (two_dec hb 18).2, (two_dec hb 20).1, (two_dec hb 20).2, (two_dec hb 22).1, (two_dec hb 22).2]
theorem encN_dec {bf : Nat → Nat} (hb : ∀ i, bf i ≤ 255) (ht : tailZ bf) : ∀ i, i < 32 → encN (decN bf) i = bf i := by
  intro i hi
  refine encN_val _ ?_ hi
  rw [bytL_dec hb ht]
  rcases i with _ | _ | _ | _ | _ | _ | _ | _ | _ | _ | _ | _ | _ | _ | _ | _ | _ | _ | _ | _ | _ | _ | _ | _ | _ | _ | _ | _ | _ | _ | _ | _ | i <;>
    first | rfl | omega
end Go.Proofs.Ytonfnlohbgbffaa
