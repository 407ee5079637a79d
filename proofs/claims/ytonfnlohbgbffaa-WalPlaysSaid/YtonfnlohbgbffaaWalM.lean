/- The plain law of a commit on a disk that does not stop. -/
import Derived.Test.YtonfnlohbgbffaaWalK
set_option linter.unusedVariables false
set_option linter.unusedSimpArgs false
namespace Go.Proofs.Ytonfnlohbgbffaa
open Go.RowKit

def Alive (s : DSt) : Prop := s.dead = false ∧ s.left = -1
theorem Alive.up {s : DSt} (h : Alive s) : s.up = true := by unfold DSt.up; rw [h.1, h.2]; rfl
theorem Alive.put {s : DSt} (h : Alive s) (k : Nat) (f : Nat → Nat) : Alive (s.put k f) := by
  unfold DSt.put
  rw [if_pos h.up, h.2]
  exact ⟨rfl, rfl⟩
theorem Alive.at {s : DSt} (h : Alive s) (k : Nat) (f : Nat → Nat) : (s.put k f).D = setBlk s.D k f := by
  unfold DSt.put
  rw [if_pos h.up]
theorem dz_alive : Alive dz := ⟨rfl, rfl⟩
theorem logW_alive (first : Nat) (G : Nat → Nat → Nat) : ∀ (L : List Nat) (i : Nat) (s : DSt), Alive s → (logW first G L i s).2 = 0 ∧ Alive (logW first G L i s).1 ∧
    (∀ j, j < L.length → (logW first G L i s).1.D (first + 1 + i + j) = G (L.getD j 0)) ∧ ∀ k, (k < first + 1 + i ∨ first + 1 + i + L.length ≤ k) → (logW first G L i s).1.D k = s.D k
  | [], i, s, h => ⟨rfl, h, fun j hj => by simp at hj, fun k _ => rfl⟩
  | q :: L, i, s, h => by
    have ih := logW_alive first G L (i + 1) (s.put (first + 1 + i) (G q)) (h.put _ _)
    have e : logW first G (q :: L) i s = logW first G L (i + 1) (s.put (first + 1 + i) (G q)) := by
      show (if s.up = true then _ else _) = _
      rw [if_pos h.up]
    rw [e]
    obtain ⟨i1, i2, i3, i4⟩ := ih
    rw [h.at] at i4
    refine ⟨i1, i2, fun j hj => ?_, fun k hk => ?_⟩
    · match j with
      | 0 =>
        rw [i4 _ (by omega)]
        simp [setBlk]
      | j + 1 =>
        have := i3 j (by simp at hj; omega)
        rw [show first + 1 + i + (j + 1) = first + 1 + (i + 1) + j by omega, this]
        simp
    · simp only [List.length_cons] at hk
      rw [i4 k (by omega)]
      unfold setBlk
      rw [if_neg (by omega)]
theorem inst_alive (first : Nat) : ∀ (L : List Nat) (i : Nat) (s : DSt), Alive s → L.Nodup → (∀ k ∈ L, k < first ∨ first + 30 < k) → i + L.length ≤ 30 → (inst first L i s).2 = 0 ∧ Alive (inst first L i s).1 ∧
    (∀ j, j < L.length → (inst first L i s).1.D (L.getD j 0) = s.D (first + 1 + i + j)) ∧ ∀ k, k ∉ L → (inst first L i s).1.D k = s.D k
  | [], i, s, h, _, _, _ => ⟨rfl, h, fun j hj => by simp at hj, fun k _ => rfl⟩
  | q :: L, i, s, h, hn, hr, hl => by
    rw [List.nodup_cons] at hn
    simp only [List.length_cons] at hl
    have ih := inst_alive first L (i + 1) (s.put q (s.D (first + 1 + i))) (h.put _ _) hn.2 (fun k hk => hr k (by simp [hk])) (by omega)
    have e : inst first (q :: L) i s = inst first L (i + 1) (s.put q (s.D (first + 1 + i))) := by
      show (if s.up = true then _ else _) = _
      rw [if_pos h.up]
    rw [e]
    obtain ⟨i1, i2, i3, i4⟩ := ih
    have hq := hr q (by simp)
    rw [h.at] at i4
    refine ⟨i1, i2, fun j hj => ?_, fun k hk => ?_⟩
    · match j with
      | 0 =>
        show (inst first L (i + 1) (s.put q (s.D (first + 1 + i)))).1.D q = _
        rw [i4 q hn.1]
        simp [setBlk]
      | j + 1 =>
        simp only [List.length_cons] at hj
        have := i3 j (by omega)
        show (inst first L (i + 1) (s.put q (s.D (first + 1 + i)))).1.D (L.getD j 0) = _
        rw [this, h.at]
        unfold setBlk
        rw [if_neg (by omega), show first + 1 + (i + 1) + j = first + 1 + i + (j + 1) by omega]
    · simp only [List.mem_cons, not_or] at hk
      rw [i4 k hk.2]
      unfold setBlk
      rw [if_neg hk.1]
/-- A commit on a disk that does not stop: all blocks are as they were to be. -/
theorem commit_alive (first : Nat) (G : Nat → Nat → Nat) (L : List Nat) (s : DSt) (h : Alive s) (h0 : L ≠ []) (hn : L.Nodup) (hr : ∀ k ∈ L, k < first ∨ first + 30 < k) (hl : L.length ≤ 30) :
    (commit first G L s).2.1 = 0 ∧ (commit first G L s).2.2 = true ∧ Alive (commit first G L s).1 ∧ (∀ k ∈ L, (commit first G L s).1.D k = G k) ∧ ∀ k, k ∉ L → (k < first ∨ first + 30 < k) → (commit first G L s).1.D k = s.D k := by
  obtain ⟨a1, a2, a3, a4⟩ := logW_alive first G L 0 s h
  obtain ⟨s1, hs1⟩ : ∃ s1, s1 = (logW first G L 0 s).1 := ⟨_, rfl⟩
  rw [← hs1] at a2 a3 a4
  have e1 : commit first G L s = ((install first L (s1.put first (logB L))).1, (install first L (s1.put first (logB L))).2, true) := by
    unfold commit
    rw [if_neg h0, if_neg (by rw [a1]; simp), ← hs1, if_pos a2.up]
  obtain ⟨s2, hs2⟩ : ∃ s2, s2 = s1.put first (logB L) := ⟨_, rfl⟩
  rw [← hs2] at e1
  have b2 : Alive s2 := hs2 ▸ a2.put _ _
  have bD : s2.D = setBlk s1.D first (logB L) := hs2 ▸ a2.at _ _
  obtain ⟨c1, c2, c3, c4⟩ := inst_alive first L 0 s2 b2 hn hr (by omega)
  have e2 : install first L s2 = ((inst first L 0 s2).1.put first (logB []), 0) := by
    unfold install
    rw [if_neg h0, if_pos c1]
    unfold DSt.code
    rw [if_pos c2.up]
  rw [e1, e2]
  refine ⟨rfl, rfl, c2.put _ _, fun k hk => ?_, fun k hk hkr => ?_⟩
  · show ((inst first L 0 s2).1.put first (logB [])).D k = _
    have hkr := hr k hk
    obtain ⟨j, hj, rfl⟩ := List.getElem_of_mem hk
    have h1 := c3 j hj
    rw [List.getD_eq_getElem?_getD, List.getElem?_eq_getElem hj] at h1
    have h2 := a3 j hj
    rw [List.getD_eq_getElem?_getD, List.getElem?_eq_getElem hj] at h2
    simp only [Option.getD_some, Nat.add_zero] at h1 h2
    rw [c2.at]
    unfold setBlk
    rw [if_neg (by omega), h1, bD]
    unfold setBlk
    rw [if_neg (by omega), h2]
  · show ((inst first L 0 s2).1.put first (logB [])).D k = _
    rw [c2.at]
    unfold setBlk
    rw [if_neg (by omega), c4 k hk, bD]
    unfold setBlk
    rw [if_neg (by omega), a4 k (by omega)]
end Go.Proofs.Ytonfnlohbgbffaa
