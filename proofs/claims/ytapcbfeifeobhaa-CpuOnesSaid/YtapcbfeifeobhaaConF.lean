/- Sizes (the laws' configurations): plain law. -/
import Derived.Test.YtapcbfeifeobhaaConE
set_option linter.unusedVariables false
set_option linter.unusedSimpArgs false
namespace Go.Proofs.Ytapcbfeifeobhaa
open Go.RowKit

structure SizeL where
  many : Nat
  h : Nat → Nat
  trust : List Nat
def manyOf (s : SizeL) : Nat := 2 + s.many % 4
def namesL : List ByteArray := [⟨#[108, 111, 119]⟩, ⟨#[114, 101, 100]⟩, ⟨#[98, 108, 117, 101]⟩, ⟨#[116, 111, 112]⟩, ⟨#[104, 105, 103, 104]⟩]
def labsL : List (Nat × Nat) := [(0, 0), (1, 1), (1, 2), (2, 3), (9, 7)]
def nameAt (k : Nat) : ByteArray := namesL.getD k ⟨#[]⟩
def labAt (k : Nat) : Nat × Nat := labsL.getD k (0, 0)
def clearAt (n k : Nat) : Nat := if n = 2 then 1 else if n < 4 ∧ 0 < k then k else n - 1
def clearEnd (n k : Nat) : Nat := if n = 3 ∧ k = 0 then 1 else clearAt n k
def sizeReg0 (s : SizeL) (k : Nat) : RegL := ⟨nameAt k, labAt k, 8 + s.h (k * 5) % 60, 8 + 2 * (s.h (k * 5 + 1) % 12), 4 + s.h (k * 5 + 2) % 40, 1 + s.h (k * 5 + 3) % 6, 2 + s.h (k * 5 + 4) % 14, clearAt (manyOf s) k⟩
def sizeReg (s : SizeL) (k : Nat) : RegL := { sizeReg0 s k with cl := clearEnd (manyOf s) k }
def regs0 (s : SizeL) (n : Nat) : List RegL := (List.range n).map (sizeReg0 s)
def sizeRegs (s : SizeL) : List RegL := (List.range (manyOf s)).map (sizeReg s)
def markAt (n x : Nat) : Nat × Nat := (x % n, 4 + x / 8 % 4)
def markStep (n : Nat) (l : List Nat) (acc : List (Nat × Nat)) (i : Nat) : List (Nat × Nat) := if 8 < i ∨ markAt n (l.getD i 0) ∈ acc then acc else acc ++ [markAt n (l.getD i 0)]
def marksTo (n : Nat) (l : List Nat) (k : Nat) : List (Nat × Nat) := (List.range k).foldl (markStep n l) []
def sizeMarks (s : SizeL) : List (Nat × Nat) := marksTo (manyOf s) s.trust s.trust.length

theorem regs0_next (s : SizeL) (k : Nat) : regs0 s (k + 1) = regs0 s k ++ [sizeReg0 s k] := by simp [regs0, List.range_succ]
theorem regs0_length (s : SizeL) (k : Nat) : (regs0 s k).length = k := by simp [regs0]
theorem sizeRegs_length (s : SizeL) : (sizeRegs s).length = manyOf s := by simp [sizeRegs]
theorem sizeRegs_get (s : SizeL) (k : Nat) (h : k < (sizeRegs s).length) : (sizeRegs s)[k] = sizeReg s k := by simp [sizeRegs]
theorem marksTo_next (n : Nat) (l : List Nat) (k : Nat) : marksTo n l (k + 1) = markStep n l (marksTo n l k) k := by simp [marksTo, List.range_succ]
theorem manyOf_le (s : SizeL) : 2 ≤ manyOf s ∧ manyOf s ≤ 5 := by unfold manyOf; omega
theorem many_cases (s : SizeL) : manyOf s = 2 ∨ manyOf s = 3 ∨ manyOf s = 4 ∨ manyOf s = 5 := by have := manyOf_le s; omega

/-- The last step: with three labels the first one's clearance. -/
theorem sizeRegs_of (s : SizeL) : sizeRegs s = if manyOf s = 3 then ({ sizeReg0 s 0 with cl := 1 } : RegL) :: (regs0 s (manyOf s)).tail else regs0 s (manyOf s) := by
  rcases many_cases s with h | h | h | h <;> simp [sizeRegs, regs0, h, List.range_succ, sizeReg, clearEnd, sizeReg0, clearAt]

theorem marksTo_facts (n : Nat) (l : List Nat) (hn : 0 < n) : ∀ k, (marksTo n l k).Nodup ∧ (∀ m ∈ marksTo n l k, m.1 < n ∧ 4 ≤ m.2 ∧ m.2 ≤ 7) ∧ (marksTo n l k).length ≤ min k 9 := by
  intro k
  induction k with
  | zero => simp [marksTo]
  | succ k ih =>
    rw [marksTo_next]
    unfold markStep
    obtain ⟨h1, h2, h3⟩ := ih
    split
    · exact ⟨h1, h2, by omega⟩
    · rename_i hno
      rw [not_or] at hno
      refine ⟨?_, ?_, ?_⟩
      · rw [List.nodup_append]
        refine ⟨h1, by simp, fun a ha b hb => ?_⟩
        simp only [List.mem_singleton] at hb
        subst hb
        exact fun e => hno.2 (e ▸ ha)
      · intro m hm
        rw [List.mem_append] at hm
        rcases hm with hm | hm
        · exact h2 m hm
        · simp only [List.mem_singleton] at hm
          subst hm
          have := Nat.mod_lt (l.getD k 0) hn
          unfold markAt
          simp only
          omega
      · simp only [List.length_append, List.length_singleton]
        omega

theorem names_ok : ∀ k, k < 5 → 1 ≤ (nameAt k).size ∧ (nameAt k).size ≤ 8 ∧ ∀ b ∈ (nameAt k).data.toList, 97 ≤ b.toNat ∧ b.toNat ≤ 122 := by
  intro k hk
  have : k = 0 ∨ k = 1 ∨ k = 2 ∨ k = 3 ∨ k = 4 := by omega
  rcases this with rfl | rfl | rfl | rfl | rfl <;> exact of_decide_eq_true (by kernel_rfl)
theorem labs_ok : ∀ k, k < 5 → (labAt k).1 ≤ 15 ∧ (labAt k).2 < 65536 := by decide
theorem names_nodup : ∀ n, n ≤ 5 → ((List.range n).map nameAt).Nodup := fun n hn =>
  (of_decide_eq_true (by kernel_rfl) : ((List.range 5).map nameAt).Nodup).sublist (by
    refine List.Sublist.map _ ?_
    rw [show List.range 5 = List.range (n + (5 - n)) by congr 1; omega, List.range_add]
    exact List.sublist_append_left _ _)
theorem labs_nodup : ∀ n, n ≤ 5 → ((List.range n).map labAt).Nodup := fun n hn =>
  (of_decide_eq_true (by kernel_rfl) : ((List.range 5).map labAt).Nodup).sublist (by
    refine List.Sublist.map _ ?_
    rw [show List.range 5 = List.range (n + (5 - n)) by congr 1; omega, List.range_add]
    exact List.sublist_append_left _ _)
theorem clear_lt : ∀ n, n < 6 → 2 ≤ n → ∀ k, k < n → clearEnd n k < n := by decide
theorem clear_up : ∀ n, n < 6 → 2 ≤ n → ∀ k, k < n → leqL (labAt k) (labAt (clearEnd n k)) = true := by
  have : ((List.range 6).all fun n => decide (2 ≤ n → ((List.range n).all fun k => leqL (labAt k) (labAt (clearEnd n k))) = true)) = true := by kernel_rfl
  intro n hn h2 k hk
  rw [List.all_eq_true] at this
  have h := of_decide_eq_true (this n (by simpa using hn)) h2
  rw [List.all_eq_true] at h
  exact h k (by simpa using hk)

theorem size_ok (s : SizeL) : okConf (sizeRegs s) (sizeMarks s) := by
  obtain ⟨n1, n2⟩ := manyOf_le s
  obtain ⟨f1, f2, f3⟩ := marksTo_facts (manyOf s) s.trust (by omega) s.trust.length
  have hlen := sizeRegs_length s
  refine ⟨by omega, by omega, ?_, ?_, ?_, ?_, ?_, ?_, ?_, f1⟩
  · intro r hr
    simp only [sizeRegs, List.mem_map, List.mem_range] at hr
    obtain ⟨k, hk, rfl⟩ := hr
    obtain ⟨a1, a2, a3⟩ := names_ok k (by omega)
    obtain ⟨b1, b2⟩ := labs_ok k (by omega)
    rw [hlen]
    exact ⟨a1, a2, a3, b1, b2, by simp [sizeReg, sizeReg0]; omega, by simp [sizeReg, sizeReg0]; omega, by simp [sizeReg, sizeReg0]; omega, by simp [sizeReg, sizeReg0]; omega, by simp [sizeReg, sizeReg0], by simp [sizeReg, sizeReg0]; omega, by simp [sizeReg, sizeReg0]; omega, by simp [sizeReg, sizeReg0], by simp [sizeReg, sizeReg0]; omega, by simp [sizeReg, sizeReg0]; omega, by simp [sizeReg, sizeReg0]; omega, clear_lt _ (by omega) n1 k hk⟩
  · have : (sizeRegs s).map (·.name) = (List.range (manyOf s)).map nameAt := by simp [sizeRegs, sizeReg, sizeReg0]
    rw [this]
    exact names_nodup _ n2
  · have : (sizeRegs s).map (·.lab) = (List.range (manyOf s)).map labAt := by simp [sizeRegs, sizeReg, sizeReg0]
    rw [this]
    exact labs_nodup _ n2
  · intro h
    rw [sizeRegs_get]
    rfl
  · intro i h h2
    simp only [sizeRegs_get] at h2 ⊢
    exact clear_up _ (by omega) n1 i (by omega)
  · show (marksTo _ _ _).length ≤ 1000
    omega
  · intro m hm
    obtain ⟨h1, h2, h3⟩ := f2 m hm
    refine ⟨by omega, by omega, ?_⟩
    rw [sizeRegs_get]
    simp only [sizeReg, sizeReg0]
    omega
end Go.Proofs.Ytapcbfeifeobhaa
