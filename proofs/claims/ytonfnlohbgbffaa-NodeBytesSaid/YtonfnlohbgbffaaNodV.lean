/- Nodes: NodeBytes: the arguments. -/
import Derived.Test.YtonfnlohbgbffaaNodK
set_option linter.unusedVariables false
set_option linter.unusedSimpArgs false
namespace Go.Proofs.Ytonfnlohbgbffaa
open Go.RowKit

/-- An argument that is a node. -/
theorem Arg.node {W : World} {v : Value} (o : Arg Try.prog W 27 v) : ∃ n : NodL, n.ok ∧ v = .agg (nodA n) := by
  obtain ⟨cs, rfl, h⟩ := Arg.flat (.inl ⟨_, Try.underlying27⟩) 4 (ks := [⟨0, .u8, 0⟩, ⟨0, .u8, 0⟩, ⟨0, .u16, 0⟩, ⟨0, .u32, 0⟩, ⟨0, .u16, 0⟩, ⟨0, .u16, 0⟩, ⟨0, .u16, 0⟩, ⟨0, .u16, 0⟩, ⟨0, .u16, 0⟩, ⟨0, .u16, 0⟩, ⟨0, .u16, 0⟩, ⟨0, .u16, 0⟩]) (by kernel_rfl) o
  obtain ⟨_, _, rfl, ⟨x0, rfl, w0⟩, g0⟩ := FitsAll.cons h
  obtain ⟨_, _, rfl, ⟨x1, rfl, w1⟩, g1⟩ := FitsAll.cons g0
  obtain ⟨_, _, rfl, ⟨x2, rfl, w2⟩, g2⟩ := FitsAll.cons g1
  obtain ⟨_, _, rfl, ⟨x3, rfl, w3⟩, g3⟩ := FitsAll.cons g2
  obtain ⟨_, _, rfl, ⟨x4, rfl, w4⟩, g4⟩ := FitsAll.cons g3
  obtain ⟨_, _, rfl, ⟨x5, rfl, w5⟩, g5⟩ := FitsAll.cons g4
  obtain ⟨_, _, rfl, ⟨x6, rfl, w6⟩, g6⟩ := FitsAll.cons g5
  obtain ⟨_, _, rfl, ⟨x7, rfl, w7⟩, g7⟩ := FitsAll.cons g6
  obtain ⟨_, _, rfl, ⟨x8, rfl, w8⟩, g8⟩ := FitsAll.cons g7
  obtain ⟨_, _, rfl, ⟨x9, rfl, w9⟩, g9⟩ := FitsAll.cons g8
  obtain ⟨_, _, rfl, ⟨x10, rfl, w10⟩, g10⟩ := FitsAll.cons g9
  obtain ⟨_, _, rfl, ⟨x11, rfl, w11⟩, g11⟩ := FitsAll.cons g10
  obtain rfl := FitsAll.nil g11
  have k0 := wf_u8 w0
  have k1 := wf_u8 w1
  have k2 := wf_u16 w2
  have k3 := wf_u32 w3
  have k4 := wf_u16 w4
  have k5 := wf_u16 w5
  have k6 := wf_u16 w6
  have k7 := wf_u16 w7
  have k8 := wf_u16 w8
  have k9 := wf_u16 w9
  have k10 := wf_u16 w10
  have k11 := wf_u16 w11
  refine ⟨⟨x0.toNat, x1.toNat, x2.toNat, x3.toNat, x4.toNat, x5.toNat, x6.toNat, x7.toNat, x8.toNat, x9.toNat, x10.toNat, x11.toNat⟩, ⟨by simp only; omega, by simp only; omega, by simp only; omega, by simp only; omega, by simp only; omega, by simp only; omega, by simp only; omega, by simp only; omega, by simp only; omega, by simp only; omega, by simp only; omega, by simp only; omega⟩, ?_⟩
  unfold nodA
  simp only
  rw [show ((x0.toNat : Nat) : Int) = x0 by omega, show ((x1.toNat : Nat) : Int) = x1 by omega, show ((x2.toNat : Nat) : Int) = x2 by omega, show ((x3.toNat : Nat) : Int) = x3 by omega, show ((x4.toNat : Nat) : Int) = x4 by omega, show ((x5.toNat : Nat) : Int) = x5 by omega, show ((x6.toNat : Nat) : Int) = x6 by omega, show ((x7.toNat : Nat) : Int) = x7 by omega, show ((x8.toNat : Nat) : Int) = x8 by omega, show ((x9.toNat : Nat) : Int) = x9 by omega, show ((x10.toNat : Nat) : Int) = x10 by omega, show ((x11.toNat : Nat) : Int) = x11 by omega]
/-- An argument that is 32 bytes. -/
theorem Arg.bytes32 {W : World} {v : Value} (o : Arg Try.prog W 28 v) : ∃ bf : Nat → Nat, (∀ i, bf i ≤ 255) ∧ v = .agg (rowArr 32 (byteF bf)) := by
  obtain ⟨cs, rfl, _, n, hn⟩ := Arg.array Try.underlying28 o
  obtain ⟨zs, h1, h2, h3⟩ := Okay.ints Try.underlying28 Try.underlying5 (by kernel_rfl) (by kernel_rfl) hn
  have hw : ∀ i, 0 ≤ zs.getD i 0 ∧ zs.getD i 0 ≤ 255 := fun i => by
    rw [List.getD_eq_getElem?_getD]
    by_cases hi : i < zs.length
    · rw [List.getElem?_eq_getElem hi]
      exact wf_u8 (h3 _ (List.getElem_mem hi))
    · rw [List.getElem?_eq_none (by omega)]
      simp
  refine ⟨fun i => (zs.getD i 0).toNat, fun i => by have := hw i; show (zs.getD i 0).toNat ≤ 255; omega, ?_⟩
  congr 1
  apply Array.ext'
  rw [h2]
  apply List.ext_getElem (by simp [h1, rowArr])
  intro i hi1 hi2
  have hw' := hw i
  have hi : i < zs.length := by simpa using hi1
  simp only [List.getElem_map, rowArr, List.getElem_range, byteF]
  congr 1
  rw [List.getD_eq_getElem?_getD, List.getElem?_eq_getElem hi] at hw' ⊢
  simp only [Option.getD_some] at hw' ⊢
  omega
/-- A node that is made right, or not. -/
def NodL.fix (n : NodL) : NodL := { n with kd := n.kd % 6, sz := if n.kd % 6 = 2 then n.sz % 17000 - n.sz % 17000 % 16 else n.sz % 17000, lk := n.lk + 1 - n.lk % 2 }
theorem NodL.ok.fix {n : NodL} (h : n.ok) : n.fix.ok := by
  have h1 := h.kd
  have h2 := h.lk
  have h3 := h.sz
  refine ⟨?_, ?_, h.gn, ?_, h.d0, h.d1, h.d2, h.d3, h.d4, h.d5, h.sg, h.db⟩
  · show n.kd % 6 ≤ 255; omega
  · show n.lk + 1 - n.lk % 2 ≤ 255; omega
  · show (if n.kd % 6 = 2 then n.sz % 17000 - n.sz % 17000 % 16 else n.sz % 17000) < 4294967296
    split <;> omega
end Go.Proofs.Ytonfnlohbgbffaa
