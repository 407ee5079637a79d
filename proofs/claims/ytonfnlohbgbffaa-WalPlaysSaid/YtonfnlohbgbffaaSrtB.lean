/- slices.Sort of a list of the call's own. -/
import Derived.Test.YtonfnlohbgbffaaSrt
import Derived.Test.YtonfnlohbgbffaaInts
import Derived.Test.YtonfnlohbgbffaaWalC
import Derived.Lib.RowBridge
set_option linter.unusedVariables false
set_option linter.unusedSimpArgs false
namespace Go.Proofs.Ytonfnlohbgbffaa
open Go.RowKit
open Go.Sort (Holds grow putRow)

theorem natInts_len (L : List Nat) : (natInts L).length = L.length := by simp [natInts]
theorem nat_back (zs : List Int) (h : ∀ z ∈ zs, 0 ≤ z) : natInts (zs.map Int.toNat) = zs := by
  unfold natInts
  rw [List.map_map]
  conv => rhs; rw [← List.map_id zs]
  apply List.map_congr_left
  intro z hz
  have := h z hz
  simp
  omega
theorem sort_plain (l : List Nat) : ∃ L : List Nat, natInts L = (natInts l).mergeSort (fun x y => decide (x ≤ y)) ∧ L.Pairwise (· ≤ ·) ∧ L.Perm l := by
  obtain ⟨s, hs⟩ : ∃ s, s = (natInts l).mergeSort (fun x y => decide (x ≤ y)) := ⟨_, rfl⟩
  have hp : s.Perm (natInts l) := by rw [hs]; exact List.mergeSort_perm _ _
  have h0 : ∀ z ∈ s, 0 ≤ z := fun z hz => by
    have := hp.mem_iff.1 hz
    obtain ⟨n, _, rfl⟩ := List.mem_map.1 this
    omega
  have hsort : s.Pairwise (fun x y => decide (x ≤ y) = true) := by
    rw [hs]
    exact List.pairwise_mergeSort (fun a b c h1 h2 => by simp at h1 h2 ⊢; omega) (fun a b => by simp; omega) _
  refine ⟨s.map Int.toNat, by rw [nat_back s h0, hs], ?_, ?_⟩
  · refine List.pairwise_map.2 (hsort.imp ?_)
    intro a b h
    simp at h
    omega
  · have := hp.map Int.toNat
    unfold natInts at this
    rw [List.map_map] at this
    refine this.trans ?_
    rw [show l.map (Int.toNat ∘ fun (n : Nat) => (n : Int)) = l from by
      conv => rhs; rw [← List.map_id l]
      apply List.map_congr_left
      intro z hz
      rfl]
theorem one_grow {w w1 : World} {r : Option Nat} (o : One w w1 r) (os : Array Obj) : One w (grow w1 os) r :=
  ⟨o.os, o.tape, o.output, by rw [Go.Sort.size_grow]; exact Nat.le_trans o.size (Nat.le_add_right _ _), fun k hk hr => by rw [Go.Sort.heap_grow_old _ _ (Nat.lt_of_lt_of_le hk o.size)]; exact o.block k hk hr⟩
theorem sort_own {w : World} {base : Nat} {v : Value} {l : List Nat} (h : OwnN w base v l) (hl : ∀ c ∈ l, c ≤ 65536) (hn : l.length ≤ 1000000) :
    Calls Try.prog 85 #[v] w fun e w' => ∃ L, e = .returned (.tuple #[]) ∧ SI w' .i64 v (natInts L) ∧ L.Pairwise (· ≤ ·) ∧ L.Perm l ∧ One w w' v.ownBlock := by
  have hsi : SI w .i64 v (natInts l) := h.si (fun c hc => by have := hl c hc; omega)
  obtain ⟨L, hL1, hL2, hL3⟩ := sort_plain l
  by_cases h0 : l.length = 0
  · obtain rfl : l = [] := List.eq_nil_of_length_eq_zero h0
    obtain ⟨A, c, rfl⟩ := h.form
    refine (Try.slices_Sort_int_none A c w).mono ?_
    rintro e w' ⟨rfl, rfl⟩
    exact ⟨[], rfl, hsi, List.Pairwise.nil, List.Perm.refl _, One.refl _ _⟩
  rcases h.2 with ⟨rfl, h1⟩ | ⟨g, cap, cur, rfl, hb, hg, h1, h2, h3, h4⟩
  · exact absurd h1 h0
  have hlen := natInts_len l
  rcases hsi.cases with ⟨h5, _⟩ | ⟨_, g', off, c1, hs, _, _, hgl, hc⟩
  · rw [h5] at hlen; simp at hlen; omega
  rw [hlen] at hs
  cases hs
  have hfz : ∀ j, j < (natInts l).length → w.frozen? ⟨g, 0 + j, none⟩ = false := fun j hj => by simp [World.frozen?, hg]
  have hH0 := Go.Lib.holds_of_ints (w := w) (b := g) (off := 0) (n := (natInts l).length) (zs := natInts l) (Nat.le_refl _) hc hfz
  rw [List.take_length] at hH0
  have hcall := Try.slices_Sort_int g 0 cap (natInts l) w hH0 hgl (by rw [hlen]; omega)
  rw [hlen] at hcall
  refine hcall.mono ?_
  rintro e w' ⟨rfl, q, os, rfl⟩
  rw [← hL1]
  have hlL : (natInts L).length = (natInts l).length := by rw [hL1, List.length_mergeSort]
  rw [Go.Lib.putRow_eq_setCells (Value.int .i64) w g 0 (natInts l).toArray (natInts L) q hH0 (by simpa using hlL)]
  have o1 : One w ((w.drewN q).setCells g 0 ((natInts L).map (Value.int .i64))) (some g) := One.setCells _ _ ⟨rfl, rfl, rfl, Nat.le_refl _, fun _ _ _ => rfl⟩
  have o2 := one_grow o1 os
  have hb2 : (grow ((w.drewN q).setCells g 0 ((natInts L).map (Value.int .i64))) os).heap.size ≥ w.heap.size := o2.size
  have hcells := Go.Lib.cells_after_ints (W := w) (b := g) (off := 0) (n := (natInts l).length) (q := q) (zs := natInts l) (ys := natInts L) (Nat.le_refl _) hlL hc
  rw [List.drop_length, List.append_nil] at hcells
  have hlL2 : (natInts L).length = l.length := by rw [hlL, hlen]
  refine ⟨L, rfl, ⟨⟨by simp, .inr ⟨⟨g, 0, none⟩, cap, by rw [hlL2], by omega, h2, fun _ => ⟨rfl, Nat.lt_of_lt_of_le hgl hb2, fun i hi => ?_⟩⟩⟩, fun z hz => ?_⟩, hL2, hL3, o2⟩
  · have hi' : i < (natInts L).length := by simpa using hi
    show World.cell? _ ⟨g, 0 + i, none⟩ = _
    rw [Go.Sort.cell?_grow _ _ _ (Nat.lt_of_lt_of_le hgl o1.size), hcells i hi', List.getElem?_map, List.getElem?_eq_getElem hi']
    simp [List.getD_eq_getElem?_getD, List.getElem?_eq_getElem hi']
  · rw [hL1] at hz
    exact hsi.wf z ((List.mergeSort_perm _ _).mem_iff.1 hz)
end Go.Proofs.Ytonfnlohbgbffaa
