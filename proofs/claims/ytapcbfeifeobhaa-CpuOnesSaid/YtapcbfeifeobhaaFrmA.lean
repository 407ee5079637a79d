/- Pages: New, has. -/
import Derived.Test.YtapcbfeifeobhaaTabA
set_option linter.unusedVariables false
set_option linter.unusedSimpArgs false
namespace Go.Proofs.Ytapcbfeifeobhaa
open Go.RowKit
open Go.Maps (Keyed)

set_option maxRecDepth 20000 in
set_option maxHeartbeats 4000000 in
theorem frameNew_in (w : World) (a : Addr) : Calls Try.prog 53 #[.pointer (some a)] w fun e w' => ∃ g gm, e = .returned (.pointer (some ⟨g, 0, none⟩)) ∧ w.heap.size ≤ g ∧ w.heap.size ≤ gm ∧ FP w' g gm (some a) (fun _ => 0) (fun _ => none) ∧ Below w.heap.size w w' := by
  have hmm := @run_makeMap Try.prog
  obtain ⟨X, hX⟩ : ∃ X, X = rowArr 66 (tabF (some a) w.heap.size (fun _ => 0)) := ⟨_, rfl⟩
  have HX := Lib.hid hX
  clear hX
  go_enter Try.func53, Try.ntmps53
  go_wp2_with (refine wpList_buildTo rfl 134 _ rfl (some 7) rfl X ?hf ?_; case hf => (rw [HX.out]; kernel_rfl))
  go_ret
  refine ⟨_, w.heap.size, rfl, by simp, by simp, ⟨?_, ?_⟩, bnewAfter (bnew _ _) _⟩
  · refine rowIs_of_arr ?_
    rw [← HX.out]
    have := heap_alloc_last (w.alloc (.map #[] 0)) (.cells X 134)
    rw [World.size_alloc] at this
    exact this
  · exact (MK.made (κ := Nat × Nat) (P := Try.prog) (k := 110) (kv := markV) (vv := pageV) w).keep (bnew _ _)
theorem frameNew_nil (w : World) : Calls Try.prog 53 #[.pointer none] w fun e w' => e = .returned (.pointer none) ∧ w = w' := by
  go_enter Try.func53, Try.ntmps53
  go_wp2_with fail
  go_ret
  exact ⟨rfl, rfl⟩

section
variable {w : World} {g gm : Nat} {a : Option Addr} {us : Nat → Nat} {F : Nat × Nat → Option (Nat → Nat)}
/-- The answer of a look-up. -/
def pageOr (x : Option (Nat → Nat)) : Array Value := pageA (x.getD fun _ => 0)
theorem lk_page (x : Option (Nat → Nat)) : lkV pageV (pageV fun _ => 0) true x = .tuple #[.agg (pageOr x), .bool x.isSome] := by cases x <;> rfl
theorem lk_page1 (x : Option (Nat → Nat)) : lkV pageV (pageV fun _ => 0) false x = .agg (pageOr x) := by cases x <;> rfl
set_option maxRecDepth 20000 in
set_option maxHeartbeats 1000000 in
theorem frameHas_in (h : FP w g gm a us F) (p : Nat × Nat) (h1 : p.1 ≤ 255) (h2 : p.2 ≤ 65535) :
    Calls Try.prog 64 #[.pointer (some ⟨g, 0, none⟩), markV p] w fun e w' => e = .returned (.bool (F p).isSome) ∧ Below w.heap.size w w' := by
  obtain ⟨l, hl⟩ := key_frame p h1 h2
  have HL := Lib.hid hl
  have hb := bnew w (.cells #[.int .u8 p.1, .int .u16 p.2] 110)
  have hp := heap_alloc_last w (.cells #[.int .u8 p.1, .int .u16 p.2] 110)
  have HT := Lib.hid (h.keep hb)
  have HB := Lib.hid hb
  have HP := Lib.hid hp
  obtain ⟨X, hX⟩ : ∃ X, X = pageOr (F p) := ⟨_, rfl⟩
  have HX := Lib.hid hX
  obtain ⟨z, hz⟩ : ∃ z, z = pageA fun _ => 0 := ⟨_, rfl⟩
  have HZ := Lib.hid hz
  have HXS := Lib.hid (show X.size = 64 by rw [hX]; exact pageA_size _)
  have HZS := Lib.hid (show z.size = 64 by rw [hz]; exact pageA_size _)
  obtain ⟨b, hbb⟩ : ∃ b, b = (F p).isSome := ⟨_, rfl⟩
  have HBB := Lib.hid hbb
  rw [← hbb]
  unfold markV
  clear h hl hb hp hX hz hbb
  go_enter Try.func64, Try.ntmps64
  go_wp2_with fail
  generalize hG : w.heap.size = G at *
  generalize w.alloc (.cells #[.int .u8 p.1, .int .u16 p.2] 110) = w1 at *
  have HG := Lib.hid hG
  clear hG
  refine wp_region_held (S := fun w' => Below w1.heap.size w1 w') (by kernel_rfl) ?_
  change wpAnyH _ _ _ _ _ _ _ _ (World.drew _)
  have hS := drewb w1

  refine takeH 0 (.pointer (some ⟨g, 0, none⟩)) (some 8) rfl rfl (by kernel_rfl) (by kernel_rfl) (by kernel_rfl) (fun _ _ _ h => h) (.inl ⟨by kernel_rfl, fun w _ => by go_simp⟩) hS ?_
  refine takeH 1 (.pointer (some ⟨g, 0, none⟩)) (some 9) rfl rfl (by kernel_rfl) (by kernel_rfl) (by kernel_rfl) (fun _ _ _ h => h) (.inl ⟨by kernel_rfl, fun w _ => by go_simp⟩) hS ?_
  refine takeH 2 (.pointer (some ⟨g, 1, none⟩)) (some 10) rfl rfl (by kernel_rfl) (by kernel_rfl) (by kernel_rfl) (fun _ _ _ h => h) (.inl ⟨by kernel_rfl, fun w _ => by go_simp⟩) hS ?_
  refine takeH 3 (.map (some gm)) (some 11) rfl rfl (by kernel_rfl) (by kernel_rfl) (by kernel_rfl) (fun _ _ _ h => h) (.inl ⟨by kernel_rfl, fun w hw => by have hc := (fun w hw => (HT.out.keep hw).c1) w hw; go_simp⟩) hS ?_
  refine takeH 4 (.agg #[.int .u8 p.1, .int .u16 p.2]) (some 12) rfl rfl (by kernel_rfl) (by kernel_rfl) (by kernel_rfl) (fun _ _ _ h => h) (yi_piece (by kernel_rfl) 110 _ rfl G 0 (by go_simp) #[.int .u8 p.1, .int .u16 p.2] _ (fun w hw j v hv => by rw [Nat.zero_add, rowcell (bkeep hw HP.out)]; simpa using hv) Try.underlying110 rfl (by kernel_rfl)) hS ?_
  refine takeH 5 (.tuple #[.agg X, .bool b]) (some 13) rfl rfl (by kernel_rfl) (by kernel_rfl) (by kernel_rfl) (fun _ _ _ h => h) (.inl ⟨by kernel_rfl, fun w hw => by rw [HX.out, HBB.out, ← lk_page]; exact (HT.out.keep hw).mp.exec_lookup keyedFrame markV_inj Try.underlying131 pageZ _ _ true rfl (by go_simp) p (by go_simp; try rfl) HL.out⟩) hS ?_
  refine takeH 6 (.tuple #[.agg X, .bool b]) (some 7) rfl rfl (by kernel_rfl) (by kernel_rfl) (by kernel_rfl) (fun _ _ _ h => h) (.inl ⟨by kernel_rfl, fun w _ => by go_simp⟩) hS ?_
  refine takeH 7 (.agg X) (some 14) rfl rfl (by kernel_rfl) (by kernel_rfl) (by kernel_rfl) (fun _ _ _ h => h) (.inl ⟨by kernel_rfl, fun w _ => by go_simp⟩) hS ?_
  refine takeH 8 (.bool b) (some 15) rfl rfl (by kernel_rfl) (by kernel_rfl) (by kernel_rfl) (fun _ _ _ h => h) (.inl ⟨by kernel_rfl, fun w _ => by go_simp⟩) hS ?_
  refine runH 9 _ (some 5) rfl (by kernel_rfl) (by kernel_rfl) rfl (exec_alloc 130 rfl (.agg z) (by rw [HZ.out]; exact pageZ)) (hS.alloc hS.size _) ?_
  have hN := heap_alloc_last (World.drew w1) (.cells z 130)
  have hSN := hS.alloc hS.size (.cells z 130)
  refine storeWholeH 10 rfl (by kernel_rfl) (by kernel_rfl) rfl 130 _ _ rfl X z 130 (by go_simp) (by go_simp) (by rw [HXS.out]; kernel_rfl) hN (by rw [HXS.out, HZS.out]) (by rw [HX.out]; exact page_one _) (fun w3 h3 o3 => ⟨bone hSN o3 (Nat.le_refl _) hSN.size, ?_⟩)
  have hS3 := bone hSN o3 (Nat.le_refl _) hSN.size
  refine takeH 11 (.bool b) (some 6) rfl rfl (by kernel_rfl) (by kernel_rfl) (by kernel_rfl) (fun _ _ _ h => h) (.inl ⟨by kernel_rfl, fun w _ => by go_simp⟩) hS3 ?_

  refine wpAnyH_done (by kernel_rfl) ?_ _
  go_simp
  go_wp2_with fail
  go_ret
  exact ⟨rfl, by rw [HG.out]; exact HB.out.trans (hS3.mono (by have := HB.out.size; rw [HG.out] at this; exact this))⟩
end
end Go.Proofs.Ytapcbfeifeobhaa
