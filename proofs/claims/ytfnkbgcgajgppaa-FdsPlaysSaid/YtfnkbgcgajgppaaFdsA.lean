/- Open things: New, has, Used; of nil ones. -/
import Derived.Test.YtfnkbgcgajgppaaTabA
set_option linter.unusedVariables false
set_option linter.unusedSimpArgs false
namespace Go.Proofs.Ytfnkbgcgajgppaa
open Go.RowKit
open Go.Maps (Keyed)

/-- What stands in an open thing's cells. -/
def okO (O : Array Value) : Prop := O.size = 14 ∧ ∀ v ∈ O.toList, v.oneCell' = true
def entA (x : Array Value × Nat) : Array Value := x.1.push (.int .i64 x.2)
def entV (x : Array Value × Nat) : Value := .agg (entA x)
def openZ : Array Value := #[.int .u8 0, .int .u8 0, .int .u16 0, .int .u16 0, .bool false, .int .u8 0, .int .u16 0, .int .u16 0, .int .i64 0, .int .i64 0, .bool false, .bool false, .bool false, .string ⟨#[]⟩]
theorem openZ_ok : okO openZ := ⟨rfl, List.all_eq_true.1 (by rfl)⟩
theorem entA_size {x : Array Value × Nat} (h : okO x.1) : (entA x).size = 15 := by simp [entA, h.1]
theorem entA_one {x : Array Value × Nat} (h : okO x.1) : ∀ v ∈ (entA x).toList, v.oneCell' = true := by
  intro v hv
  simp only [entA, Array.toList_push, List.mem_append, List.mem_singleton] at hv
  rcases hv with hv | rfl
  · exact h.2 v hv
  · rfl
theorem keyedId : Keyed Try.prog 69 := Keyed.of_law (deep_law_laid laidOut (m := 2) (by omega) (of_decide_eq_true (by kernel_rfl)) (by kernel_rfl) (by kernel_rfl))
theorem key_id (p : Nat × Nat) (h1 : p.1 ≤ 255) (h2 : p.2 ≤ 65535) : ∃ l, keyOf Try.prog 69 (markV p) = some l :=
  key_pair (by kernel_rfl) (by kernel_rfl) ⟨_, Try.underlying69, by kernel_rfl, by kernel_rfl⟩ p h1 h2
theorem entZ : (Try.prog.info? 155).bind (·.zero) = some (entV (openZ, 0)) := by kernel_rfl
abbrev TP (w : World) (g gm : Nat) (a : Option Addr) (us : Nat → Nat) (F : Nat × Nat → Option (Array Value × Nat)) : Prop := PT 153 69 entV w g gm a us F
/-- All that are open are well formed. -/
def OkF (F : Nat × Nat → Option (Array Value × Nat)) : Prop := ∀ p x, F p = some x → okO x.1
theorem OkF.nil : OkF fun _ => none := fun p x h => by cases h
theorem OkF.put {F : Nat × Nat → Option (Array Value × Nat)} (h : OkF F) (p : Nat × Nat) (x : Array Value × Nat) (hx : okO x.1) : OkF (putF F p x) := by
  intro q y hy
  unfold putF at hy
  split at hy
  · cases hy; exact hx
  · exact h q y hy
theorem OkF.del {F : Nat × Nat → Option (Array Value × Nat)} (h : OkF F) (p : Nat × Nat) : OkF (delF F p) := by
  intro q y hy
  unfold delF at hy
  split at hy
  · cases hy
  · exact h q y hy
def entOr (x : Option (Array Value × Nat)) : Array Value := entA (x.getD (openZ, 0))
theorem entOr_ok {F : Nat × Nat → Option (Array Value × Nat)} (h : OkF F) (p : Nat × Nat) : (entOr (F p)).size = 15 ∧ ∀ v ∈ (entOr (F p)).toList, v.oneCell' = true := by
  unfold entOr
  cases hf : F p with
  | none => exact ⟨entA_size openZ_ok, entA_one openZ_ok⟩
  | some x => exact ⟨entA_size (h p x hf), entA_one (h p x hf)⟩
theorem lk_ent (x : Option (Array Value × Nat)) : lkV entV (entV (openZ, 0)) true x = .tuple #[.agg (entOr x), .bool x.isSome] := by cases x <;> rfl
theorem lk_ent1 (x : Option (Array Value × Nat)) : lkV entV (entV (openZ, 0)) false x = .agg (entOr x) := by cases x <;> rfl

set_option maxRecDepth 20000 in
set_option maxHeartbeats 4000000 in
theorem fdsNew_in (w : World) (a : Addr) : Calls Try.prog 29 #[.pointer (some a)] w fun e w' => ∃ g gm, e = .returned (.pointer (some ⟨g, 0, none⟩)) ∧ w.heap.size ≤ g ∧ w.heap.size ≤ gm ∧ TP w' g gm (some a) (fun _ => 0) (fun _ => none) ∧ Below w.heap.size w w' := by
  have hmm := @run_makeMap Try.prog
  obtain ⟨X, hX⟩ : ∃ X, X = rowArr 66 (tabF (some a) w.heap.size (fun _ => 0)) := ⟨_, rfl⟩
  have HX := Lib.hid hX
  clear hX
  go_enter Try.func29, Try.ntmps29
  go_wp2_with (refine wpList_buildTo rfl 153 _ rfl (some 7) rfl X ?hf ?_; case hf => (rw [HX.out]; kernel_rfl))
  go_ret
  refine ⟨_, w.heap.size, rfl, by simp, by simp, ⟨?_, ?_⟩, bnewAfter (bnew _ _) _⟩
  · refine rowIs_of_arr ?_
    rw [← HX.out]
    have := heap_alloc_last (w.alloc (.map #[] 0)) (.cells X 153)
    rw [World.size_alloc] at this
    exact this
  · exact (MK.made (κ := Nat × Nat) (P := Try.prog) (k := 69) (kv := markV) (vv := entV) w).keep (bnew _ _)
theorem fdsNew_nil (w : World) : Calls Try.prog 29 #[.pointer none] w fun e w' => e = .returned (.pointer none) ∧ w = w' := by
  go_enter Try.func29, Try.ntmps29
  go_wp2_with fail
  go_ret
  exact ⟨rfl, rfl⟩
set_option maxHeartbeats 4000000 in
theorem fdsHas_nil (w : World) (p : Nat × Nat) : Calls Try.prog 67 #[.pointer none, markV p] w fun e w' => e = .returned (.bool false) ∧ Below w.heap.size w w' := by
  unfold markV
  go_enter Try.func67, Try.ntmps67
  go_wp2_with fail
  go_ret
  exact ⟨rfl, bnew _ _⟩

section
variable {w : World} {g gm : Nat} {a : Option Addr} {us : Nat → Nat} {F : Nat × Nat → Option (Array Value × Nat)}
set_option maxRecDepth 20000 in
set_option maxHeartbeats 4000000 in
theorem fdsHas_in (h : TP w g gm a us F) (ok : OkF F) (p : Nat × Nat) (h1 : p.1 ≤ 255) (h2 : p.2 ≤ 65535) :
    Calls Try.prog 67 #[.pointer (some ⟨g, 0, none⟩), markV p] w fun e w' => e = .returned (.bool (F p).isSome) ∧ Below w.heap.size w w' := by
  obtain ⟨l, hl⟩ := key_id p h1 h2
  have HL := Lib.hid hl
  have hb := bnew w (.cells #[.int .u8 p.1, .int .u16 p.2] 69)
  have hp := heap_alloc_last w (.cells #[.int .u8 p.1, .int .u16 p.2] 69)
  have HT := Lib.hid (h.keep hb)
  have HB := Lib.hid hb
  have HP := Lib.hid hp
  obtain ⟨X, hX⟩ : ∃ X, X = entOr (F p) := ⟨_, rfl⟩
  have HX := Lib.hid hX
  obtain ⟨z, hz⟩ : ∃ z, z = entA (openZ, 0) := ⟨_, rfl⟩
  have HZ := Lib.hid hz
  have HXS := Lib.hid (show X.size = 15 by rw [hX]; exact (entOr_ok ok p).1)
  have HXO := Lib.hid (show ∀ v ∈ X.toList, v.oneCell' = true by rw [hX]; exact (entOr_ok ok p).2)
  have HZS := Lib.hid (show z.size = 15 by rw [hz]; rfl)
  obtain ⟨b, hbb⟩ : ∃ b, b = (F p).isSome := ⟨_, rfl⟩
  have HBB := Lib.hid hbb
  rw [← hbb]
  unfold markV
  clear h hl hb hp hX hz hbb ok
  go_enter Try.func67, Try.ntmps67
  go_wp2_with fail
  generalize hG : w.heap.size = G at *
  generalize w.alloc (.cells #[.int .u8 p.1, .int .u16 p.2] 69) = w1 at *
  have HG := Lib.hid hG
  clear hG
  refine wp_region_held (S := fun w' => Below w1.heap.size w1 w') (by kernel_rfl) ?_
  change wpAnyH _ _ _ _ _ _ _ _ (World.drew _)
  have hS := drewb w1

  refine takeH 0 (.pointer (some ⟨g, 0, none⟩)) (some 10) rfl rfl (by kernel_rfl) (by kernel_rfl) (by kernel_rfl) (fun _ _ _ h => h) (.inl ⟨by kernel_rfl, fun w _ => by go_simp⟩) hS ?_
  refine takeH 1 (.pointer (some ⟨g, 0, none⟩)) (some 11) rfl rfl (by kernel_rfl) (by kernel_rfl) (by kernel_rfl) (fun _ _ _ h => h) (.inl ⟨by kernel_rfl, fun w _ => by go_simp⟩) hS ?_
  refine takeH 2 (.pointer (some ⟨g, 1, none⟩)) (some 12) rfl rfl (by kernel_rfl) (by kernel_rfl) (by kernel_rfl) (fun _ _ _ h => h) (.inl ⟨by kernel_rfl, fun w _ => by go_simp⟩) hS ?_
  refine takeH 3 (.map (some gm)) (some 13) rfl rfl (by kernel_rfl) (by kernel_rfl) (by kernel_rfl) (fun _ _ _ h => h) (.inl ⟨by kernel_rfl, fun w hw => by have hc := (fun w hw => (HT.out.keep hw).c1) w hw; go_simp⟩) hS ?_
  refine takeH 4 (.agg #[.int .u8 p.1, .int .u16 p.2]) (some 14) rfl rfl (by kernel_rfl) (by kernel_rfl) (by kernel_rfl) (fun _ _ _ h => h) (yi_piece (by kernel_rfl) 69 _ rfl G 0 (by go_simp) #[.int .u8 p.1, .int .u16 p.2] _ (fun w hw j v hv => by rw [Nat.zero_add, rowcell (bkeep hw HP.out)]; simpa using hv) Try.underlying69 rfl (by kernel_rfl)) hS ?_
  refine takeH 5 (.tuple #[.agg X, .bool b]) (some 15) rfl rfl (by kernel_rfl) (by kernel_rfl) (by kernel_rfl) (fun _ _ _ h => h) (.inl ⟨by kernel_rfl, fun w hw => by rw [HX.out, HBB.out, ← lk_ent]; exact (HT.out.keep hw).mp.exec_lookup keyedId markV_inj Try.underlying150 entZ _ _ true rfl (by go_simp) p (by go_simp; try rfl) HL.out⟩) hS ?_
  refine takeH 6 (.tuple #[.agg X, .bool b]) (some 9) rfl rfl (by kernel_rfl) (by kernel_rfl) (by kernel_rfl) (fun _ _ _ h => h) (.inl ⟨by kernel_rfl, fun w _ => by go_simp⟩) hS ?_
  refine takeH 7 (.agg X) (some 16) rfl rfl (by kernel_rfl) (by kernel_rfl) (by kernel_rfl) (fun _ _ _ h => h) (.inl ⟨by kernel_rfl, fun w _ => by go_simp⟩) hS ?_
  refine takeH 8 (.bool b) (some 17) rfl rfl (by kernel_rfl) (by kernel_rfl) (by kernel_rfl) (fun _ _ _ h => h) (.inl ⟨by kernel_rfl, fun w _ => by go_simp⟩) hS ?_
  refine runH 9 _ (some 5) rfl (by kernel_rfl) (by kernel_rfl) rfl (exec_alloc 155 rfl (.agg z) (by rw [HZ.out]; exact entZ)) (hS.alloc hS.size _) ?_
  have hN := heap_alloc_last (World.drew w1) (.cells z 155)
  have hSN := hS.alloc hS.size (.cells z 155)
  refine storeWholeH 10 rfl (by kernel_rfl) (by kernel_rfl) rfl 155 _ _ rfl X z 155 (by go_simp) (by go_simp) (by rw [HXS.out]; kernel_rfl) hN (by rw [HXS.out, HZS.out]) HXO.out (fun w3 h3 o3 => ⟨bone hSN o3 (Nat.le_refl _) hSN.size, ?_⟩)
  have hS3 := bone hSN o3 (Nat.le_refl _) hSN.size
  refine takeH 11 (.bool b) (some 6) rfl rfl (by kernel_rfl) (by kernel_rfl) (by kernel_rfl) (fun _ _ _ h => h) (.inl ⟨by kernel_rfl, fun w _ => by go_simp⟩) hS3 ?_

  refine wpAnyH_done (by kernel_rfl) ?_ _
  go_simp
  go_wp2_with fail
  go_ret
  exact ⟨rfl, by rw [HG.out]; exact HB.out.trans (hS3.mono (by have := HB.out.size; rw [HG.out] at this; exact this))⟩

set_option maxHeartbeats 4000000 in
theorem fdsUsed_nil (w : World) (i : Int) : Calls Try.prog 32 #[.pointer none, .int .i64 i] w fun e w' => e = .returned (.int .i64 0) ∧ w = w' := by
  go_enter Try.func32, Try.ntmps32
  go_wp2_with fail
  go_ret
  exact ⟨rfl, rfl⟩
set_option maxHeartbeats 4000000 in
theorem fdsUsed_in (h : TP w g gm a us F) (k : Nat) (hk : k < 64) : Calls Try.prog 32 #[.pointer (some ⟨g, 0, none⟩), .int .i64 k] w fun e w' => e = .returned (.int .i64 (us k)) ∧ w = w' := by
  have c1 := h.cu hk
  have c5 : ¬ ((k : Int) < 0) := by omega
  have c6 : ¬ (64 ≤ (k : Int)) := by omega
  clear h
  go_enter Try.func32, Try.ntmps32
  go_wp2_with fail
  go_ret
  exact ⟨rfl, rfl⟩
set_option maxHeartbeats 4000000 in
theorem fdsRefs_nil (w : World) (p : Nat × Nat) : Calls Try.prog 51 #[.pointer none, markV p] w fun e w' => e = .returned (.int .i64 0) ∧ Below w.heap.size w w' := by
  have hb := bnew w (.cells #[.int .u8 p.1, .int .u16 p.2] 69)
  have HP := Lib.hid (heap_alloc_last w (.cells #[.int .u8 p.1, .int .u16 p.2] 69))
  have HB := Lib.hid hb
  have c1 := rowcell HP.out
  clear hb
  unfold markV
  go_enter Try.func51, Try.ntmps51
  go_wp2_with fail
  refine (fdsHas_nil _ p).mono ?_; rintro e w2 ⟨rfl, hb2⟩
  have HB2 := Lib.hid (bnext HB.out hb2)
  clear hb2 c1
  go_wp2_with fail
  go_ret
  exact ⟨rfl, HB2.out⟩
set_option maxHeartbeats 4000000 in
theorem fdsShare_nil (w : World) (p : Nat × Nat) : Calls Try.prog 46 #[.pointer none, markV p] w fun e w' => e = .returned (.bool false) ∧ Below w.heap.size w w' := by
  have hb := bnew w (.cells #[.int .u8 p.1, .int .u16 p.2] 69)
  have HP := Lib.hid (heap_alloc_last w (.cells #[.int .u8 p.1, .int .u16 p.2] 69))
  have HB := Lib.hid hb
  have c1 := rowcell HP.out
  clear hb
  unfold markV
  go_enter Try.func46, Try.ntmps46
  go_wp2_with fail
  refine (fdsHas_nil _ p).mono ?_; rintro e w2 ⟨rfl, hb2⟩
  have HB2 := Lib.hid (bnext HB.out hb2)
  clear hb2 c1
  go_wp2_with fail
  go_ret
  exact ⟨rfl, HB2.out⟩
set_option maxHeartbeats 4000000 in
theorem fdsSeek_nil (w : World) (p : Nat × Nat) (i : Int) : Calls Try.prog 48 #[.pointer none, markV p, .int .i64 i] w fun e w' => e = .returned (.tuple #[]) ∧ Below w.heap.size w w' := by
  have hb := bnew w (.cells #[.int .u8 p.1, .int .u16 p.2] 69)
  have HP := Lib.hid (heap_alloc_last w (.cells #[.int .u8 p.1, .int .u16 p.2] 69))
  have HB := Lib.hid hb
  have c1 := rowcell HP.out
  clear hb
  unfold markV
  go_enter Try.func48, Try.ntmps48
  go_wp2_with fail
  refine (fdsHas_nil _ p).mono ?_; rintro e w2 ⟨rfl, hb2⟩
  have HB2 := Lib.hid (bnext HB.out hb2)
  clear hb2 c1
  go_wp2_with fail
  go_end0
  exact ⟨rfl, HB2.out⟩
/-- The run of a load of an open thing. -/
theorem openLoad (w : World) (x : Nat) (O : Array Value) (hO : O.size = 14) (h : w.heap[x]? = some (.cells O 78 (0, 0))) : (loadVar 78 ⟨x, 0, none⟩).run Try.prog w = .ok (.agg O) w :=
  run_loadVar_piece w 78 x 0 O _ (fun j v hv => by rw [Nat.zero_add, rowcell h]; simpa using hv) Try.underlying78 rfl (by rw [hO]; kernel_rfl)
end
end Go.Proofs.Ytfnkbgcgajgppaa
