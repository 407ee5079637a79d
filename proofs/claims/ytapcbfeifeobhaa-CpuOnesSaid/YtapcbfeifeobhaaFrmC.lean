/- Pages: Give, Byte, Set, Copy, Used, Room. -/
import Derived.Test.YtapcbfeifeobhaaFrmB
set_option linter.unusedVariables false
set_option linter.unusedSimpArgs false
namespace Go.Proofs.Ytapcbfeifeobhaa
open Go.RowKit
open Go.Maps (Keyed)

section
variable {w0 w : World} {g gm : Nat} {a : Option Addr} {us : Nat → Nat} {F : Nat × Nat → Option (Nat → Nat)} {rs : List RegL}
set_option maxRecDepth 20000 in
set_option maxHeartbeats 4000000 in
theorem frameGive_nil (w : World) (p : Nat × Nat) : Calls Try.prog 51 #[.pointer none, markV p] w fun e w' => e = .returned (.int .i64 1) ∧ Below w.heap.size w w' := by
  unfold markV
  go_enter Try.func51, Try.ntmps51
  go_wp2_with fail
  go_ret
  exact ⟨rfl, bnew _ _⟩
set_option maxRecDepth 20000 in
set_option maxHeartbeats 4000000 in
theorem frameGive_none (h : FP w g gm a us F) (p : Nat × Nat) (h1 : p.1 ≤ 255) (h2 : p.2 ≤ 65535) (hF : F p = none) :
    Calls Try.prog 51 #[.pointer (some ⟨g, 0, none⟩), markV p] w fun e w' => e = .returned (.int .i64 3) ∧ Below w.heap.size w w' := by
  have hbn := bnew w (.cells #[.int .u8 p.1, .int .u16 p.2] 110)
  have HT := Lib.hid (h.keep hbn)
  have HB := Lib.hid hbn
  have HF := Lib.hid hF
  clear h hbn hF
  unfold markV
  go_enter Try.func51, Try.ntmps51
  go_wp2_with fail
  refine (frameHas_in HT.out p h1 h2).mono ?_
  rintro e w2 ⟨rfl, hb2⟩
  rw [HF.out]
  have HB2 := Lib.hid (bnext HB.out hb2)
  clear hb2
  go_wp2_with fail
  go_ret
  exact ⟨rfl, HB2.out⟩
set_option maxRecDepth 20000 in
set_option maxHeartbeats 4000000 in
theorem frameGive_ok (h : FP w g gm a us F) (p : Nat × Nat) (h1 : p.1 < 64) (h2 : p.2 ≤ 65535) (hF : (F p).isSome = true) (hu : 0 < us p.1) (hu2 : us p.1 < 65536) :
    Calls Try.prog 51 #[.pointer (some ⟨g, 0, none⟩), markV p] w fun e w' => e = .returned (.int .i64 0) ∧ FP w' g gm a (setN us p.1 (us p.1 - 1)) (delF F p) ∧ Duo w w' g gm := by
  have hbn := bnew w (.cells #[.int .u8 p.1, .int .u16 p.2] 110)
  have hl := heap_alloc_last w (.cells #[.int .u8 p.1, .int .u16 p.2] 110)
  have HT := Lib.hid (h.keep hbn)
  have HB := Lib.hid hbn
  have HL := Lib.hid hl
  have HF := Lib.hid hF
  have HX := Lib.hid (show g < w.heap.size ∧ gm < w.heap.size from ⟨h.row.lt, h.mp.lt⟩)
  obtain ⟨l, hkey⟩ := key_frame p (by omega) h2
  have HK := Lib.hid hkey
  clear h hbn hF hl hkey
  unfold markV
  go_enter Try.func51, Try.ntmps51
  go_wp2_with fail
  generalize hG : w.heap.size = G at *
  generalize w.alloc (.cells #[.int .u8 p.1, .int .u16 p.2] 110) = w1 at *
  have HG := Lib.hid hG
  clear hG
  refine (frameHas_in HT.out p (by omega) h2).mono ?_
  rintro e w2 ⟨rfl, hb2⟩
  rw [HF.out]
  have HB2 := Lib.hid hb2
  have HL2 := Lib.hid (bkeep hb2 HL.out)
  have HT2 := Lib.hid (HT.out.keep hb2)
  clear hb2
  have c1 := rowcell HL2.out
  have c2 := HT2.out.c1
  go_wp2_with fail
  refine wp_region_still_tail 5 (by kernel_rfl) (by kernel_rfl) ?_
  simp only [List.take_succ_cons, List.take_zero, List.drop_succ_cons, List.drop_zero]
  change wpStill _ _ (World.drew w2) _ _ _
  iterate 5 still_step
  refine wpStill_nil ?_
  change wpList _ _ _ _ _ (World.drew w2)
  refine wpList_delete_mk (by kernel_rfl) none rfl (HT2.out.keep (drewb w2)).mp keyedFrame markV_inj Try.underlying131 _ _ rfl (by go_simp) p (by go_simp; try rfl) HK.out ?_
  intro w3 hmk o3
  have HT3 := Lib.hid ((HT2.out.keep (drewb w2)).setMap o3 hmk)
  have o3' : One w2 w3 (some gm) := ⟨o3.os, o3.tape, o3.output, o3.size, o3.block⟩
  have hl3 := o3'.blk HL2.out (fun e => by have := HX.out; cases e; omega)
  have HO3 := Lib.hid o3'
  clear c1 c2 o3 o3' hmk
  have c1 := rowcell hl3
  have c2 := HT3.out.cu h1
  have c3 := HT3.out.frz
  have c4 : IntKind.i64.wrap ((us p.1 : Int) - 1) = (us p.1 : Int) - 1 := by simp [IntKind.wrap, IntKind.bits, IntKind.signed]; omega
  have c5 : (p.1 : Int) < 64 := by omega
  clear hl3
  go_wp2_with fail
  refine wp_region_still_tail 11 (by kernel_rfl) (by kernel_rfl) ?_
  simp only [List.take_succ_cons, List.take_zero, List.drop_succ_cons, List.drop_zero]
  change wpStill _ _ (World.drew w3) _ _ _
  iterate 11 still_step
  refine wpStill_nil ?_
  change wpList _ _ _ _ _ (World.drew w3)
  go_wp2_with fail
  go_ret
  have hA := HT3.out.setUs p.1 (us p.1 - 1) h1
  rw [show ((us p.1 - 1 : Nat) : Int) = (us p.1 : Int) - 1 by omega] at hA
  have oA := one_setCell w3 g (2 + p.1) (.int .i64 ((us p.1 : Int) - 1))
  exact ⟨rfl, hA.keep (drewb _), (((Duo.of_below (by rw [HG.out]; exact HB.out.trans (HB2.out.mono (by have := HB.out.size; rw [HG.out] at this; exact this)))).trans (Duo.of_one' HO3.out)).trans (Duo.of_one oA)).trans (Duo.of_below (drewb _))⟩

theorem frameIndex (f : Nat → Nat) (X : Array Value) (hX : X = pageA f) (n : Nat) (hn : n < 64) (w : World) : (Instr.index 130 (.agg X) (.int .i64 n)).run Try.prog w = .ok (.int .u8 (f n)) w :=
  run_index_arr Try.underlying130 (by kernel_rfl) (fun w => by kernel_rfl) X (by rw [hX]; simp [pageA, rowArr, hn]) hn w
set_option maxRecDepth 20000 in
set_option maxHeartbeats 4000000 in
theorem frameByte_nil (w : World) (p : Nat × Nat) (i : Int) : Calls Try.prog 49 #[.pointer none, markV p, .int .i64 i] w fun e w' => e = .returned (.tuple #[.int .u8 0, .bool false]) ∧ Below w.heap.size w w' := by
  unfold markV
  go_enter Try.func49, Try.ntmps49
  go_wp2_with fail
  go_ret2
  exact ⟨rfl, bnew _ _⟩
set_option maxRecDepth 20000 in
set_option maxHeartbeats 4000000 in
theorem frameByte_no (h : FP w g gm a us F) (p : Nat × Nat) (h1 : p.1 ≤ 255) (h2 : p.2 ≤ 65535) (i : Int) (hF : (F p).isSome = false ∨ i < 0 ∨ 64 ≤ i) :
    Calls Try.prog 49 #[.pointer (some ⟨g, 0, none⟩), markV p, .int .i64 i] w fun e w' => e = .returned (.tuple #[.int .u8 0, .bool false]) ∧ Below w.heap.size w w' := by
  have hbn := bnew w (.cells #[.int .u8 p.1, .int .u16 p.2] 110)
  have HT := Lib.hid (h.keep hbn)
  have HB := Lib.hid hbn
  have HF := Lib.hid hF
  clear h hbn hF
  unfold markV
  go_enter Try.func49, Try.ntmps49
  go_wp2_with fail
  refine (frameHas_in HT.out p h1 h2).mono ?_
  rintro e w2 ⟨rfl, hb2⟩
  have HB2 := Lib.hid (bnext HB.out hb2)
  clear hb2
  cases hs : (F p).isSome with
  | false =>
    clear hs
    go_wp2_with fail
    go_ret2
    exact ⟨rfl, HB2.out⟩
  | true =>
    have hi : i < 0 ∨ 64 ≤ i := by
      rcases HF.out with h | h
      · rw [hs] at h; cases h
      · exact h
    clear hs HF
    by_cases h0 : i < 0
    · clear hi
      go_wp2_with fail
      go_ret2
      exact ⟨rfl, HB2.out⟩
    · have h64 : 64 ≤ i := by omega
      clear hi
      go_wp2_with fail
      go_ret2
      exact ⟨rfl, HB2.out⟩
set_option maxRecDepth 20000 in
set_option maxHeartbeats 4000000 in
theorem frameByte_yes (h : FP w g gm a us F) (p : Nat × Nat) (h1 : p.1 ≤ 255) (h2 : p.2 ≤ 65535) (n : Nat) (hn : n < 64) (f : Nat → Nat) (hF : F p = some f) :
    Calls Try.prog 49 #[.pointer (some ⟨g, 0, none⟩), markV p, .int .i64 n] w fun e w' => e = .returned (.tuple #[.int .u8 (f n), .bool true]) ∧ Below w.heap.size w w' := by
  have hbn := bnew w (.cells #[.int .u8 p.1, .int .u16 p.2] 110)
  have hl := heap_alloc_last w (.cells #[.int .u8 p.1, .int .u16 p.2] 110)
  have HT := Lib.hid (h.keep hbn)
  have HB := Lib.hid hbn
  have HL := Lib.hid hl
  have HF := Lib.hid hF
  obtain ⟨l, hkey⟩ := key_frame p (by omega) h2
  have HK := Lib.hid hkey
  obtain ⟨X, hX⟩ : ∃ X, X = pageA f := ⟨_, rfl⟩
  have HX := Lib.hid hX
  clear h hbn hF hl hkey hX
  unfold markV
  go_enter Try.func49, Try.ntmps49
  go_wp2_with fail
  generalize hG : w.heap.size = G at *
  generalize w.alloc (.cells #[.int .u8 p.1, .int .u16 p.2] 110) = w1 at *
  have HG := Lib.hid hG
  clear hG
  refine (frameHas_in HT.out p (by omega) h2).mono ?_
  rintro e w2 ⟨rfl, hb2⟩
  rw [HF.out]
  have HB2 := Lib.hid hb2
  have HL2 := Lib.hid (bkeep hb2 HL.out)
  have HT2 := Lib.hid (HT.out.keep hb2)
  clear hb2
  have c1 := rowcell HL2.out
  have c2 := HT2.out.c1
  have c5 : ¬ ((n : Int) < 0) := by omega
  have c6 : ¬ (64 ≤ (n : Int)) := by omega
  have c7 := frameIndex f X HX.out n hn
  go_wp2_with fail
  refine wp_region_still_lit (by kernel_rfl) (by kernel_rfl) ?_
  change wpStill _ _ (World.drew w2) _ _ _
  iterate 5 still_step
  refine still_lookup (by kernel_rfl) (some 29) rfl (HT2.out.keep (drewb w2)).mp keyedFrame markV_inj Try.underlying131 pageZ _ _ false rfl (by go_simp) p (by go_simp; try rfl) HK.out (.agg X) (by rw [HF.out, HX.out]; rfl) ?_
  iterate 4 still_step
  refine wpStill_nil ?_
  go_simp
  go_wp2_with fail
  go_ret2
  exact ⟨rfl, by rw [HG.out]; exact (HB.out.trans (HB2.out.mono (by have := HB.out.size; rw [HG.out] at this; exact this))).trans ((drewb w2).mono (by have := HB.out.size; have := HB2.out.size; rw [HG.out] at *; omega))⟩
end
end Go.Proofs.Ytapcbfeifeobhaa
