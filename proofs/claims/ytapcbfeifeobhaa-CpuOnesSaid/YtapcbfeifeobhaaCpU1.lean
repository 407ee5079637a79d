/- cpu.plain: ldi. cpu.plain: mov; ext. cpu.plain: lds. cpu.plain: lui. -/
import Derived.Test.YtapcbfeifeobhaaCpuE
set_option linter.unusedVariables false
set_option linter.unusedSimpArgs false
namespace Go.Proofs.Ytapcbfeifeobhaa
open Go.RowKit
set_option maxRecDepth 20000 in
set_option maxHeartbeats 8000000 in
theorem plain_2 {w : World} {gx : Nat} {s : Mach} (h : w.rowIs gx 36 17 (stV s)) (x y z : Nat) (hx : x < 16) (hy : y ≤ 255) (hz : z ≤ 255) (vx vy nx : Int) (v0 : 0 ≤ vx) (v1 : vx ≤ 4294967295) (y0 : 0 ≤ vy) (y1 : vy ≤ 4294967295) (n0 : 0 ≤ nx) (n1 : nx ≤ 4294967295) :
    Calls Try.prog 45 #[.pointer (some ⟨gx, 0, none⟩), .agg #[.int .u8 (2 : Nat), .int .u8 x, .int .u8 y, .int .u8 z], .int .u32 vx, .int .u32 vy, .int .u32 nx] w (PlainP gx s 2 x y z vx vy nx w) := by
  have hb1 := bnew w (.cells #[.int .u8 (2 : Nat), .int .u8 x, .int .u8 y, .int .u8 z] 24)
  have hl1 := heap_alloc_last w (.cells #[.int .u8 (2 : Nat), .int .u8 x, .int .u8 y, .int .u8 z] 24)
  have hc := rowcell hl1
  have HB1 := Lib.hid hb1
  have HL1 := Lib.hid hl1
  have HR1 := Lib.hid (h.of_block (hb1.block gx h.lt))
  have HJ := Lib.hid (fun w => opsJump_any ((2 : Nat) : Int) x y z (by omega) (by omega) (by omega) (by omega) w)
  obtain ⟨jj, hj⟩ : ∃ jj, jj = jump ((y : Int) + 256 * z) := ⟨_, rfl⟩
  rw [← hj] at HJ
  have hj0 : -32768 ≤ jj ∧ jj ≤ 32767 := by rw [hj]; unfold jump; split <;> omega
  have HJJ := Lib.hid hj
  have HG := Lib.hid h.lt
  clear hb1 hl1 hj h
  go_enter Try.func45, Try.ntmps45
  go_wp2_with fail
  obtain ⟨N, hN⟩ : ∃ N, N = w.heap.size := ⟨_, rfl⟩
  rw [← hN] at hc ⊢
  have HN := Lib.hid hN
  generalize w.alloc (.cells #[.int .u8 (2 : Nat), .int .u8 x, .int .u8 y, .int .u8 z] 24) = w1 at *
  clear hN
  refine (HJ.out _).mono ?_
  rintro e w2 ⟨rfl, hb2⟩
  have hl2 := bkeep hb2 HL1.out
  rw [← HN.out] at hl2
  have hr2 := HR1.out.of_block (hb2.block gx HR1.out.lt)
  have HR2 := Lib.hid hr2
  have HL2 := Lib.hid hl2
  have HB2 := Lib.hid (bnext HB1.out hb2)
  have hc2 := rowcell hl2
  have hxi : (x : Int) < 16 := by omega
  clear hb2 hl2 hc hr2
  obtain ⟨wd, hwd⟩ : ∃ wd, wd = wideI y z := ⟨_, rfl⟩
  have hw0 : 0 ≤ wd ∧ wd ≤ 65535 := by rw [hwd]; unfold wideI; omega
  have HWD := Lib.hid hwd
  have HCA := Lib.hid (fun w => opsWide_any ((2 : Nat) : Int) x y z (by omega) (by omega) (by omega) (by omega) w)
  rw [show ((y : Int) + 256 * z) = wd from hwd.symm] at HCA
  have ewd : IntKind.u32.wrap wd = wd := by rw [IntKind.wrap_u32]; omega
  clear hwd
  have hgN : gx ≠ N := by have := HG.out; have := HN.out; omega
  go_upto_region 18 with fail
  clear hc2
  have hS0 : (fun w' : World => w'.heap[N]? = some (.cells #[.int .u8 (2 : Nat), .int .u8 x, .int .u8 y, .int .u8 z] 24 (0, 0))) (World.drew w2) := HL2.out
  refine wp_region_held (S := fun w' => w'.heap[N]? = some (.cells #[.int .u8 (2 : Nat), .int .u8 x, .int .u8 y, .int .u8 z] 24 (0, 0))) (by kernel_rfl) ?_
  change wpAnyH _ _ _ _ _ _ _ _ (World.drew _)
  refine takeH 0 (.pointer (some ⟨gx, 0, none⟩)) (some 56) rfl rfl (by kernel_rfl) (by kernel_rfl) (by kernel_rfl) (fun _ _ _ h => h) (.inl ⟨by kernel_rfl, fun w' hw => by go_simp⟩) hS0 ?_
  refine takeH 1 (.pointer (some ⟨N, 1, none⟩)) (some 57) rfl rfl (by kernel_rfl) (by kernel_rfl) (by kernel_rfl) (fun _ _ _ h => h) (.inl ⟨by kernel_rfl, fun w' hw => by go_simp⟩) hS0 ?_
  go_simp
  refine takeH 2 (.int .u8 x) (some 58) rfl rfl (by kernel_rfl) (by kernel_rfl) (by kernel_rfl) (fun _ _ _ h => h) (.inl ⟨by kernel_rfl, fun w' hw => by have hc := rowcell hw 1; go_simp⟩) hS0 ?_
  refine takeH 3 (.agg #[.int .u8 (2 : Nat), .int .u8 x, .int .u8 y, .int .u8 z]) (some 59) rfl rfl (by kernel_rfl) (by kernel_rfl) (by kernel_rfl) (fun _ _ _ h => h) (yi_piece (by rfl) 24 (.tmp 6) rfl N 0 (by go_simp) #[.int .u8 (2 : Nat), .int .u8 x, .int .u8 y, .int .u8 z] _ (fun w' hw j v hj => by rw [rowcell hw, Nat.zero_add]; simpa using hj) Try.underlying24 rfl (by kernel_rfl)) hS0 ?_
  go_simp
  refine takeH 6 (.pointer (some ⟨gx, 0, none⟩)) (some 62) rfl rfl (by kernel_rfl) (by kernel_rfl) (by kernel_rfl) (fun _ _ _ h => h) (.inl ⟨by kernel_rfl, fun w' hw => by go_simp⟩) hS0 ?_
  refine takeH 7 (.pointer (some ⟨gx, 0, none⟩)) (some 63) rfl rfl (by kernel_rfl) (by kernel_rfl) (by kernel_rfl) (fun _ _ _ h => h) (.inl ⟨by kernel_rfl, fun w' hw => by go_simp⟩) hS0 ?_
  go_simp
  refine callH 4 rfl (by kernel_rfl) (by kernel_rfl) (some 60) rfl 61 #[.agg #[.int .u8 (2 : Nat), .int .u8 x, .int .u8 y, .int .u8 z]] ?hrun ((HCA.out _).mono ?_)
  case hrun => go_simp
  rintro e w4 ⟨he, hb4⟩
  have hbg : Below w2.heap.size w2 w4 := (drewb w2).trans (hb4.mono (Nat.le_refl _))
  have hS4 := bkeep hb4 hS0
  refine ⟨_, he, hS4, ?_⟩
  go_simp
  refine takeH 5 (.int .u32 wd) (some 61) rfl rfl (by kernel_rfl) (by kernel_rfl) (by kernel_rfl) (fun _ _ _ h => h) (.inl ⟨by kernel_rfl, fun w' hw => by go_simp⟩) hS4 ?_
  refine takeH 8 (.pointer (some ⟨gx, x, none⟩)) (some 64) rfl rfl (by kernel_rfl) (by kernel_rfl) (by kernel_rfl) (fun _ _ _ h => h) (.inl ⟨by kernel_rfl, fun w' hw => by go_simp⟩) hS4 ?_
  go_simp
  have hr4 := HR2.out.of_block (hbg.block gx HR2.out.lt)
  have o4 := one_setCell w4 gx x (.int .u32 (wd))
  have hS5 := o4.blk hS4 (fun e => by cases e; exact hgN rfl)
  refine runSkipH 9 (w' := w4.setCell ⟨gx, x, none⟩ (.int .u32 (wd))) rfl (by kernel_rfl) (by kernel_rfl) rfl (exec_store_cell 25 _ _ rfl gx x (.int .u32 (wd)) (by go_simp) (by go_simp) (by kernel_rfl) (by kernel_rfl) rfl (by rw [hr4.cell (i := x) (by omega)]; rfl) (hr4.frozen x)) hS5 ?_
  refine wpAnyH_done (by kernel_rfl) ?_ _
  go_simp
  have HRS := Lib.hid (row_set hr4 x hx (wd))
  have HCH := Lib.hid (chgOne ((Chg.of_below (fun k => k = gx) HB2.out).trans (Chg.of_below (fun k => k = gx) hbg) (fun _ _ h => h)) o4 (fun x e => .inl (by cases e; rfl)))
  clear hr4 o4 hS0 hS4 hS5 hbg hb4 he
  go_wp2_with fail
  go_ret
  exact ⟨rfl, by rw [show (plainI s 2 x y z vx vy nx).1 = setR s x (wd) from by rw [HWD.out]; rfl]; exact HRS.out, HCH.out⟩
end Go.Proofs.Ytapcbfeifeobhaa

set_option linter.unusedVariables false
set_option linter.unusedSimpArgs false
namespace Go.Proofs.Ytapcbfeifeobhaa
open Go.RowKit
set_option maxRecDepth 20000 in
set_option maxHeartbeats 8000000 in
theorem plain_1 {w : World} {gx : Nat} {s : Mach} (h : w.rowIs gx 36 17 (stV s)) (x y z : Nat) (hx : x < 16) (hy : y ≤ 255) (hz : z ≤ 255) (vx vy nx : Int) (v0 : 0 ≤ vx) (v1 : vx ≤ 4294967295) (y0 : 0 ≤ vy) (y1 : vy ≤ 4294967295) (n0 : 0 ≤ nx) (n1 : nx ≤ 4294967295) :
    Calls Try.prog 45 #[.pointer (some ⟨gx, 0, none⟩), .agg #[.int .u8 (1 : Nat), .int .u8 x, .int .u8 y, .int .u8 z], .int .u32 vx, .int .u32 vy, .int .u32 nx] w (PlainP gx s 1 x y z vx vy nx w) := by
  have hb1 := bnew w (.cells #[.int .u8 (1 : Nat), .int .u8 x, .int .u8 y, .int .u8 z] 24)
  have hl1 := heap_alloc_last w (.cells #[.int .u8 (1 : Nat), .int .u8 x, .int .u8 y, .int .u8 z] 24)
  have hc := rowcell hl1
  have HB1 := Lib.hid hb1
  have HL1 := Lib.hid hl1
  have HR1 := Lib.hid (h.of_block (hb1.block gx h.lt))
  have HJ := Lib.hid (fun w => opsJump_any ((1 : Nat) : Int) x y z (by omega) (by omega) (by omega) (by omega) w)
  obtain ⟨jj, hj⟩ : ∃ jj, jj = jump ((y : Int) + 256 * z) := ⟨_, rfl⟩
  rw [← hj] at HJ
  have hj0 : -32768 ≤ jj ∧ jj ≤ 32767 := by rw [hj]; unfold jump; split <;> omega
  have HJJ := Lib.hid hj
  have HG := Lib.hid h.lt
  clear hb1 hl1 hj h
  go_enter Try.func45, Try.ntmps45
  go_wp2_with fail
  obtain ⟨N, hN⟩ : ∃ N, N = w.heap.size := ⟨_, rfl⟩
  rw [← hN] at hc ⊢
  have HN := Lib.hid hN
  generalize w.alloc (.cells #[.int .u8 (1 : Nat), .int .u8 x, .int .u8 y, .int .u8 z] 24) = w1 at *
  clear hN
  refine (HJ.out _).mono ?_
  rintro e w2 ⟨rfl, hb2⟩
  have hl2 := bkeep hb2 HL1.out
  rw [← HN.out] at hl2
  have hr2 := HR1.out.of_block (hb2.block gx HR1.out.lt)
  have HR2 := Lib.hid hr2
  have HL2 := Lib.hid hl2
  have HB2 := Lib.hid (bnext HB1.out hb2)
  have hc2 := rowcell hl2
  have hxi : (x : Int) < 16 := by omega
  clear hb2 hl2 hc hr2
  go_upto_region 17 with fail
  have hr3 := HR2.out.of_block ((drewb w2).block gx HR2.out.lt)
  have hl3 := bkeep (drewb w2) HL2.out
  have hc3 := rowcell hl3
  have cx : (World.drew w2).cell? ⟨gx, x, none⟩ = some (.int .u32 (s.R x)) := by rw [hr3.cell (i := x) (by omega)]; unfold stV; rw [if_pos hx]
  have cf := hr3.frozen
  clear hc2 hl3
  refine wp_region_still_tail 7 (by kernel_rfl) (by kernel_rfl) ?_
  simp only [List.take_succ_cons, List.take_zero, List.drop_succ_cons, List.drop_zero]
  change wpStill _ _ (World.drew w2) _ _ _
  iterate 7 still_step
  refine wpStill_nil ?_
  change wpList _ _ _ _ _ (World.drew w2)
  go_wp2_with fail
  go_ret
  have o4 := one_setCell (World.drew w2) gx x (.int .u32 (vy))
  exact ⟨rfl, by rw [show (plainI s 1 x y z vx vy nx).1 = setR s x (vy) from rfl]; exact row_set hr3 x hx (vy), chgOne ((Chg.of_below (fun k => k = gx) HB2.out).trans (Chg.of_below (fun k => k = gx) (drewb w2)) (fun _ _ h => h)) o4 (fun x e => .inl (by cases e; rfl))⟩
set_option maxRecDepth 20000 in
set_option maxHeartbeats 8000000 in
theorem plain_36 {w : World} {gx : Nat} {s : Mach} (h : w.rowIs gx 36 17 (stV s)) (x y z : Nat) (hx : x < 16) (hy : y ≤ 255) (hz : z ≤ 255) (hz8 : z = 8 ∨ z = 16) (vx vy nx : Int) (v0 : 0 ≤ vx) (v1 : vx ≤ 4294967295) (y0 : 0 ≤ vy) (y1 : vy ≤ 4294967295) (n0 : 0 ≤ nx) (n1 : nx ≤ 4294967295) :
    Calls Try.prog 45 #[.pointer (some ⟨gx, 0, none⟩), .agg #[.int .u8 (36 : Nat), .int .u8 x, .int .u8 y, .int .u8 z], .int .u32 vx, .int .u32 vy, .int .u32 nx] w (PlainP gx s 36 x y z vx vy nx w) := by
  have hb1 := bnew w (.cells #[.int .u8 (36 : Nat), .int .u8 x, .int .u8 y, .int .u8 z] 24)
  have hl1 := heap_alloc_last w (.cells #[.int .u8 (36 : Nat), .int .u8 x, .int .u8 y, .int .u8 z] 24)
  have hc := rowcell hl1
  have HB1 := Lib.hid hb1
  have HL1 := Lib.hid hl1
  have HR1 := Lib.hid (h.of_block (hb1.block gx h.lt))
  have HJ := Lib.hid (fun w => opsJump_any ((36 : Nat) : Int) x y z (by omega) (by omega) (by omega) (by omega) w)
  obtain ⟨jj, hj⟩ : ∃ jj, jj = jump ((y : Int) + 256 * z) := ⟨_, rfl⟩
  rw [← hj] at HJ
  have hj0 : -32768 ≤ jj ∧ jj ≤ 32767 := by rw [hj]; unfold jump; split <;> omega
  have HJJ := Lib.hid hj
  have HG := Lib.hid h.lt
  clear hb1 hl1 hj h
  go_enter Try.func45, Try.ntmps45
  go_wp2_with fail
  obtain ⟨N, hN⟩ : ∃ N, N = w.heap.size := ⟨_, rfl⟩
  rw [← hN] at hc ⊢
  have HN := Lib.hid hN
  generalize w.alloc (.cells #[.int .u8 (36 : Nat), .int .u8 x, .int .u8 y, .int .u8 z] 24) = w1 at *
  clear hN
  refine (HJ.out _).mono ?_
  rintro e w2 ⟨rfl, hb2⟩
  have hl2 := bkeep hb2 HL1.out
  rw [← HN.out] at hl2
  have hr2 := HR1.out.of_block (hb2.block gx HR1.out.lt)
  have HR2 := Lib.hid hr2
  have HL2 := Lib.hid hl2
  have HB2 := Lib.hid (bnext HB1.out hb2)
  have hc2 := rowcell hl2
  have hxi : (x : Int) < 16 := by omega
  clear hb2 hl2 hc hr2
  rcases hz8 with rfl | rfl
  · go_upto_region 25 with fail
    have hr3 := HR2.out.of_block ((drewb w2).block gx HR2.out.lt)
    have hl3 := bkeep (drewb w2) HL2.out
    have hc3 := rowcell hl3
    have cx : (World.drew w2).cell? ⟨gx, x, none⟩ = some (.int .u32 (s.R x)) := by rw [hr3.cell (i := x) (by omega)]; unfold stV; rw [if_pos hx]
    have cf := hr3.frozen
    clear hc2 hl3
    refine wp_region_still_tail 10 (by kernel_rfl) (by kernel_rfl) ?_
    simp only [List.take_succ_cons, List.take_zero, List.drop_succ_cons, List.drop_zero]
    change wpStill _ _ (World.drew w2) _ _ _
    iterate 10 still_step
    refine wpStill_nil ?_
    change wpList _ _ _ _ _ (World.drew w2)
    go_wp2_with fail
    go_ret
    have o4 := one_setCell (World.drew w2) gx x (.int .u32 (sx8 vy))
    exact ⟨rfl, by rw [show (plainI s 36 x y 8 vx vy nx).1 = setR s x (sx8 vy) from rfl]; exact row_set hr3 x hx (sx8 vy), chgOne ((Chg.of_below (fun k => k = gx) HB2.out).trans (Chg.of_below (fun k => k = gx) (drewb w2)) (fun _ _ h => h)) o4 (fun x e => .inl (by cases e; rfl))⟩
  · go_upto_region 26 with fail
    have hr3 := HR2.out.of_block ((drewb w2).block gx HR2.out.lt)
    have hl3 := bkeep (drewb w2) HL2.out
    have hc3 := rowcell hl3
    have cx : (World.drew w2).cell? ⟨gx, x, none⟩ = some (.int .u32 (s.R x)) := by rw [hr3.cell (i := x) (by omega)]; unfold stV; rw [if_pos hx]
    have cf := hr3.frozen
    clear hc2 hl3
    refine wp_region_still_tail 10 (by kernel_rfl) (by kernel_rfl) ?_
    simp only [List.take_succ_cons, List.take_zero, List.drop_succ_cons, List.drop_zero]
    change wpStill _ _ (World.drew w2) _ _ _
    iterate 10 still_step
    refine wpStill_nil ?_
    change wpList _ _ _ _ _ (World.drew w2)
    go_wp2_with fail
    go_ret
    have o4 := one_setCell (World.drew w2) gx x (.int .u32 (sx16 vy))
    exact ⟨rfl, by rw [show (plainI s 36 x y 16 vx vy nx).1 = setR s x (sx16 vy) from rfl]; exact row_set hr3 x hx (sx16 vy), chgOne ((Chg.of_below (fun k => k = gx) HB2.out).trans (Chg.of_below (fun k => k = gx) (drewb w2)) (fun _ _ h => h)) o4 (fun x e => .inl (by cases e; rfl))⟩
end Go.Proofs.Ytapcbfeifeobhaa

set_option linter.unusedVariables false
set_option linter.unusedSimpArgs false
namespace Go.Proofs.Ytapcbfeifeobhaa
open Go.RowKit
set_option maxRecDepth 20000 in
set_option maxHeartbeats 8000000 in
theorem plain_3 {w : World} {gx : Nat} {s : Mach} (h : w.rowIs gx 36 17 (stV s)) (x y z : Nat) (hx : x < 16) (hy : y ≤ 255) (hz : z ≤ 255) (vx vy nx : Int) (v0 : 0 ≤ vx) (v1 : vx ≤ 4294967295) (y0 : 0 ≤ vy) (y1 : vy ≤ 4294967295) (n0 : 0 ≤ nx) (n1 : nx ≤ 4294967295) :
    Calls Try.prog 45 #[.pointer (some ⟨gx, 0, none⟩), .agg #[.int .u8 (3 : Nat), .int .u8 x, .int .u8 y, .int .u8 z], .int .u32 vx, .int .u32 vy, .int .u32 nx] w (PlainP gx s 3 x y z vx vy nx w) := by
  have hb1 := bnew w (.cells #[.int .u8 (3 : Nat), .int .u8 x, .int .u8 y, .int .u8 z] 24)
  have hl1 := heap_alloc_last w (.cells #[.int .u8 (3 : Nat), .int .u8 x, .int .u8 y, .int .u8 z] 24)
  have hc := rowcell hl1
  have HB1 := Lib.hid hb1
  have HL1 := Lib.hid hl1
  have HR1 := Lib.hid (h.of_block (hb1.block gx h.lt))
  have HJ := Lib.hid (fun w => opsJump_any ((3 : Nat) : Int) x y z (by omega) (by omega) (by omega) (by omega) w)
  obtain ⟨jj, hj⟩ : ∃ jj, jj = jump ((y : Int) + 256 * z) := ⟨_, rfl⟩
  rw [← hj] at HJ
  have hj0 : -32768 ≤ jj ∧ jj ≤ 32767 := by rw [hj]; unfold jump; split <;> omega
  have HJJ := Lib.hid hj
  have HG := Lib.hid h.lt
  clear hb1 hl1 hj h
  go_enter Try.func45, Try.ntmps45
  go_wp2_with fail
  obtain ⟨N, hN⟩ : ∃ N, N = w.heap.size := ⟨_, rfl⟩
  rw [← hN] at hc ⊢
  have HN := Lib.hid hN
  generalize w.alloc (.cells #[.int .u8 (3 : Nat), .int .u8 x, .int .u8 y, .int .u8 z] 24) = w1 at *
  clear hN
  refine (HJ.out _).mono ?_
  rintro e w2 ⟨rfl, hb2⟩
  have hl2 := bkeep hb2 HL1.out
  rw [← HN.out] at hl2
  have hr2 := HR1.out.of_block (hb2.block gx HR1.out.lt)
  have HR2 := Lib.hid hr2
  have HL2 := Lib.hid hl2
  have HB2 := Lib.hid (bnext HB1.out hb2)
  have hc2 := rowcell hl2
  have hxi : (x : Int) < 16 := by omega
  clear hb2 hl2 hc hr2
  obtain ⟨wd, hwd⟩ : ∃ wd, wd = wideI y z := ⟨_, rfl⟩
  have hw0 : 0 ≤ wd ∧ wd ≤ 65535 := by rw [hwd]; unfold wideI; omega
  have HWD := Lib.hid hwd
  have HCA := Lib.hid (fun w => opsWide_any ((3 : Nat) : Int) x y z (by omega) (by omega) (by omega) (by omega) w)
  rw [show ((y : Int) + 256 * z) = wd from hwd.symm] at HCA
  have ewd : IntKind.u32.wrap wd = wd := by rw [IntKind.wrap_u32]; omega
  have e16 : IntKind.i16.wrap wd = jj := by rw [i16_jump wd hw0.1 hw0.2, HJJ.out, hwd]; rfl
  obtain ⟨j1, hj1⟩ : ∃ j1, j1 = jj % 4294967296 := ⟨_, rfl⟩
  have ej1 : IntKind.u32.wrap jj = j1 := by rw [IntKind.wrap_u32, hj1]
  have HJ1 := Lib.hid hj1
  have ei32 : IntKind.i32.wrap jj = jj := by rw [IntKind.wrap_i32]; omega
  have hj10 : 0 ≤ j1 ∧ j1 ≤ 4294967295 := by omega
  clear hwd hj1
  have hgN : gx ≠ N := by have := HG.out; have := HN.out; omega
  go_upto_region 19 with fail
  clear hc2
  have hS0 : (fun w' : World => w'.heap[N]? = some (.cells #[.int .u8 (3 : Nat), .int .u8 x, .int .u8 y, .int .u8 z] 24 (0, 0))) (World.drew w2) := HL2.out
  refine wp_region_held (S := fun w' => w'.heap[N]? = some (.cells #[.int .u8 (3 : Nat), .int .u8 x, .int .u8 y, .int .u8 z] 24 (0, 0))) (by kernel_rfl) ?_
  change wpAnyH _ _ _ _ _ _ _ _ (World.drew _)
  refine takeH 0 (.pointer (some ⟨gx, 0, none⟩)) (some 65) rfl rfl (by kernel_rfl) (by kernel_rfl) (by kernel_rfl) (fun _ _ _ h => h) (.inl ⟨by kernel_rfl, fun w' hw => by go_simp⟩) hS0 ?_
  refine takeH 1 (.pointer (some ⟨N, 1, none⟩)) (some 66) rfl rfl (by kernel_rfl) (by kernel_rfl) (by kernel_rfl) (fun _ _ _ h => h) (.inl ⟨by kernel_rfl, fun w' hw => by go_simp⟩) hS0 ?_
  go_simp
  refine takeH 2 (.int .u8 x) (some 67) rfl rfl (by kernel_rfl) (by kernel_rfl) (by kernel_rfl) (fun _ _ _ h => h) (.inl ⟨by kernel_rfl, fun w' hw => by have hc := rowcell hw 1; go_simp⟩) hS0 ?_
  refine takeH 3 (.agg #[.int .u8 (3 : Nat), .int .u8 x, .int .u8 y, .int .u8 z]) (some 68) rfl rfl (by kernel_rfl) (by kernel_rfl) (by kernel_rfl) (fun _ _ _ h => h) (yi_piece (by rfl) 24 (.tmp 6) rfl N 0 (by go_simp) #[.int .u8 (3 : Nat), .int .u8 x, .int .u8 y, .int .u8 z] _ (fun w' hw j v hj => by rw [rowcell hw, Nat.zero_add]; simpa using hj) Try.underlying24 rfl (by kernel_rfl)) hS0 ?_
  go_simp
  refine takeH 8 (.pointer (some ⟨gx, 0, none⟩)) (some 73) rfl rfl (by kernel_rfl) (by kernel_rfl) (by kernel_rfl) (fun _ _ _ h => h) (.inl ⟨by kernel_rfl, fun w' hw => by go_simp⟩) hS0 ?_
  refine takeH 9 (.pointer (some ⟨gx, 0, none⟩)) (some 74) rfl rfl (by kernel_rfl) (by kernel_rfl) (by kernel_rfl) (fun _ _ _ h => h) (.inl ⟨by kernel_rfl, fun w' hw => by go_simp⟩) hS0 ?_
  go_simp
  refine callH 4 rfl (by kernel_rfl) (by kernel_rfl) (some 69) rfl 61 #[.agg #[.int .u8 (3 : Nat), .int .u8 x, .int .u8 y, .int .u8 z]] ?hrun ((HCA.out _).mono ?_)
  case hrun => go_simp
  rintro e w4 ⟨he, hb4⟩
  have hbg : Below w2.heap.size w2 w4 := (drewb w2).trans (hb4.mono (Nat.le_refl _))
  have hS4 := bkeep hb4 hS0
  refine ⟨_, he, hS4, ?_⟩
  go_simp
  refine takeH 5 (.int .i16 jj) (some 70) rfl rfl (by kernel_rfl) (by kernel_rfl) (by kernel_rfl) (fun _ _ _ h => h) (.inl ⟨by kernel_rfl, fun w' hw => by go_simp⟩) hS4 ?_
  refine takeH 6 (.int .i32 jj) (some 71) rfl rfl (by kernel_rfl) (by kernel_rfl) (by kernel_rfl) (fun _ _ _ h => h) (.inl ⟨by kernel_rfl, fun w' hw => by go_simp⟩) hS4 ?_
  go_simp
  refine takeH 7 (.int .u32 j1) (some 72) rfl rfl (by kernel_rfl) (by kernel_rfl) (by kernel_rfl) (fun _ _ _ h => h) (.inl ⟨by kernel_rfl, fun w' hw => by go_simp⟩) hS4 ?_
  refine takeH 10 (.pointer (some ⟨gx, x, none⟩)) (some 75) rfl rfl (by kernel_rfl) (by kernel_rfl) (by kernel_rfl) (fun _ _ _ h => h) (.inl ⟨by kernel_rfl, fun w' hw => by go_simp⟩) hS4 ?_
  go_simp
  have hr4 := HR2.out.of_block (hbg.block gx HR2.out.lt)
  have o4 := one_setCell w4 gx x (.int .u32 (j1))
  have hS5 := o4.blk hS4 (fun e => by cases e; exact hgN rfl)
  refine runSkipH 11 (w' := w4.setCell ⟨gx, x, none⟩ (.int .u32 (j1))) rfl (by kernel_rfl) (by kernel_rfl) rfl (exec_store_cell 25 _ _ rfl gx x (.int .u32 (j1)) (by go_simp) (by go_simp) (by kernel_rfl) (by kernel_rfl) rfl (by rw [hr4.cell (i := x) (by omega)]; rfl) (hr4.frozen x)) hS5 ?_
  refine wpAnyH_done (by kernel_rfl) ?_ _
  go_simp
  have HRS := Lib.hid (row_set hr4 x hx (j1))
  have HCH := Lib.hid (chgOne ((Chg.of_below (fun k => k = gx) HB2.out).trans (Chg.of_below (fun k => k = gx) hbg) (fun _ _ h => h)) o4 (fun x e => .inl (by cases e; rfl)))
  clear hr4 o4 hS0 hS4 hS5 hbg hb4 he
  go_wp2_with fail
  go_ret
  exact ⟨rfl, by rw [show (plainI s 3 x y z vx vy nx).1 = setR s x (j1) from by rw [HJ1.out, HJJ.out]; rfl]; exact HRS.out, HCH.out⟩
end Go.Proofs.Ytapcbfeifeobhaa

set_option linter.unusedVariables false
set_option linter.unusedSimpArgs false
namespace Go.Proofs.Ytapcbfeifeobhaa
open Go.RowKit
set_option maxRecDepth 20000 in
set_option maxHeartbeats 8000000 in
theorem plain_4 {w : World} {gx : Nat} {s : Mach} (h : w.rowIs gx 36 17 (stV s)) (x y z : Nat) (hx : x < 16) (hy : y ≤ 255) (hz : z ≤ 255) (vx vy nx : Int) (v0 : 0 ≤ vx) (v1 : vx ≤ 4294967295) (y0 : 0 ≤ vy) (y1 : vy ≤ 4294967295) (n0 : 0 ≤ nx) (n1 : nx ≤ 4294967295) :
    Calls Try.prog 45 #[.pointer (some ⟨gx, 0, none⟩), .agg #[.int .u8 (4 : Nat), .int .u8 x, .int .u8 y, .int .u8 z], .int .u32 vx, .int .u32 vy, .int .u32 nx] w (PlainP gx s 4 x y z vx vy nx w) := by
  have hb1 := bnew w (.cells #[.int .u8 (4 : Nat), .int .u8 x, .int .u8 y, .int .u8 z] 24)
  have hl1 := heap_alloc_last w (.cells #[.int .u8 (4 : Nat), .int .u8 x, .int .u8 y, .int .u8 z] 24)
  have hc := rowcell hl1
  have HB1 := Lib.hid hb1
  have HL1 := Lib.hid hl1
  have HR1 := Lib.hid (h.of_block (hb1.block gx h.lt))
  have HJ := Lib.hid (fun w => opsJump_any ((4 : Nat) : Int) x y z (by omega) (by omega) (by omega) (by omega) w)
  obtain ⟨jj, hj⟩ : ∃ jj, jj = jump ((y : Int) + 256 * z) := ⟨_, rfl⟩
  rw [← hj] at HJ
  have hj0 : -32768 ≤ jj ∧ jj ≤ 32767 := by rw [hj]; unfold jump; split <;> omega
  have HJJ := Lib.hid hj
  have HG := Lib.hid h.lt
  clear hb1 hl1 hj h
  go_enter Try.func45, Try.ntmps45
  go_wp2_with fail
  obtain ⟨N, hN⟩ : ∃ N, N = w.heap.size := ⟨_, rfl⟩
  rw [← hN] at hc ⊢
  have HN := Lib.hid hN
  generalize w.alloc (.cells #[.int .u8 (4 : Nat), .int .u8 x, .int .u8 y, .int .u8 z] 24) = w1 at *
  clear hN
  refine (HJ.out _).mono ?_
  rintro e w2 ⟨rfl, hb2⟩
  have hl2 := bkeep hb2 HL1.out
  rw [← HN.out] at hl2
  have hr2 := HR1.out.of_block (hb2.block gx HR1.out.lt)
  have HR2 := Lib.hid hr2
  have HL2 := Lib.hid hl2
  have HB2 := Lib.hid (bnext HB1.out hb2)
  have hc2 := rowcell hl2
  have hxi : (x : Int) < 16 := by omega
  clear hb2 hl2 hc hr2
  obtain ⟨wd, hwd⟩ : ∃ wd, wd = wideI y z := ⟨_, rfl⟩
  have hw0 : 0 ≤ wd ∧ wd ≤ 65535 := by rw [hwd]; unfold wideI; omega
  have HWD := Lib.hid hwd
  have HCA := Lib.hid (fun w => opsWide_any ((4 : Nat) : Int) x y z (by omega) (by omega) (by omega) (by omega) w)
  rw [show ((y : Int) + 256 * z) = wd from hwd.symm] at HCA
  have ewd : IntKind.u32.wrap wd = wd := by rw [IntKind.wrap_u32]; omega
  obtain ⟨v6, hv6⟩ : ∃ v6, v6 = vx % 65536 := ⟨_, rfl⟩
  have e1 : bits .and .u32 vx 65535 = v6 := by rw [and65535 vx v0 v1, hv6]
  have e2 : bits .or .u32 v6 (wd * 65536) = v6 + wd * 65536 := u32_or16 v6 (wd * 65536) (by omega) (by omega) (by omega) (by omega) (by omega)
  have HV6 := Lib.hid hv6
  have esh : IntKind.u32.wrap (wd * 65536) = wd * 65536 := by rw [IntKind.wrap_u32]; omega
  have esh2 : wd * 65536 % 4294967296 = wd * 65536 := by omega
  have hv60 : 0 ≤ v6 ∧ v6 ≤ 65535 := by omega
  clear hwd hv6
  have hgN : gx ≠ N := by have := HG.out; have := HN.out; omega
  go_upto_region 20 with fail
  clear hc2
  have hS0 : (fun w' : World => w'.heap[N]? = some (.cells #[.int .u8 (4 : Nat), .int .u8 x, .int .u8 y, .int .u8 z] 24 (0, 0))) (World.drew w2) := HL2.out
  refine wp_region_held (S := fun w' => w'.heap[N]? = some (.cells #[.int .u8 (4 : Nat), .int .u8 x, .int .u8 y, .int .u8 z] 24 (0, 0))) (by kernel_rfl) ?_
  change wpAnyH _ _ _ _ _ _ _ _ (World.drew _)
  refine takeH 0 (.pointer (some ⟨gx, 0, none⟩)) (some 76) rfl rfl (by kernel_rfl) (by kernel_rfl) (by kernel_rfl) (fun _ _ _ h => h) (.inl ⟨by kernel_rfl, fun w' hw => by go_simp⟩) hS0 ?_
  refine takeH 1 (.pointer (some ⟨N, 1, none⟩)) (some 77) rfl rfl (by kernel_rfl) (by kernel_rfl) (by kernel_rfl) (fun _ _ _ h => h) (.inl ⟨by kernel_rfl, fun w' hw => by go_simp⟩) hS0 ?_
  go_simp
  refine takeH 2 (.int .u8 x) (some 78) rfl rfl (by kernel_rfl) (by kernel_rfl) (by kernel_rfl) (fun _ _ _ h => h) (.inl ⟨by kernel_rfl, fun w' hw => by have hc := rowcell hw 1; go_simp⟩) hS0 ?_
  refine takeH 3 (.int .u32 vx) (some 79) rfl rfl (by kernel_rfl) (by kernel_rfl) (by kernel_rfl) (fun _ _ _ h => h) (.inl ⟨by kernel_rfl, fun w' hw => by go_simp⟩) hS0 ?_
  go_simp
  refine takeH 4 (.int .u32 v6) (some 80) rfl rfl (by kernel_rfl) (by kernel_rfl) (by kernel_rfl) (fun _ _ _ h => h) (.inl ⟨by kernel_rfl, fun w' hw => by go_simp⟩) hS0 ?_
  refine takeH 5 (.agg #[.int .u8 (4 : Nat), .int .u8 x, .int .u8 y, .int .u8 z]) (some 81) rfl rfl (by kernel_rfl) (by kernel_rfl) (by kernel_rfl) (fun _ _ _ h => h) (yi_piece (by rfl) 24 (.tmp 6) rfl N 0 (by go_simp) #[.int .u8 (4 : Nat), .int .u8 x, .int .u8 y, .int .u8 z] _ (fun w' hw j v hj => by rw [rowcell hw, Nat.zero_add]; simpa using hj) Try.underlying24 rfl (by kernel_rfl)) hS0 ?_
  go_simp
  refine takeH 10 (.pointer (some ⟨gx, 0, none⟩)) (some 86) rfl rfl (by kernel_rfl) (by kernel_rfl) (by kernel_rfl) (fun _ _ _ h => h) (.inl ⟨by kernel_rfl, fun w' hw => by go_simp⟩) hS0 ?_
  refine takeH 11 (.pointer (some ⟨gx, 0, none⟩)) (some 87) rfl rfl (by kernel_rfl) (by kernel_rfl) (by kernel_rfl) (fun _ _ _ h => h) (.inl ⟨by kernel_rfl, fun w' hw => by go_simp⟩) hS0 ?_
  go_simp
  refine callH 6 rfl (by kernel_rfl) (by kernel_rfl) (some 82) rfl 61 #[.agg #[.int .u8 (4 : Nat), .int .u8 x, .int .u8 y, .int .u8 z]] ?hrun ((HCA.out _).mono ?_)
  case hrun => go_simp
  rintro e w4 ⟨he, hb4⟩
  have hbg : Below w2.heap.size w2 w4 := (drewb w2).trans (hb4.mono (Nat.le_refl _))
  have hS4 := bkeep hb4 hS0
  refine ⟨_, he, hS4, ?_⟩
  go_simp
  refine takeH 7 (.int .u32 wd) (some 83) rfl rfl (by kernel_rfl) (by kernel_rfl) (by kernel_rfl) (fun _ _ _ h => h) (.inl ⟨by kernel_rfl, fun w' hw => by go_simp⟩) hS4 ?_
  go_simp
  refine takeH 8 (.int .u32 (wd * 65536)) (some 84) rfl rfl (by kernel_rfl) (by kernel_rfl) (by kernel_rfl) (fun _ _ _ h => h) (.inl ⟨by kernel_rfl, fun w' hw => by go_simp⟩) hS4 ?_
  go_simp
  refine takeH 9 (.int .u32 (v6 + wd * 65536)) (some 85) rfl rfl (by kernel_rfl) (by kernel_rfl) (by kernel_rfl) (fun _ _ _ h => h) (.inl ⟨by kernel_rfl, fun w' hw => by go_simp⟩) hS4 ?_
  refine takeH 12 (.pointer (some ⟨gx, x, none⟩)) (some 88) rfl rfl (by kernel_rfl) (by kernel_rfl) (by kernel_rfl) (fun _ _ _ h => h) (.inl ⟨by kernel_rfl, fun w' hw => by go_simp⟩) hS4 ?_
  go_simp
  have hr4 := HR2.out.of_block (hbg.block gx HR2.out.lt)
  have o4 := one_setCell w4 gx x (.int .u32 (v6 + wd * 65536))
  have hS5 := o4.blk hS4 (fun e => by cases e; exact hgN rfl)
  refine runSkipH 13 (w' := w4.setCell ⟨gx, x, none⟩ (.int .u32 (v6 + wd * 65536))) rfl (by kernel_rfl) (by kernel_rfl) rfl (exec_store_cell 25 _ _ rfl gx x (.int .u32 (v6 + wd * 65536)) (by go_simp) (by go_simp) (by kernel_rfl) (by kernel_rfl) rfl (by rw [hr4.cell (i := x) (by omega)]; rfl) (hr4.frozen x)) hS5 ?_
  refine wpAnyH_done (by kernel_rfl) ?_ _
  go_simp
  have HRS := Lib.hid (row_set hr4 x hx (v6 + wd * 65536))
  have HCH := Lib.hid (chgOne ((Chg.of_below (fun k => k = gx) HB2.out).trans (Chg.of_below (fun k => k = gx) hbg) (fun _ _ h => h)) o4 (fun x e => .inl (by cases e; rfl)))
  clear hr4 o4 hS0 hS4 hS5 hbg hb4 he
  go_wp2_with fail
  go_ret
  exact ⟨rfl, by rw [show (plainI s 4 x y z vx vy nx).1 = setR s x (v6 + wd * 65536) from by rw [HV6.out, HWD.out]; rfl]; exact HRS.out, HCH.out⟩
end Go.Proofs.Ytapcbfeifeobhaa
