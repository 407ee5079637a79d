/- cpu.plain: addi. cpu.plain: clz. cpu.plain: pop. -/
import Derived.Test.YtapcbfeifeobhaaCpuE
set_option linter.unusedVariables false
set_option linter.unusedSimpArgs false
namespace Go.Proofs.Ytapcbfeifeobhaa
open Go.RowKit
set_option maxRecDepth 20000 in
set_option maxHeartbeats 8000000 in
theorem plain_21 {w : World} {gx : Nat} {s : Mach} (h : w.rowIs gx 36 17 (stV s)) (x y z : Nat) (hx : x < 16) (hy : y ≤ 255) (hz : z ≤ 255) (vx vy nx : Int) (v0 : 0 ≤ vx) (v1 : vx ≤ 4294967295) (y0 : 0 ≤ vy) (y1 : vy ≤ 4294967295) (n0 : 0 ≤ nx) (n1 : nx ≤ 4294967295) :
    Calls Try.prog 45 #[.pointer (some ⟨gx, 0, none⟩), .agg #[.int .u8 (21 : Nat), .int .u8 x, .int .u8 y, .int .u8 z], .int .u32 vx, .int .u32 vy, .int .u32 nx] w (PlainP gx s 21 x y z vx vy nx w) := by
  have hb1 := bnew w (.cells #[.int .u8 (21 : Nat), .int .u8 x, .int .u8 y, .int .u8 z] 24)
  have hl1 := heap_alloc_last w (.cells #[.int .u8 (21 : Nat), .int .u8 x, .int .u8 y, .int .u8 z] 24)
  have hc := rowcell hl1
  have HB1 := Lib.hid hb1
  have HL1 := Lib.hid hl1
  have HR1 := Lib.hid (h.of_block (hb1.block gx h.lt))
  have HJ := Lib.hid (fun w => opsJump_any ((21 : Nat) : Int) x y z (by omega) (by omega) (by omega) (by omega) w)
  obtain ⟨jj, hj⟩ : ∃ jj, jj = jump ((y : Int) + 256 * z) := ⟨_, rfl⟩
  rw [← hj] at HJ
  have hj0 : -32768 ≤ jj ∧ jj ≤ 32767 := by rw [hj]; unfold jump; split <;> omega
  have HJJ := Lib.hid hj
  have HG := Lib.hid h.lt
  clear hb1 hl1 hj h
  go_enter Try.func45, Try.ntmps45
  go_wp2_with fail
  obtain ⟨N, hN⟩ : ∃ N, N = w.heap.size := ⟨_, rfl⟩
  rw [← hN] at hc ⊢
  have HN := Lib.hid hN
  generalize w.alloc (.cells #[.int .u8 (21 : Nat), .int .u8 x, .int .u8 y, .int .u8 z] 24) = w1 at *
  clear hN
  refine (HJ.out _).mono ?_
  rintro e w2 ⟨rfl, hb2⟩
  have hl2 := bkeep hb2 HL1.out
  rw [← HN.out] at hl2
  have hr2 := HR1.out.of_block (hb2.block gx HR1.out.lt)
  have HR2 := Lib.hid hr2
  have HL2 := Lib.hid hl2
  have HB2 := Lib.hid (bnext HB1.out hb2)
  have hc2 := rowcell hl2
  have hxi : (x : Int) < 16 := by omega
  clear hb2 hl2 hc hr2
  obtain ⟨nr, hnr⟩ : ∃ nr, nr = near (z : Int) := ⟨_, rfl⟩
  have hnr0 : -128 ≤ nr ∧ nr ≤ 127 := by rw [hnr]; unfold near; split <;> omega
  have HNR := Lib.hid hnr
  have HCA := Lib.hid (fun w => opsNear_any ((21 : Nat) : Int) x y z (by omega) (by omega) w)
  rw [← hnr] at HCA
  obtain ⟨n1v, hn1v⟩ : ∃ n1v, n1v = nr % 4294967296 := ⟨_, rfl⟩
  have en1 : IntKind.u32.wrap nr = n1v := by rw [IntKind.wrap_u32, hn1v]
  have en2 : IntKind.u32.wrap (vy + n1v) = (vy + n1v) % 4294967296 := by rw [IntKind.wrap_u32]
  have HN1V := Lib.hid hn1v
  have hn10 : 0 ≤ n1v ∧ n1v ≤ 4294967295 := by omega
  clear hnr hn1v
  have hgN : gx ≠ N := by have := HG.out; have := HN.out; omega
  go_upto_region 21 with fail
  clear hc2
  have hS0 : (fun w' : World => w'.heap[N]? = some (.cells #[.int .u8 (21 : Nat), .int .u8 x, .int .u8 y, .int .u8 z] 24 (0, 0))) (World.drew w2) := HL2.out
  refine wp_region_held (S := fun w' => w'.heap[N]? = some (.cells #[.int .u8 (21 : Nat), .int .u8 x, .int .u8 y, .int .u8 z] 24 (0, 0))) (by kernel_rfl) ?_
  change wpAnyH _ _ _ _ _ _ _ _ (World.drew _)
  refine takeH 0 (.pointer (some ⟨gx, 0, none⟩)) (some 89) rfl rfl (by kernel_rfl) (by kernel_rfl) (by kernel_rfl) (fun _ _ _ h => h) (.inl ⟨by kernel_rfl, fun w' hw => by go_simp⟩) hS0 ?_
  refine takeH 1 (.pointer (some ⟨N, 1, none⟩)) (some 90) rfl rfl (by kernel_rfl) (by kernel_rfl) (by kernel_rfl) (fun _ _ _ h => h) (.inl ⟨by kernel_rfl, fun w' hw => by go_simp⟩) hS0 ?_
  go_simp
  refine takeH 2 (.int .u8 x) (some 91) rfl rfl (by kernel_rfl) (by kernel_rfl) (by kernel_rfl) (fun _ _ _ h => h) (.inl ⟨by kernel_rfl, fun w' hw => by have hc := rowcell hw 1; go_simp⟩) hS0 ?_
  refine takeH 3 (.int .u32 vy) (some 92) rfl rfl (by kernel_rfl) (by kernel_rfl) (by kernel_rfl) (fun _ _ _ h => h) (.inl ⟨by kernel_rfl, fun w' hw => by go_simp⟩) hS0 ?_
  refine takeH 4 (.agg #[.int .u8 (21 : Nat), .int .u8 x, .int .u8 y, .int .u8 z]) (some 93) rfl rfl (by kernel_rfl) (by kernel_rfl) (by kernel_rfl) (fun _ _ _ h => h) (yi_piece (by rfl) 24 (.tmp 6) rfl N 0 (by go_simp) #[.int .u8 (21 : Nat), .int .u8 x, .int .u8 y, .int .u8 z] _ (fun w' hw j v hj => by rw [rowcell hw, Nat.zero_add]; simpa using hj) Try.underlying24 rfl (by kernel_rfl)) hS0 ?_
  go_simp
  refine takeH 8 (.pointer (some ⟨gx, 0, none⟩)) (some 97) rfl rfl (by kernel_rfl) (by kernel_rfl) (by kernel_rfl) (fun _ _ _ h => h) (.inl ⟨by kernel_rfl, fun w' hw => by go_simp⟩) hS0 ?_
  refine takeH 9 (.pointer (some ⟨gx, 0, none⟩)) (some 98) rfl rfl (by kernel_rfl) (by kernel_rfl) (by kernel_rfl) (fun _ _ _ h => h) (.inl ⟨by kernel_rfl, fun w' hw => by go_simp⟩) hS0 ?_
  go_simp
  refine callH 5 rfl (by kernel_rfl) (by kernel_rfl) (some 94) rfl 44 #[.agg #[.int .u8 (21 : Nat), .int .u8 x, .int .u8 y, .int .u8 z]] ?hrun ((HCA.out _).mono ?_)
  case hrun => go_simp
  rintro e w4 ⟨he, hb4⟩
  have hbg : Below w2.heap.size w2 w4 := (drewb w2).trans (hb4.mono (Nat.le_refl _))
  have hS4 := bkeep hb4 hS0
  refine ⟨_, he, hS4, ?_⟩
  go_simp
  refine takeH 6 (.int .u32 n1v) (some 95) rfl rfl (by kernel_rfl) (by kernel_rfl) (by kernel_rfl) (fun _ _ _ h => h) (.inl ⟨by kernel_rfl, fun w' hw => by go_simp⟩) hS4 ?_
  go_simp
  refine takeH 7 (.int .u32 ((vy + n1v) % 4294967296)) (some 96) rfl rfl (by kernel_rfl) (by kernel_rfl) (by kernel_rfl) (fun _ _ _ h => h) (.inl ⟨by kernel_rfl, fun w' hw => by go_simp⟩) hS4 ?_
  refine takeH 10 (.pointer (some ⟨gx, x, none⟩)) (some 99) rfl rfl (by kernel_rfl) (by kernel_rfl) (by kernel_rfl) (fun _ _ _ h => h) (.inl ⟨by kernel_rfl, fun w' hw => by go_simp⟩) hS4 ?_
  go_simp
  have hr4 := HR2.out.of_block (hbg.block gx HR2.out.lt)
  have o4 := one_setCell w4 gx x (.int .u32 ((vy + n1v) % 4294967296))
  have hS5 := o4.blk hS4 (fun e => by cases e; exact hgN rfl)
  refine runSkipH 11 (w' := w4.setCell ⟨gx, x, none⟩ (.int .u32 ((vy + n1v) % 4294967296))) rfl (by kernel_rfl) (by kernel_rfl) rfl (exec_store_cell 25 _ _ rfl gx x (.int .u32 ((vy + n1v) % 4294967296)) (by go_simp) (by go_simp) (by kernel_rfl) (by kernel_rfl) rfl (by rw [hr4.cell (i := x) (by omega)]; rfl) (hr4.frozen x)) hS5 ?_
  refine wpAnyH_done (by kernel_rfl) ?_ _
  go_simp
  have HRS := Lib.hid (row_set hr4 x hx ((vy + n1v) % 4294967296))
  have HCH := Lib.hid (chgOne ((Chg.of_below (fun k => k = gx) HB2.out).trans (Chg.of_below (fun k => k = gx) hbg) (fun _ _ h => h)) o4 (fun x e => .inl (by cases e; rfl)))
  clear hr4 o4 hS0 hS4 hS5 hbg hb4 he
  go_wp2_with fail
  go_ret
  exact ⟨rfl, by rw [show (plainI s 21 x y z vx vy nx).1 = setR s x ((vy + n1v) % 4294967296) from by rw [HN1V.out, HNR.out]; rfl]; exact HRS.out, HCH.out⟩
end Go.Proofs.Ytapcbfeifeobhaa

set_option linter.unusedVariables false
set_option linter.unusedSimpArgs false
namespace Go.Proofs.Ytapcbfeifeobhaa
open Go.RowKit
set_option maxRecDepth 20000 in
set_option maxHeartbeats 8000000 in
theorem plain_37 {w : World} {gx : Nat} {s : Mach} (h : w.rowIs gx 36 17 (stV s)) (x y z : Nat) (hx : x < 16) (hy : y ≤ 255) (hz : z ≤ 255) (vx vy nx : Int) (v0 : 0 ≤ vx) (v1 : vx ≤ 4294967295) (y0 : 0 ≤ vy) (y1 : vy ≤ 4294967295) (n0 : 0 ≤ nx) (n1 : nx ≤ 4294967295) :
    Calls Try.prog 45 #[.pointer (some ⟨gx, 0, none⟩), .agg #[.int .u8 (37 : Nat), .int .u8 x, .int .u8 y, .int .u8 z], .int .u32 vx, .int .u32 vy, .int .u32 nx] w (PlainP gx s 37 x y z vx vy nx w) := by
  have hb1 := bnew w (.cells #[.int .u8 (37 : Nat), .int .u8 x, .int .u8 y, .int .u8 z] 24)
  have hl1 := heap_alloc_last w (.cells #[.int .u8 (37 : Nat), .int .u8 x, .int .u8 y, .int .u8 z] 24)
  have hc := rowcell hl1
  have HB1 := Lib.hid hb1
  have HL1 := Lib.hid hl1
  have HR1 := Lib.hid (h.of_block (hb1.block gx h.lt))
  have HJ := Lib.hid (fun w => opsJump_any ((37 : Nat) : Int) x y z (by omega) (by omega) (by omega) (by omega) w)
  obtain ⟨jj, hj⟩ : ∃ jj, jj = jump ((y : Int) + 256 * z) := ⟨_, rfl⟩
  rw [← hj] at HJ
  have hj0 : -32768 ≤ jj ∧ jj ≤ 32767 := by rw [hj]; unfold jump; split <;> omega
  have HJJ := Lib.hid hj
  have HG := Lib.hid h.lt
  clear hb1 hl1 hj h
  go_enter Try.func45, Try.ntmps45
  go_wp2_with fail
  obtain ⟨N, hN⟩ : ∃ N, N = w.heap.size := ⟨_, rfl⟩
  rw [← hN] at hc ⊢
  have HN := Lib.hid hN
  generalize w.alloc (.cells #[.int .u8 (37 : Nat), .int .u8 x, .int .u8 y, .int .u8 z] 24) = w1 at *
  clear hN
  refine (HJ.out _).mono ?_
  rintro e w2 ⟨rfl, hb2⟩
  have hl2 := bkeep hb2 HL1.out
  rw [← HN.out] at hl2
  have hr2 := HR1.out.of_block (hb2.block gx HR1.out.lt)
  have HR2 := Lib.hid hr2
  have HL2 := Lib.hid hl2
  have HB2 := Lib.hid (bnext HB1.out hb2)
  have hc2 := rowcell hl2
  have hxi : (x : Int) < 16 := by omega
  clear hb2 hl2 hc hr2
  have HCA := Lib.hid (fun w => clz32_any vy y0 y1 w)
  obtain ⟨lz, hlz⟩ : ∃ lz, lz = 32 - lenI vy := ⟨_, rfl⟩
  have hlz0 : 0 ≤ lz ∧ lz ≤ 32 := by rw [hlz]; have := lenI_le vy y0 y1; omega
  have HLZ := Lib.hid hlz
  rw [← hlz] at HCA
  have elz : IntKind.u32.wrap lz = lz := by rw [IntKind.wrap_u32]; omega
  clear hlz
  have hgN : gx ≠ N := by have := HG.out; have := HN.out; omega
  go_upto_region 22 with fail
  clear hc2
  have hS0 : (fun w' : World => w'.heap[N]? = some (.cells #[.int .u8 (37 : Nat), .int .u8 x, .int .u8 y, .int .u8 z] 24 (0, 0))) (World.drew w2) := HL2.out
  refine wp_region_held (S := fun w' => w'.heap[N]? = some (.cells #[.int .u8 (37 : Nat), .int .u8 x, .int .u8 y, .int .u8 z] 24 (0, 0))) (by kernel_rfl) ?_
  change wpAnyH _ _ _ _ _ _ _ _ (World.drew _)
  refine takeH 0 (.pointer (some ⟨gx, 0, none⟩)) (some 100) rfl rfl (by kernel_rfl) (by kernel_rfl) (by kernel_rfl) (fun _ _ _ h => h) (.inl ⟨by kernel_rfl, fun w' hw => by go_simp⟩) hS0 ?_
  refine takeH 1 (.pointer (some ⟨N, 1, none⟩)) (some 101) rfl rfl (by kernel_rfl) (by kernel_rfl) (by kernel_rfl) (fun _ _ _ h => h) (.inl ⟨by kernel_rfl, fun w' hw => by go_simp⟩) hS0 ?_
  go_simp
  refine takeH 2 (.int .u8 x) (some 102) rfl rfl (by kernel_rfl) (by kernel_rfl) (by kernel_rfl) (fun _ _ _ h => h) (.inl ⟨by kernel_rfl, fun w' hw => by have hc := rowcell hw 1; go_simp⟩) hS0 ?_
  refine takeH 3 (.int .u32 vy) (some 103) rfl rfl (by kernel_rfl) (by kernel_rfl) (by kernel_rfl) (fun _ _ _ h => h) (.inl ⟨by kernel_rfl, fun w' hw => by go_simp⟩) hS0 ?_
  go_simp
  refine takeH 6 (.pointer (some ⟨gx, 0, none⟩)) (some 106) rfl rfl (by kernel_rfl) (by kernel_rfl) (by kernel_rfl) (fun _ _ _ h => h) (.inl ⟨by kernel_rfl, fun w' hw => by go_simp⟩) hS0 ?_
  refine takeH 7 (.pointer (some ⟨gx, 0, none⟩)) (some 107) rfl rfl (by kernel_rfl) (by kernel_rfl) (by kernel_rfl) (fun _ _ _ h => h) (.inl ⟨by kernel_rfl, fun w' hw => by go_simp⟩) hS0 ?_
  go_simp
  refine callH 4 rfl (by kernel_rfl) (by kernel_rfl) (some 104) rfl 62 #[.int .u32 vy] ?hrun ((HCA.out _).mono ?_)
  case hrun => go_simp
  rintro e w4 ⟨he, hb4⟩
  have hbg : Below w2.heap.size w2 w4 := (drewb w2).trans (hb4.mono (Nat.le_refl _))
  have hS4 := bkeep hb4 hS0
  refine ⟨_, he, hS4, ?_⟩
  go_simp
  refine takeH 5 (.int .u32 lz) (some 105) rfl rfl (by kernel_rfl) (by kernel_rfl) (by kernel_rfl) (fun _ _ _ h => h) (.inl ⟨by kernel_rfl, fun w' hw => by go_simp⟩) hS4 ?_
  refine takeH 8 (.pointer (some ⟨gx, x, none⟩)) (some 108) rfl rfl (by kernel_rfl) (by kernel_rfl) (by kernel_rfl) (fun _ _ _ h => h) (.inl ⟨by kernel_rfl, fun w' hw => by go_simp⟩) hS4 ?_
  go_simp
  have hr4 := HR2.out.of_block (hbg.block gx HR2.out.lt)
  have o4 := one_setCell w4 gx x (.int .u32 (lz))
  have hS5 := o4.blk hS4 (fun e => by cases e; exact hgN rfl)
  refine runSkipH 9 (w' := w4.setCell ⟨gx, x, none⟩ (.int .u32 (lz))) rfl (by kernel_rfl) (by kernel_rfl) rfl (exec_store_cell 25 _ _ rfl gx x (.int .u32 (lz)) (by go_simp) (by go_simp) (by kernel_rfl) (by kernel_rfl) rfl (by rw [hr4.cell (i := x) (by omega)]; rfl) (hr4.frozen x)) hS5 ?_
  refine wpAnyH_done (by kernel_rfl) ?_ _
  go_simp
  have HRS := Lib.hid (row_set hr4 x hx (lz))
  have HCH := Lib.hid (chgOne ((Chg.of_below (fun k => k = gx) HB2.out).trans (Chg.of_below (fun k => k = gx) hbg) (fun _ _ h => h)) o4 (fun x e => .inl (by cases e; rfl)))
  clear hr4 o4 hS0 hS4 hS5 hbg hb4 he
  go_wp2_with fail
  go_ret
  exact ⟨rfl, by rw [show (plainI s 37 x y z vx vy nx).1 = setR s x (lz) from by rw [HLZ.out]; rfl]; exact HRS.out, HCH.out⟩
end Go.Proofs.Ytapcbfeifeobhaa

set_option linter.unusedVariables false
set_option linter.unusedSimpArgs false
namespace Go.Proofs.Ytapcbfeifeobhaa
open Go.RowKit
set_option maxRecDepth 20000 in
set_option maxHeartbeats 8000000 in
theorem plain_38 {w : World} {gx : Nat} {s : Mach} (h : w.rowIs gx 36 17 (stV s)) (x y z : Nat) (hx : x < 16) (hy : y ≤ 255) (hz : z ≤ 255) (vx vy nx : Int) (v0 : 0 ≤ vx) (v1 : vx ≤ 4294967295) (y0 : 0 ≤ vy) (y1 : vy ≤ 4294967295) (n0 : 0 ≤ nx) (n1 : nx ≤ 4294967295) :
    Calls Try.prog 45 #[.pointer (some ⟨gx, 0, none⟩), .agg #[.int .u8 (38 : Nat), .int .u8 x, .int .u8 y, .int .u8 z], .int .u32 vx, .int .u32 vy, .int .u32 nx] w (PlainP gx s 38 x y z vx vy nx w) := by
  have hb1 := bnew w (.cells #[.int .u8 (38 : Nat), .int .u8 x, .int .u8 y, .int .u8 z] 24)
  have hl1 := heap_alloc_last w (.cells #[.int .u8 (38 : Nat), .int .u8 x, .int .u8 y, .int .u8 z] 24)
  have hc := rowcell hl1
  have HB1 := Lib.hid hb1
  have HL1 := Lib.hid hl1
  have HR1 := Lib.hid (h.of_block (hb1.block gx h.lt))
  have HJ := Lib.hid (fun w => opsJump_any ((38 : Nat) : Int) x y z (by omega) (by omega) (by omega) (by omega) w)
  obtain ⟨jj, hj⟩ : ∃ jj, jj = jump ((y : Int) + 256 * z) := ⟨_, rfl⟩
  rw [← hj] at HJ
  have hj0 : -32768 ≤ jj ∧ jj ≤ 32767 := by rw [hj]; unfold jump; split <;> omega
  have HJJ := Lib.hid hj
  have HG := Lib.hid h.lt
  clear hb1 hl1 hj h
  go_enter Try.func45, Try.ntmps45
  go_wp2_with fail
  obtain ⟨N, hN⟩ : ∃ N, N = w.heap.size := ⟨_, rfl⟩
  rw [← hN] at hc ⊢
  have HN := Lib.hid hN
  generalize w.alloc (.cells #[.int .u8 (38 : Nat), .int .u8 x, .int .u8 y, .int .u8 z] 24) = w1 at *
  clear hN
  refine (HJ.out _).mono ?_
  rintro e w2 ⟨rfl, hb2⟩
  have hl2 := bkeep hb2 HL1.out
  rw [← HN.out] at hl2
  have hr2 := HR1.out.of_block (hb2.block gx HR1.out.lt)
  have HR2 := Lib.hid hr2
  have HL2 := Lib.hid hl2
  have HB2 := Lib.hid (bnext HB1.out hb2)
  have hc2 := rowcell hl2
  have hxi : (x : Int) < 16 := by omega
  clear hb2 hl2 hc hr2
  have HCA := Lib.hid (fun w => pop32_any vy y0 y1 w)
  obtain ⟨lz, hlz⟩ : ∃ lz, lz = popI vy := ⟨_, rfl⟩
  have hlz0 : 0 ≤ lz ∧ lz ≤ 32 := by rw [hlz]; have := popI_le vy y0 y1; omega
  have HLZ := Lib.hid hlz
  rw [← hlz] at HCA
  have elz : IntKind.u32.wrap lz = lz := by rw [IntKind.wrap_u32]; omega
  clear hlz
  have hgN : gx ≠ N := by have := HG.out; have := HN.out; omega
  go_upto_region 23 with fail
  clear hc2
  have hS0 : (fun w' : World => w'.heap[N]? = some (.cells #[.int .u8 (38 : Nat), .int .u8 x, .int .u8 y, .int .u8 z] 24 (0, 0))) (World.drew w2) := HL2.out
  refine wp_region_held (S := fun w' => w'.heap[N]? = some (.cells #[.int .u8 (38 : Nat), .int .u8 x, .int .u8 y, .int .u8 z] 24 (0, 0))) (by kernel_rfl) ?_
  change wpAnyH _ _ _ _ _ _ _ _ (World.drew _)
  refine takeH 0 (.pointer (some ⟨gx, 0, none⟩)) (some 109) rfl rfl (by kernel_rfl) (by kernel_rfl) (by kernel_rfl) (fun _ _ _ h => h) (.inl ⟨by kernel_rfl, fun w' hw => by go_simp⟩) hS0 ?_
  refine takeH 1 (.pointer (some ⟨N, 1, none⟩)) (some 110) rfl rfl (by kernel_rfl) (by kernel_rfl) (by kernel_rfl) (fun _ _ _ h => h) (.inl ⟨by kernel_rfl, fun w' hw => by go_simp⟩) hS0 ?_
  go_simp
  refine takeH 2 (.int .u8 x) (some 111) rfl rfl (by kernel_rfl) (by kernel_rfl) (by kernel_rfl) (fun _ _ _ h => h) (.inl ⟨by kernel_rfl, fun w' hw => by have hc := rowcell hw 1; go_simp⟩) hS0 ?_
  refine takeH 3 (.int .u32 vy) (some 112) rfl rfl (by kernel_rfl) (by kernel_rfl) (by kernel_rfl) (fun _ _ _ h => h) (.inl ⟨by kernel_rfl, fun w' hw => by go_simp⟩) hS0 ?_
  go_simp
  refine takeH 6 (.pointer (some ⟨gx, 0, none⟩)) (some 115) rfl rfl (by kernel_rfl) (by kernel_rfl) (by kernel_rfl) (fun _ _ _ h => h) (.inl ⟨by kernel_rfl, fun w' hw => by go_simp⟩) hS0 ?_
  refine takeH 7 (.pointer (some ⟨gx, 0, none⟩)) (some 116) rfl rfl (by kernel_rfl) (by kernel_rfl) (by kernel_rfl) (fun _ _ _ h => h) (.inl ⟨by kernel_rfl, fun w' hw => by go_simp⟩) hS0 ?_
  go_simp
  refine callH 4 rfl (by kernel_rfl) (by kernel_rfl) (some 113) rfl 63 #[.int .u32 vy] ?hrun ((HCA.out _).mono ?_)
  case hrun => go_simp
  rintro e w4 ⟨he, hb4⟩
  have hbg : Below w2.heap.size w2 w4 := (drewb w2).trans (hb4.mono (Nat.le_refl _))
  have hS4 := bkeep hb4 hS0
  refine ⟨_, he, hS4, ?_⟩
  go_simp
  refine takeH 5 (.int .u32 lz) (some 114) rfl rfl (by kernel_rfl) (by kernel_rfl) (by kernel_rfl) (fun _ _ _ h => h) (.inl ⟨by kernel_rfl, fun w' hw => by go_simp⟩) hS4 ?_
  refine takeH 8 (.pointer (some ⟨gx, x, none⟩)) (some 117) rfl rfl (by kernel_rfl) (by kernel_rfl) (by kernel_rfl) (fun _ _ _ h => h) (.inl ⟨by kernel_rfl, fun w' hw => by go_simp⟩) hS4 ?_
  go_simp
  have hr4 := HR2.out.of_block (hbg.block gx HR2.out.lt)
  have o4 := one_setCell w4 gx x (.int .u32 (lz))
  have hS5 := o4.blk hS4 (fun e => by cases e; exact hgN rfl)
  refine runSkipH 9 (w' := w4.setCell ⟨gx, x, none⟩ (.int .u32 (lz))) rfl (by kernel_rfl) (by kernel_rfl) rfl (exec_store_cell 25 _ _ rfl gx x (.int .u32 (lz)) (by go_simp) (by go_simp) (by kernel_rfl) (by kernel_rfl) rfl (by rw [hr4.cell (i := x) (by omega)]; rfl) (hr4.frozen x)) hS5 ?_
  refine wpAnyH_done (by kernel_rfl) ?_ _
  go_simp
  have HRS := Lib.hid (row_set hr4 x hx (lz))
  have HCH := Lib.hid (chgOne ((Chg.of_below (fun k => k = gx) HB2.out).trans (Chg.of_below (fun k => k = gx) hbg) (fun _ _ h => h)) o4 (fun x e => .inl (by cases e; rfl)))
  clear hr4 o4 hS0 hS4 hS5 hbg hb4 he
  go_wp2_with fail
  go_ret
  exact ⟨rfl, by rw [show (plainI s 38 x y z vx vy nx).1 = setR s x (lz) from by rw [HLZ.out]; rfl]; exact HRS.out, HCH.out⟩
end Go.Proofs.Ytapcbfeifeobhaa
