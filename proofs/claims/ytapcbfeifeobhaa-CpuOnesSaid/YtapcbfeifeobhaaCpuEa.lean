/- cpu.plain: jumps. -/
import Derived.Test.YtapcbfeifeobhaaCpuE
set_option linter.unusedVariables false
set_option linter.unusedSimpArgs false
namespace Go.Proofs.Ytapcbfeifeobhaa
open Go.RowKit
set_option maxRecDepth 20000 in
set_option maxHeartbeats 8000000 in
theorem plain_30 {w : World} {gx : Nat} {s : Mach} (h : w.rowIs gx 36 17 (stV s)) (x y z : Nat) (hx : x < 16) (hy : y ≤ 255) (hz : z ≤ 255) (vx vy nx : Int) (v0 : 0 ≤ vx) (v1 : vx ≤ 4294967295) (y0 : 0 ≤ vy) (y1 : vy ≤ 4294967295) (n0 : 0 ≤ nx) (n1 : nx ≤ 4294967295) :
    Calls Try.prog 45 #[.pointer (some ⟨gx, 0, none⟩), .agg #[.int .u8 (30 : Nat), .int .u8 x, .int .u8 y, .int .u8 z], .int .u32 vx, .int .u32 vy, .int .u32 nx] w (PlainP gx s 30 x y z vx vy nx w) := by
  have hb1 := bnew w (.cells #[.int .u8 (30 : Nat), .int .u8 x, .int .u8 y, .int .u8 z] 24)
  have hl1 := heap_alloc_last w (.cells #[.int .u8 (30 : Nat), .int .u8 x, .int .u8 y, .int .u8 z] 24)
  have hc := rowcell hl1
  have HB1 := Lib.hid hb1
  have HL1 := Lib.hid hl1
  have HR1 := Lib.hid (h.of_block (hb1.block gx h.lt))
  have HJ := Lib.hid (fun w => opsJump_any ((30 : Nat) : Int) x y z (by omega) (by omega) (by omega) (by omega) w)
  obtain ⟨jj, hj⟩ : ∃ jj, jj = jump ((y : Int) + 256 * z) := ⟨_, rfl⟩
  rw [← hj] at HJ
  have hj0 : -32768 ≤ jj ∧ jj ≤ 32767 := by rw [hj]; unfold jump; split <;> omega
  have HJJ := Lib.hid hj
  have HG := Lib.hid h.lt
  clear hb1 hl1 hj h
  go_enter Try.func45, Try.ntmps45
  go_wp2_with fail
  obtain ⟨N, hN⟩ : ∃ N, N = w.heap.size := ⟨_, rfl⟩
  rw [← hN] at hc ⊢
  have HN := Lib.hid hN
  generalize w.alloc (.cells #[.int .u8 (30 : Nat), .int .u8 x, .int .u8 y, .int .u8 z] 24) = w1 at *
  clear hN
  refine (HJ.out _).mono ?_
  rintro e w2 ⟨rfl, hb2⟩
  have hl2 := bkeep hb2 HL1.out
  rw [← HN.out] at hl2
  have hr2 := HR1.out.of_block (hb2.block gx HR1.out.lt)
  have HR2 := Lib.hid hr2
  have HL2 := Lib.hid hl2
  have HB2 := Lib.hid (bnext HB1.out hb2)
  have hc2 := rowcell hl2
  have hxi : (x : Int) < 16 := by omega
  clear hb2 hl2 hc hr2
  go_wp2_with fail
  go_ret
  exact ⟨by rw [HJJ.out]; rfl, HR2.out, Chg.of_below _ HB2.out⟩
set_option maxRecDepth 20000 in
set_option maxHeartbeats 8000000 in
theorem plain_31 {w : World} {gx : Nat} {s : Mach} (h : w.rowIs gx 36 17 (stV s)) (x y z : Nat) (hx : x < 16) (hy : y ≤ 255) (hz : z ≤ 255) (vx vy nx : Int) (v0 : 0 ≤ vx) (v1 : vx ≤ 4294967295) (y0 : 0 ≤ vy) (y1 : vy ≤ 4294967295) (n0 : 0 ≤ nx) (n1 : nx ≤ 4294967295) :
    Calls Try.prog 45 #[.pointer (some ⟨gx, 0, none⟩), .agg #[.int .u8 (31 : Nat), .int .u8 x, .int .u8 y, .int .u8 z], .int .u32 vx, .int .u32 vy, .int .u32 nx] w (PlainP gx s 31 x y z vx vy nx w) := by
  have hb1 := bnew w (.cells #[.int .u8 (31 : Nat), .int .u8 x, .int .u8 y, .int .u8 z] 24)
  have hl1 := heap_alloc_last w (.cells #[.int .u8 (31 : Nat), .int .u8 x, .int .u8 y, .int .u8 z] 24)
  have hc := rowcell hl1
  have HB1 := Lib.hid hb1
  have HL1 := Lib.hid hl1
  have HR1 := Lib.hid (h.of_block (hb1.block gx h.lt))
  have HJ := Lib.hid (fun w => opsJump_any ((31 : Nat) : Int) x y z (by omega) (by omega) (by omega) (by omega) w)
  obtain ⟨jj, hj⟩ : ∃ jj, jj = jump ((y : Int) + 256 * z) := ⟨_, rfl⟩
  rw [← hj] at HJ
  have hj0 : -32768 ≤ jj ∧ jj ≤ 32767 := by rw [hj]; unfold jump; split <;> omega
  have HJJ := Lib.hid hj
  have HG := Lib.hid h.lt
  clear hb1 hl1 hj h
  go_enter Try.func45, Try.ntmps45
  go_wp2_with fail
  obtain ⟨N, hN⟩ : ∃ N, N = w.heap.size := ⟨_, rfl⟩
  rw [← hN] at hc ⊢
  have HN := Lib.hid hN
  generalize w.alloc (.cells #[.int .u8 (31 : Nat), .int .u8 x, .int .u8 y, .int .u8 z] 24) = w1 at *
  clear hN
  refine (HJ.out _).mono ?_
  rintro e w2 ⟨rfl, hb2⟩
  have hl2 := bkeep hb2 HL1.out
  rw [← HN.out] at hl2
  have hr2 := HR1.out.of_block (hb2.block gx HR1.out.lt)
  have HR2 := Lib.hid hr2
  have HL2 := Lib.hid hl2
  have HB2 := Lib.hid (bnext HB1.out hb2)
  have hc2 := rowcell hl2
  have hxi : (x : Int) < 16 := by omega
  clear hb2 hl2 hc hr2
  by_cases hv : vx = 0
  · have q1 : (vx == 0) = true := by rw [beq_iff_eq]; exact hv
    have q2 : (vx != 0) = false := by rw [bne_eq_false_iff_eq]; exact hv
    have HV := Lib.hid hv
    clear hv
    go_wp2_with fail
    go_ret
    exact ⟨by rw [HJJ.out]; unfold plainI; simp only [HV.out, if_true]; rfl, HR2.out, Chg.of_below _ HB2.out⟩
  · have q1 : (vx == 0) = false := by rw [beq_eq_false_iff_ne]; exact hv
    have q2 : (vx != 0) = true := by rw [bne_iff_ne]; exact hv
    have HV := Lib.hid hv
    clear hv
    go_wp2_with fail
    go_ret
    exact ⟨by rw [HJJ.out]; unfold plainI; simp only [HV.out, if_false]; rfl, HR2.out, Chg.of_below _ HB2.out⟩
set_option maxRecDepth 20000 in
set_option maxHeartbeats 8000000 in
theorem plain_32 {w : World} {gx : Nat} {s : Mach} (h : w.rowIs gx 36 17 (stV s)) (x y z : Nat) (hx : x < 16) (hy : y ≤ 255) (hz : z ≤ 255) (vx vy nx : Int) (v0 : 0 ≤ vx) (v1 : vx ≤ 4294967295) (y0 : 0 ≤ vy) (y1 : vy ≤ 4294967295) (n0 : 0 ≤ nx) (n1 : nx ≤ 4294967295) :
    Calls Try.prog 45 #[.pointer (some ⟨gx, 0, none⟩), .agg #[.int .u8 (32 : Nat), .int .u8 x, .int .u8 y, .int .u8 z], .int .u32 vx, .int .u32 vy, .int .u32 nx] w (PlainP gx s 32 x y z vx vy nx w) := by
  have hb1 := bnew w (.cells #[.int .u8 (32 : Nat), .int .u8 x, .int .u8 y, .int .u8 z] 24)
  have hl1 := heap_alloc_last w (.cells #[.int .u8 (32 : Nat), .int .u8 x, .int .u8 y, .int .u8 z] 24)
  have hc := rowcell hl1
  have HB1 := Lib.hid hb1
  have HL1 := Lib.hid hl1
  have HR1 := Lib.hid (h.of_block (hb1.block gx h.lt))
  have HJ := Lib.hid (fun w => opsJump_any ((32 : Nat) : Int) x y z (by omega) (by omega) (by omega) (by omega) w)
  obtain ⟨jj, hj⟩ : ∃ jj, jj = jump ((y : Int) + 256 * z) := ⟨_, rfl⟩
  rw [← hj] at HJ
  have hj0 : -32768 ≤ jj ∧ jj ≤ 32767 := by rw [hj]; unfold jump; split <;> omega
  have HJJ := Lib.hid hj
  have HG := Lib.hid h.lt
  clear hb1 hl1 hj h
  go_enter Try.func45, Try.ntmps45
  go_wp2_with fail
  obtain ⟨N, hN⟩ : ∃ N, N = w.heap.size := ⟨_, rfl⟩
  rw [← hN] at hc ⊢
  have HN := Lib.hid hN
  generalize w.alloc (.cells #[.int .u8 (32 : Nat), .int .u8 x, .int .u8 y, .int .u8 z] 24) = w1 at *
  clear hN
  refine (HJ.out _).mono ?_
  rintro e w2 ⟨rfl, hb2⟩
  have hl2 := bkeep hb2 HL1.out
  rw [← HN.out] at hl2
  have hr2 := HR1.out.of_block (hb2.block gx HR1.out.lt)
  have HR2 := Lib.hid hr2
  have HL2 := Lib.hid hl2
  have HB2 := Lib.hid (bnext HB1.out hb2)
  have hc2 := rowcell hl2
  have hxi : (x : Int) < 16 := by omega
  clear hb2 hl2 hc hr2
  by_cases hv : vx = 0
  · have q1 : (vx == 0) = true := by rw [beq_iff_eq]; exact hv
    have q2 : (vx != 0) = false := by rw [bne_eq_false_iff_eq]; exact hv
    have HV := Lib.hid hv
    clear hv
    go_wp2_with fail
    go_ret
    exact ⟨by rw [HJJ.out]; unfold plainI; simp only [HV.out, if_true]; rfl, HR2.out, Chg.of_below _ HB2.out⟩
  · have q1 : (vx == 0) = false := by rw [beq_eq_false_iff_ne]; exact hv
    have q2 : (vx != 0) = true := by rw [bne_iff_ne]; exact hv
    have HV := Lib.hid hv
    clear hv
    go_wp2_with fail
    go_ret
    exact ⟨by rw [HJJ.out]; unfold plainI; simp only [HV.out, if_false]; rfl, HR2.out, Chg.of_below _ HB2.out⟩
set_option maxRecDepth 20000 in
set_option maxHeartbeats 8000000 in
theorem plain_33 {w : World} {gx : Nat} {s : Mach} (h : w.rowIs gx 36 17 (stV s)) (x y z : Nat) (hx : x < 16) (hy : y ≤ 255) (hz : z ≤ 255) (vx vy nx : Int) (v0 : 0 ≤ vx) (v1 : vx ≤ 4294967295) (y0 : 0 ≤ vy) (y1 : vy ≤ 4294967295) (n0 : 0 ≤ nx) (n1 : nx ≤ 4294967295) :
    Calls Try.prog 45 #[.pointer (some ⟨gx, 0, none⟩), .agg #[.int .u8 (33 : Nat), .int .u8 x, .int .u8 y, .int .u8 z], .int .u32 vx, .int .u32 vy, .int .u32 nx] w (PlainP gx s 33 x y z vx vy nx w) := by
  have hb1 := bnew w (.cells #[.int .u8 (33 : Nat), .int .u8 x, .int .u8 y, .int .u8 z] 24)
  have hl1 := heap_alloc_last w (.cells #[.int .u8 (33 : Nat), .int .u8 x, .int .u8 y, .int .u8 z] 24)
  have hc := rowcell hl1
  have HB1 := Lib.hid hb1
  have HL1 := Lib.hid hl1
  have HR1 := Lib.hid (h.of_block (hb1.block gx h.lt))
  have HJ := Lib.hid (fun w => opsJump_any ((33 : Nat) : Int) x y z (by omega) (by omega) (by omega) (by omega) w)
  obtain ⟨jj, hj⟩ : ∃ jj, jj = jump ((y : Int) + 256 * z) := ⟨_, rfl⟩
  rw [← hj] at HJ
  have hj0 : -32768 ≤ jj ∧ jj ≤ 32767 := by rw [hj]; unfold jump; split <;> omega
  have HJJ := Lib.hid hj
  have HG := Lib.hid h.lt
  clear hb1 hl1 hj h
  go_enter Try.func45, Try.ntmps45
  go_wp2_with fail
  obtain ⟨N, hN⟩ : ∃ N, N = w.heap.size := ⟨_, rfl⟩
  rw [← hN] at hc ⊢
  have HN := Lib.hid hN
  generalize w.alloc (.cells #[.int .u8 (33 : Nat), .int .u8 x, .int .u8 y, .int .u8 z] 24) = w1 at *
  clear hN
  refine (HJ.out _).mono ?_
  rintro e w2 ⟨rfl, hb2⟩
  have hl2 := bkeep hb2 HL1.out
  rw [← HN.out] at hl2
  have hr2 := HR1.out.of_block (hb2.block gx HR1.out.lt)
  have HR2 := Lib.hid hr2
  have HL2 := Lib.hid hl2
  have HB2 := Lib.hid (bnext HB1.out hb2)
  have hc2 := rowcell hl2
  have hxi : (x : Int) < 16 := by omega
  clear hb2 hl2 hc hr2
  have c15 : w2.cell? ⟨gx, 15, none⟩ = some (.int .u32 (s.R 15)) := HR2.out.cell (i := 15) (by omega)
  have cf := HR2.out.frozen
  go_wp2_with fail
  go_ret
  exact ⟨by rw [HJJ.out]; rfl, row_set HR2.out 15 (by omega) nx, chgOne (Chg.of_below _ HB2.out) (one_setCell w2 gx 15 (.int .u32 nx)) (fun x e => .inl (by cases e; rfl))⟩
set_option maxRecDepth 20000 in
set_option maxHeartbeats 8000000 in
theorem plain_34 {w : World} {gx : Nat} {s : Mach} (h : w.rowIs gx 36 17 (stV s)) (x y z : Nat) (hx : x < 16) (hy : y ≤ 255) (hz : z ≤ 255) (vx vy nx : Int) (v0 : 0 ≤ vx) (v1 : vx ≤ 4294967295) (y0 : 0 ≤ vy) (y1 : vy ≤ 4294967295) (n0 : 0 ≤ nx) (n1 : nx ≤ 4294967295) :
    Calls Try.prog 45 #[.pointer (some ⟨gx, 0, none⟩), .agg #[.int .u8 (34 : Nat), .int .u8 x, .int .u8 y, .int .u8 z], .int .u32 vx, .int .u32 vy, .int .u32 nx] w (PlainP gx s 34 x y z vx vy nx w) := by
  have hb1 := bnew w (.cells #[.int .u8 (34 : Nat), .int .u8 x, .int .u8 y, .int .u8 z] 24)
  have hl1 := heap_alloc_last w (.cells #[.int .u8 (34 : Nat), .int .u8 x, .int .u8 y, .int .u8 z] 24)
  have hc := rowcell hl1
  have HB1 := Lib.hid hb1
  have HL1 := Lib.hid hl1
  have HR1 := Lib.hid (h.of_block (hb1.block gx h.lt))
  have HJ := Lib.hid (fun w => opsJump_any ((34 : Nat) : Int) x y z (by omega) (by omega) (by omega) (by omega) w)
  obtain ⟨jj, hj⟩ : ∃ jj, jj = jump ((y : Int) + 256 * z) := ⟨_, rfl⟩
  rw [← hj] at HJ
  have hj0 : -32768 ≤ jj ∧ jj ≤ 32767 := by rw [hj]; unfold jump; split <;> omega
  have HJJ := Lib.hid hj
  have HG := Lib.hid h.lt
  clear hb1 hl1 hj h
  go_enter Try.func45, Try.ntmps45
  go_wp2_with fail
  obtain ⟨N, hN⟩ : ∃ N, N = w.heap.size := ⟨_, rfl⟩
  rw [← hN] at hc ⊢
  have HN := Lib.hid hN
  generalize w.alloc (.cells #[.int .u8 (34 : Nat), .int .u8 x, .int .u8 y, .int .u8 z] 24) = w1 at *
  clear hN
  refine (HJ.out _).mono ?_
  rintro e w2 ⟨rfl, hb2⟩
  have hl2 := bkeep hb2 HL1.out
  rw [← HN.out] at hl2
  have hr2 := HR1.out.of_block (hb2.block gx HR1.out.lt)
  have HR2 := Lib.hid hr2
  have HL2 := Lib.hid hl2
  have HB2 := Lib.hid (bnext HB1.out hb2)
  have hc2 := rowcell hl2
  have hxi : (x : Int) < 16 := by omega
  clear hb2 hl2 hc hr2
  have c15 : w2.cell? ⟨gx, 15, none⟩ = some (.int .u32 (s.R 15)) := HR2.out.cell (i := 15) (by omega)
  go_wp2_with fail
  go_ret
  exact ⟨rfl, HR2.out, Chg.of_below _ HB2.out⟩
set_option maxRecDepth 20000 in
set_option maxHeartbeats 8000000 in
theorem plain_35 {w : World} {gx : Nat} {s : Mach} (h : w.rowIs gx 36 17 (stV s)) (x y z : Nat) (hx : x < 16) (hy : y ≤ 255) (hz : z ≤ 255) (vx vy nx : Int) (v0 : 0 ≤ vx) (v1 : vx ≤ 4294967295) (y0 : 0 ≤ vy) (y1 : vy ≤ 4294967295) (n0 : 0 ≤ nx) (n1 : nx ≤ 4294967295) :
    Calls Try.prog 45 #[.pointer (some ⟨gx, 0, none⟩), .agg #[.int .u8 (35 : Nat), .int .u8 x, .int .u8 y, .int .u8 z], .int .u32 vx, .int .u32 vy, .int .u32 nx] w (PlainP gx s 35 x y z vx vy nx w) := by
  have hb1 := bnew w (.cells #[.int .u8 (35 : Nat), .int .u8 x, .int .u8 y, .int .u8 z] 24)
  have hl1 := heap_alloc_last w (.cells #[.int .u8 (35 : Nat), .int .u8 x, .int .u8 y, .int .u8 z] 24)
  have hc := rowcell hl1
  have HB1 := Lib.hid hb1
  have HL1 := Lib.hid hl1
  have HR1 := Lib.hid (h.of_block (hb1.block gx h.lt))
  have HJ := Lib.hid (fun w => opsJump_any ((35 : Nat) : Int) x y z (by omega) (by omega) (by omega) (by omega) w)
  obtain ⟨jj, hj⟩ : ∃ jj, jj = jump ((y : Int) + 256 * z) := ⟨_, rfl⟩
  rw [← hj] at HJ
  have hj0 : -32768 ≤ jj ∧ jj ≤ 32767 := by rw [hj]; unfold jump; split <;> omega
  have HJJ := Lib.hid hj
  have HG := Lib.hid h.lt
  clear hb1 hl1 hj h
  go_enter Try.func45, Try.ntmps45
  go_wp2_with fail
  obtain ⟨N, hN⟩ : ∃ N, N = w.heap.size := ⟨_, rfl⟩
  rw [← hN] at hc ⊢
  have HN := Lib.hid hN
  generalize w.alloc (.cells #[.int .u8 (35 : Nat), .int .u8 x, .int .u8 y, .int .u8 z] 24) = w1 at *
  clear hN
  refine (HJ.out _).mono ?_
  rintro e w2 ⟨rfl, hb2⟩
  have hl2 := bkeep hb2 HL1.out
  rw [← HN.out] at hl2
  have hr2 := HR1.out.of_block (hb2.block gx HR1.out.lt)
  have HR2 := Lib.hid hr2
  have HL2 := Lib.hid hl2
  have HB2 := Lib.hid (bnext HB1.out hb2)
  have hc2 := rowcell hl2
  have hxi : (x : Int) < 16 := by omega
  clear hb2 hl2 hc hr2
  go_wp2_with fail
  go_ret
  exact ⟨rfl, HR2.out, Chg.of_below _ HB2.out⟩
end Go.Proofs.Ytapcbfeifeobhaa
