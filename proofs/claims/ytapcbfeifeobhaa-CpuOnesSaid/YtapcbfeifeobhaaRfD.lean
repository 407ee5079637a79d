/- The document's step. -/
import Derived.Test.YtapcbfeifeobhaaRf0
set_option linter.unusedVariables false
set_option linter.unusedSimpArgs false
namespace Go.Proofs.Ytapcbfeifeobhaa
open Go.RowKit
set_option maxRecDepth 100000 in
set_option maxHeartbeats 16000000 in
theorem refStep_8a {w : World} {gy gb N m cap : Nat} {A : Option Addr} {s : Mach} (h : DW w gy gb N m A cap s) (x y z : Nat) (hx : x < 16) (hy : y ≤ 255) (hz : z ≤ 255) (hcnd : s.R (z % 16) = 0) :
    Calls Try.prog 29 #[.pointer (some ⟨gy, 0, none⟩), .agg #[.int .u8 8, .int .u8 x, .int .u8 y, .int .u8 z]] w (RefP gy gb N m A cap s 8 x y z w) := by
  have HCND := Lib.hid hcnd
  clear hcnd
  have hb1 := bnew w (.cells #[.int .u8 8, .int .u8 x, .int .u8 y, .int .u8 z] 24)
  have hl1 := heap_alloc_last w (.cells #[.int .u8 8, .int .u8 x, .int .u8 y, .int .u8 z] 24)
  have hh := h.keep hb1
  have hc := rowcell hl1
  obtain ⟨ym, zm, vx, vy, vz, va, nx, wd, sj, q4, far, sn, q8, nr, fym, lym, fzm, lzm, fx, lx, rx, ry, rz, ra, rn, fn2, rw0, fwd, rj, fq4, rf, rsn, fq8, rnr, HYM, HZM, HVX, HVY, HVZ, HNX, HWD, HSJ, HFAR, HSN, HNR, HVA, HS16, HWR, HS8, HWN, HQ4, HQ8, HVX2⟩ := stepPre h x y z hx hy hz
  have HB1 := Lib.hid hb1
  have HL1 := Lib.hid hl1
  have HH := Lib.hid hh
  clear hb1 hl1 hh h
  have cc : vz = 0 := by rw [HVZ.out, HZM.out]; exact HCND.out
  have c2 : (vz == 0) = true := by rw [beq_iff_eq]; exact cc
  go_enter Try.func29, Try.ntmps29
  go_upto_region 1 with fail
  obtain ⟨NI, hN⟩ : ∃ N, N = w.heap.size := ⟨_, rfl⟩
  rw [← hN] at hc ⊢
  have HN := Lib.hid hN
  generalize w.alloc (.cells #[.int .u8 8, .int .u8 x, .int .u8 y, .int .u8 z] 24) = w1 at *
  clear hN hc
  have hl1 := HL1.out
  rw [← HN.out] at hl1
  have hS0 : (fun w' : World => w'.heap[NI]? = some (.cells #[.int .u8 8, .int .u8 x, .int .u8 y, .int .u8 z] 24 (0, 0))) (World.drew w1) := hl1
  have HL1' := Lib.hid hl1
  clear hl1
  refine wp_region_held (S := fun w' : World => w'.heap[NI]? = some (.cells #[.int .u8 8, .int .u8 x, .int .u8 y, .int .u8 z] 24 (0, 0))) (by kernel_rfl) ?_
  change wpAnyH _ _ _ _ _ _ _ _ (World.drew _)
  refine takeH 1 (.pointer (some ⟨NI, 0, none⟩)) (some 28) rfl rfl (by kernel_rfl) (by kernel_rfl) (by kernel_rfl) (fun _ _ _ h => h) (.inl ⟨by kernel_rfl, fun w _ => by go_simp⟩) hS0 ?_
  refine takeH 2 (.int .u8 8) (some 29) rfl rfl (by kernel_rfl) (by kernel_rfl) (by kernel_rfl) (fun _ _ _ h => h) (.inl ⟨by kernel_rfl, fun w hw => by have hc := rowcell hw; go_simp⟩) hS0 ?_
  refine callH 0 rfl (by kernel_rfl) (by kernel_rfl) (some 27) rfl 22 #[] ?hrun ((refNames_any _).mono ?_)
  case hrun => go_simp
  rintro e w2 ⟨he, hw2⟩
  have hG : w2.heap[w1.heap.size]? = some (.cells nameVals 9) := by rw [← hw2]; exact heap_alloc_last w1.drew _
  have hb2 : Below w1.heap.size w1 w2 := by rw [← hw2]; exact bnext (drewb w1) (bnew w1.drew _)
  have hS2 := bkeep hb2 HL1'.out
  have C5 := rowcell hG
  have hsz : w1.drew.heap.size = w1.heap.size := rfl
  rw [hsz] at he
  obtain ⟨G, hGG⟩ : ∃ G, G = w1.heap.size := ⟨_, rfl⟩
  rw [← hGG] at he C5
  have HB2 := Lib.hid hb2
  clear hw2 hG hb2 hsz hS0 hGG
  refine ⟨_, he, hS2, ?_⟩
  have C6 : w2.cell? ⟨G, 8, none⟩ = some (.string ⟨#[100, 105, 118]⟩) := by rw [C5]; rfl
  clear C5
  refine runH 3 (.pointer (some ⟨G, 8, none⟩)) (some 30) rfl (by kernel_rfl) (by kernel_rfl) rfl (by go_simp) hS2 ?_
  refine runH 4 (.string ⟨#[100, 105, 118]⟩) (some 31) rfl (by kernel_rfl) (by kernel_rfl) rfl (by go_simp) hS2 ?_
  refine runH 5 (.string ⟨#[100, 105, 118]⟩) (some 5) rfl (by kernel_rfl) (by kernel_rfl) rfl (by go_simp) hS2 ?_
  refine wpAnyH_done (by kernel_rfl) ?_ _
  go_simp
  have HL2 := Lib.hid hS2
  have HH2 := Lib.hid (HH.out.keep HB2.out)
  have HBB := Lib.hid (bnext HB1.out HB2.out)
  clear C6 hS2 HL1' he HH HL1 HB1
  have hc := rowcell HL2.out
  have c16 := HH2.out.at_
  rw [← HVA.out] at c16
  have cx := HH2.out.reg x hx
  rw [← HVX.out] at cx
  have cy := HH2.out.reg ym (by omega)
  rw [← HVY.out] at cy
  have cz := HH2.out.reg zm (by omega)
  rw [← HVZ.out] at cz
  go_wp2_with fail
  refine (HS16.out _).mono ?_; rintro e wx ⟨rfl, hwx⟩; subst hwx
  go_wp2_with fail
  refine (HWR.out _).mono ?_; rintro e wx ⟨rfl, hwx⟩; subst hwx
  go_upto_region 5 with fail
  go_quiet (fail)
  go_upto_region 6 with fail
  go_quiet (fail)
  go_upto_region 7 with fail
  go_quiet (fail)
  go_wp2_with fail
  refine (HS8.out _).mono ?_; rintro e w3 ⟨rfl, hw3⟩
  have hb3 : Below w2.heap.size w2 w3 := by rw [← hw3]; exact bdrewN (Below.refl _ _) _
  clear hw3 hc c16 cx cy cz
  have HL3 := Lib.hid (bkeep hb3 HL2.out)
  have HH3 := Lib.hid (HH2.out.keep hb3)
  have HB3 := Lib.hid (bnext HBB.out hb3)
  clear hb3 HL2 HH2 HBB
  go_wp2_with fail
  refine (HWN.out _).mono ?_; rintro e wx ⟨rfl, hwx⟩; subst hwx
  have hc := rowcell HL3.out
  go_wp2_with fail
  have HST := Lib.hid (show stepI m s 8 x y z = (s, 31) by show (if (numI 8 (s.R (y % 16)) (s.R (z % 16))).2 = 0 then _ else _) = _; rw [show numI 8 (s.R (y % 16)) (s.R (z % 16)) = (0, 31) by show (if s.R (z % 16) = 0 then _ else _) = _; rw [if_pos HCND.out]]; rfl)
  go_ret
  refine ⟨?_, ?_, Chg.of_below (dwS gy gb) HB3.out⟩
  · rw [HST.out]; rfl
  · rw [HST.out]; exact HH3.out
set_option maxRecDepth 100000 in
set_option maxHeartbeats 16000000 in
theorem refStep_8b {w : World} {gy gb N m cap : Nat} {A : Option Addr} {s : Mach} (h : DW w gy gb N m A cap s) (x y z : Nat) (hx : x < 16) (hy : y ≤ 255) (hz : z ≤ 255) (hcnd : ¬ s.R (z % 16) = 0) :
    Calls Try.prog 29 #[.pointer (some ⟨gy, 0, none⟩), .agg #[.int .u8 8, .int .u8 x, .int .u8 y, .int .u8 z]] w (RefP gy gb N m A cap s 8 x y z w) := by
  have HCND := Lib.hid hcnd
  clear hcnd
  have hb1 := bnew w (.cells #[.int .u8 8, .int .u8 x, .int .u8 y, .int .u8 z] 24)
  have hl1 := heap_alloc_last w (.cells #[.int .u8 8, .int .u8 x, .int .u8 y, .int .u8 z] 24)
  have hh := h.keep hb1
  have hc := rowcell hl1
  obtain ⟨ym, zm, vx, vy, vz, va, nx, wd, sj, q4, far, sn, q8, nr, fym, lym, fzm, lzm, fx, lx, rx, ry, rz, ra, rn, fn2, rw0, fwd, rj, fq4, rf, rsn, fq8, rnr, HYM, HZM, HVX, HVY, HVZ, HNX, HWD, HSJ, HFAR, HSN, HNR, HVA, HS16, HWR, HS8, HWN, HQ4, HQ8, HVX2⟩ := stepPre h x y z hx hy hz
  have HB1 := Lib.hid hb1
  have HL1 := Lib.hid hl1
  have HH := Lib.hid hh
  clear hb1 hl1 hh h
  have cc : ¬ vz = 0 := by rw [HVZ.out, HZM.out]; exact HCND.out
  have c2 : (vz == 0) = false := by rw [beq_eq_false_iff_ne]; exact cc
  have cz0 : 0 < vz := by omega
  obtain ⟨qv, hqv⟩ : ∃ k, k = vy / vz := ⟨_, rfl⟩
  have HQV := Lib.hid hqv
  have bqv : 0 ≤ qv ∧ qv ≤ 4294967295 := by rw [hqv]; exact div_bounds vy vz ry.1 ry.2 cz0
  have fq1 : vy / vz = qv := hqv.symm
  have fq2 : vy.tdiv vz = qv := by rw [Int.tdiv_eq_ediv_of_nonneg ry.1]; exact hqv.symm
  clear hqv
  obtain ⟨rv, hrv⟩ : ∃ k, k = vy % vz := ⟨_, rfl⟩
  have HRV := Lib.hid hrv
  have brv : 0 ≤ rv ∧ rv ≤ 4294967295 := by rw [hrv]; exact mod_bounds vy vz cz0 rz.2
  have fr1 : vy % vz = rv := hrv.symm
  have fr2 : vy.tmod vz = rv := by rw [Int.tmod_eq_emod_of_nonneg ry.1]; exact hrv.symm
  clear hrv
  go_enter Try.func29, Try.ntmps29
  go_upto_region 1 with fail
  obtain ⟨NI, hN⟩ : ∃ N, N = w.heap.size := ⟨_, rfl⟩
  rw [← hN] at hc ⊢
  have HN := Lib.hid hN
  generalize w.alloc (.cells #[.int .u8 8, .int .u8 x, .int .u8 y, .int .u8 z] 24) = w1 at *
  clear hN hc
  have hl1 := HL1.out
  rw [← HN.out] at hl1
  have hS0 : (fun w' : World => w'.heap[NI]? = some (.cells #[.int .u8 8, .int .u8 x, .int .u8 y, .int .u8 z] 24 (0, 0))) (World.drew w1) := hl1
  have HL1' := Lib.hid hl1
  clear hl1
  refine wp_region_held (S := fun w' : World => w'.heap[NI]? = some (.cells #[.int .u8 8, .int .u8 x, .int .u8 y, .int .u8 z] 24 (0, 0))) (by kernel_rfl) ?_
  change wpAnyH _ _ _ _ _ _ _ _ (World.drew _)
  refine takeH 1 (.pointer (some ⟨NI, 0, none⟩)) (some 28) rfl rfl (by kernel_rfl) (by kernel_rfl) (by kernel_rfl) (fun _ _ _ h => h) (.inl ⟨by kernel_rfl, fun w _ => by go_simp⟩) hS0 ?_
  refine takeH 2 (.int .u8 8) (some 29) rfl rfl (by kernel_rfl) (by kernel_rfl) (by kernel_rfl) (fun _ _ _ h => h) (.inl ⟨by kernel_rfl, fun w hw => by have hc := rowcell hw; go_simp⟩) hS0 ?_
  refine callH 0 rfl (by kernel_rfl) (by kernel_rfl) (some 27) rfl 22 #[] ?hrun ((refNames_any _).mono ?_)
  case hrun => go_simp
  rintro e w2 ⟨he, hw2⟩
  have hG : w2.heap[w1.heap.size]? = some (.cells nameVals 9) := by rw [← hw2]; exact heap_alloc_last w1.drew _
  have hb2 : Below w1.heap.size w1 w2 := by rw [← hw2]; exact bnext (drewb w1) (bnew w1.drew _)
  have hS2 := bkeep hb2 HL1'.out
  have C5 := rowcell hG
  have hsz : w1.drew.heap.size = w1.heap.size := rfl
  rw [hsz] at he
  obtain ⟨G, hGG⟩ : ∃ G, G = w1.heap.size := ⟨_, rfl⟩
  rw [← hGG] at he C5
  have HB2 := Lib.hid hb2
  clear hw2 hG hb2 hsz hS0 hGG
  refine ⟨_, he, hS2, ?_⟩
  have C6 : w2.cell? ⟨G, 8, none⟩ = some (.string ⟨#[100, 105, 118]⟩) := by rw [C5]; rfl
  clear C5
  refine runH 3 (.pointer (some ⟨G, 8, none⟩)) (some 30) rfl (by kernel_rfl) (by kernel_rfl) rfl (by go_simp) hS2 ?_
  refine runH 4 (.string ⟨#[100, 105, 118]⟩) (some 31) rfl (by kernel_rfl) (by kernel_rfl) rfl (by go_simp) hS2 ?_
  refine runH 5 (.string ⟨#[100, 105, 118]⟩) (some 5) rfl (by kernel_rfl) (by kernel_rfl) rfl (by go_simp) hS2 ?_
  refine wpAnyH_done (by kernel_rfl) ?_ _
  go_simp
  have HL2 := Lib.hid hS2
  have HH2 := Lib.hid (HH.out.keep HB2.out)
  have HBB := Lib.hid (bnext HB1.out HB2.out)
  clear C6 hS2 HL1' he HH HL1 HB1
  have hc := rowcell HL2.out
  have c16 := HH2.out.at_
  rw [← HVA.out] at c16
  have cx := HH2.out.reg x hx
  rw [← HVX.out] at cx
  have cy := HH2.out.reg ym (by omega)
  rw [← HVY.out] at cy
  have cz := HH2.out.reg zm (by omega)
  rw [← HVZ.out] at cz
  go_wp2_with fail
  refine (HS16.out _).mono ?_; rintro e wx ⟨rfl, hwx⟩; subst hwx
  go_wp2_with fail
  refine (HWR.out _).mono ?_; rintro e wx ⟨rfl, hwx⟩; subst hwx
  go_upto_region 5 with fail
  go_quiet (fail)
  go_upto_region 6 with fail
  go_quiet (fail)
  go_upto_region 7 with fail
  go_quiet (fail)
  go_wp2_with fail
  refine (HS8.out _).mono ?_; rintro e w3 ⟨rfl, hw3⟩
  have hb3 : Below w2.heap.size w2 w3 := by rw [← hw3]; exact bdrewN (Below.refl _ _) _
  clear hw3 hc c16 cx cy cz
  have HL3 := Lib.hid (bkeep hb3 HL2.out)
  have HH3 := Lib.hid (HH2.out.keep hb3)
  have HB3 := Lib.hid (bnext HBB.out hb3)
  clear hb3 HL2 HH2 HBB
  go_wp2_with fail
  refine (HWN.out _).mono ?_; rintro e wx ⟨rfl, hwx⟩; subst hwx
  have hc := rowcell HL3.out
  go_wp2_with fail
  have hov : 0 ≤ qv ∧ qv ≤ 4294967295 := bqv
  have hnv : 0 ≤ nx ∧ nx ≤ 4294967295 := rn
  have HST := Lib.hid (show stepI m s 8 x y z = (setAt (setR s x qv) nx, 0) by show (if (numI 8 (s.R (y % 16)) (s.R (z % 16))).2 = 0 then _ else _) = _; rw [show numI 8 (s.R (y % 16)) (s.R (z % 16)) = (s.R (y % 16) / s.R (z % 16), 0) by show (if s.R (z % 16) = 0 then _ else _) = _; rw [if_neg (by first | exact HCND.out | exact Int.not_lt.2 HCND.out)]; rfl]; rw [HQV.out, HVY.out, HVZ.out, HYM.out, HZM.out, HNX.out]; rfl)
  have hfm : ∀ w, Calls Try.prog 9 #[.int .i64 8] w fun e w' => e = .returned (.int .i64 3) ∧ Below w.heap.size w w' := fun w => by have h := refForm_in 8 (by omega) (by omega) w; rw [show formOf (8 : Int).toNat = 3 from by decide] at h; exact h
  refine (hfm _).mono ?_; rintro e w4 ⟨rfl, hb4⟩
  have HL4 := Lib.hid (bkeep hb4 HL3.out)
  have HH4 := Lib.hid (HH3.out.keep hb4)
  have HC4 := Lib.hid ((Chg.of_below (dwS gy gb) HB3.out).trans (Chg.of_below (dwS gy gb) hb4) (fun _ _ h => h))
  clear hb4 hc hfm
  have hc := rowcell HL4.out
  have c16 := HH4.out.at_
  have fx2 : (x : Int).tmod 16 = x := by rw [Int.tmod_eq_emod_of_nonneg (by omega)]; omega
  have lx0 : (0 : Int) ≤ x := by omega
  have cx := HH4.out.reg x hx
  have fzx : w4.frozen? ⟨gy, x, none⟩ = false := HH4.out.rw.frozen _
  go_upto_region 130 with fail
  refine wp_region_still_tail 8 (by kernel_rfl) (by kernel_rfl) ?_
  simp only [List.take_succ_cons, List.take_zero, List.drop_succ_cons, List.drop_zero]
  change wpStill _ _ (World.drew w4) _ _ _
  iterate 8 still_step
  refine wpStill_nil ?_
  change wpList _ _ _ _ _ (World.drew w4)
  go_upto_region 131 with fail
  have hD5 : DW (World.drew (w4.setCell ⟨gy, x, none⟩ (.int .u32 qv))) gy gb N m A cap (setR s x qv) := (HH4.out.setR x hx _ hov.1 hov.2).keep (drewb _)
  have hC5 : Chg (dwS gy gb) w (World.drew (w4.setCell ⟨gy, x, none⟩ (.int .u32 qv))) := (HC4.out.trans (Chg.of_one (S := dwS gy gb) (one_setCell _ gy x _) (.inl rfl)) (fun _ _ h => h)).trans (Chg.of_below (dwS gy gb) (drewb _)) (fun _ _ h => h)
  generalize World.drew (w4.setCell ⟨gy, x, none⟩ (.int .u32 qv)) = w5 at *
  have HD5 := Lib.hid hD5
  have HC5 := Lib.hid hC5
  clear hD5 hC5 cx fzx hc HH4 HC4 HL4 c16
  have c16 := HD5.out.at_
  have fz16 : w5.frozen? ⟨gy, 16, none⟩ = false := HD5.out.rw.frozen _
  go_wp2_with fail
  go_ret
  refine ⟨?_, ?_, HC5.out.trans (Chg.of_one (S := dwS gy gb) (one_setCell _ gy 16 _) (.inl rfl)) (fun _ _ h => h)⟩
  · rw [HST.out]; rfl
  · rw [HST.out]; exact HD5.out.setAt _ hnv.1 hnv.2
set_option maxRecDepth 100000 in
set_option maxHeartbeats 16000000 in
theorem refStep_9a {w : World} {gy gb N m cap : Nat} {A : Option Addr} {s : Mach} (h : DW w gy gb N m A cap s) (x y z : Nat) (hx : x < 16) (hy : y ≤ 255) (hz : z ≤ 255) (hcnd : s.R (z % 16) = 0) :
    Calls Try.prog 29 #[.pointer (some ⟨gy, 0, none⟩), .agg #[.int .u8 9, .int .u8 x, .int .u8 y, .int .u8 z]] w (RefP gy gb N m A cap s 9 x y z w) := by
  have HCND := Lib.hid hcnd
  clear hcnd
  have hb1 := bnew w (.cells #[.int .u8 9, .int .u8 x, .int .u8 y, .int .u8 z] 24)
  have hl1 := heap_alloc_last w (.cells #[.int .u8 9, .int .u8 x, .int .u8 y, .int .u8 z] 24)
  have hh := h.keep hb1
  have hc := rowcell hl1
  obtain ⟨ym, zm, vx, vy, vz, va, nx, wd, sj, q4, far, sn, q8, nr, fym, lym, fzm, lzm, fx, lx, rx, ry, rz, ra, rn, fn2, rw0, fwd, rj, fq4, rf, rsn, fq8, rnr, HYM, HZM, HVX, HVY, HVZ, HNX, HWD, HSJ, HFAR, HSN, HNR, HVA, HS16, HWR, HS8, HWN, HQ4, HQ8, HVX2⟩ := stepPre h x y z hx hy hz
  have HB1 := Lib.hid hb1
  have HL1 := Lib.hid hl1
  have HH := Lib.hid hh
  clear hb1 hl1 hh h
  have cc : vz = 0 := by rw [HVZ.out, HZM.out]; exact HCND.out
  have c2 : (vz == 0) = true := by rw [beq_iff_eq]; exact cc
  go_enter Try.func29, Try.ntmps29
  go_upto_region 1 with fail
  obtain ⟨NI, hN⟩ : ∃ N, N = w.heap.size := ⟨_, rfl⟩
  rw [← hN] at hc ⊢
  have HN := Lib.hid hN
  generalize w.alloc (.cells #[.int .u8 9, .int .u8 x, .int .u8 y, .int .u8 z] 24) = w1 at *
  clear hN hc
  have hl1 := HL1.out
  rw [← HN.out] at hl1
  have hS0 : (fun w' : World => w'.heap[NI]? = some (.cells #[.int .u8 9, .int .u8 x, .int .u8 y, .int .u8 z] 24 (0, 0))) (World.drew w1) := hl1
  have HL1' := Lib.hid hl1
  clear hl1
  refine wp_region_held (S := fun w' : World => w'.heap[NI]? = some (.cells #[.int .u8 9, .int .u8 x, .int .u8 y, .int .u8 z] 24 (0, 0))) (by kernel_rfl) ?_
  change wpAnyH _ _ _ _ _ _ _ _ (World.drew _)
  refine takeH 1 (.pointer (some ⟨NI, 0, none⟩)) (some 28) rfl rfl (by kernel_rfl) (by kernel_rfl) (by kernel_rfl) (fun _ _ _ h => h) (.inl ⟨by kernel_rfl, fun w _ => by go_simp⟩) hS0 ?_
  refine takeH 2 (.int .u8 9) (some 29) rfl rfl (by kernel_rfl) (by kernel_rfl) (by kernel_rfl) (fun _ _ _ h => h) (.inl ⟨by kernel_rfl, fun w hw => by have hc := rowcell hw; go_simp⟩) hS0 ?_
  refine callH 0 rfl (by kernel_rfl) (by kernel_rfl) (some 27) rfl 22 #[] ?hrun ((refNames_any _).mono ?_)
  case hrun => go_simp
  rintro e w2 ⟨he, hw2⟩
  have hG : w2.heap[w1.heap.size]? = some (.cells nameVals 9) := by rw [← hw2]; exact heap_alloc_last w1.drew _
  have hb2 : Below w1.heap.size w1 w2 := by rw [← hw2]; exact bnext (drewb w1) (bnew w1.drew _)
  have hS2 := bkeep hb2 HL1'.out
  have C5 := rowcell hG
  have hsz : w1.drew.heap.size = w1.heap.size := rfl
  rw [hsz] at he
  obtain ⟨G, hGG⟩ : ∃ G, G = w1.heap.size := ⟨_, rfl⟩
  rw [← hGG] at he C5
  have HB2 := Lib.hid hb2
  clear hw2 hG hb2 hsz hS0 hGG
  refine ⟨_, he, hS2, ?_⟩
  have C6 : w2.cell? ⟨G, 9, none⟩ = some (.string ⟨#[114, 101, 109]⟩) := by rw [C5]; rfl
  clear C5
  refine runH 3 (.pointer (some ⟨G, 9, none⟩)) (some 30) rfl (by kernel_rfl) (by kernel_rfl) rfl (by go_simp) hS2 ?_
  refine runH 4 (.string ⟨#[114, 101, 109]⟩) (some 31) rfl (by kernel_rfl) (by kernel_rfl) rfl (by go_simp) hS2 ?_
  refine runH 5 (.string ⟨#[114, 101, 109]⟩) (some 5) rfl (by kernel_rfl) (by kernel_rfl) rfl (by go_simp) hS2 ?_
  refine wpAnyH_done (by kernel_rfl) ?_ _
  go_simp
  have HL2 := Lib.hid hS2
  have HH2 := Lib.hid (HH.out.keep HB2.out)
  have HBB := Lib.hid (bnext HB1.out HB2.out)
  clear C6 hS2 HL1' he HH HL1 HB1
  have hc := rowcell HL2.out
  have c16 := HH2.out.at_
  rw [← HVA.out] at c16
  have cx := HH2.out.reg x hx
  rw [← HVX.out] at cx
  have cy := HH2.out.reg ym (by omega)
  rw [← HVY.out] at cy
  have cz := HH2.out.reg zm (by omega)
  rw [← HVZ.out] at cz
  go_wp2_with fail
  refine (HS16.out _).mono ?_; rintro e wx ⟨rfl, hwx⟩; subst hwx
  go_wp2_with fail
  refine (HWR.out _).mono ?_; rintro e wx ⟨rfl, hwx⟩; subst hwx
  go_upto_region 5 with fail
  go_quiet (fail)
  go_upto_region 6 with fail
  go_quiet (fail)
  go_upto_region 7 with fail
  go_quiet (fail)
  go_wp2_with fail
  refine (HS8.out _).mono ?_; rintro e w3 ⟨rfl, hw3⟩
  have hb3 : Below w2.heap.size w2 w3 := by rw [← hw3]; exact bdrewN (Below.refl _ _) _
  clear hw3 hc c16 cx cy cz
  have HL3 := Lib.hid (bkeep hb3 HL2.out)
  have HH3 := Lib.hid (HH2.out.keep hb3)
  have HB3 := Lib.hid (bnext HBB.out hb3)
  clear hb3 HL2 HH2 HBB
  go_wp2_with fail
  refine (HWN.out _).mono ?_; rintro e wx ⟨rfl, hwx⟩; subst hwx
  have hc := rowcell HL3.out
  go_wp2_with fail
  have HST := Lib.hid (show stepI m s 9 x y z = (s, 31) by show (if (numI 9 (s.R (y % 16)) (s.R (z % 16))).2 = 0 then _ else _) = _; rw [show numI 9 (s.R (y % 16)) (s.R (z % 16)) = (0, 31) by show (if s.R (z % 16) = 0 then _ else _) = _; rw [if_pos HCND.out]]; rfl)
  go_ret
  refine ⟨?_, ?_, Chg.of_below (dwS gy gb) HB3.out⟩
  · rw [HST.out]; rfl
  · rw [HST.out]; exact HH3.out
set_option maxRecDepth 100000 in
set_option maxHeartbeats 16000000 in
theorem refStep_9b {w : World} {gy gb N m cap : Nat} {A : Option Addr} {s : Mach} (h : DW w gy gb N m A cap s) (x y z : Nat) (hx : x < 16) (hy : y ≤ 255) (hz : z ≤ 255) (hcnd : ¬ s.R (z % 16) = 0) :
    Calls Try.prog 29 #[.pointer (some ⟨gy, 0, none⟩), .agg #[.int .u8 9, .int .u8 x, .int .u8 y, .int .u8 z]] w (RefP gy gb N m A cap s 9 x y z w) := by
  have HCND := Lib.hid hcnd
  clear hcnd
  have hb1 := bnew w (.cells #[.int .u8 9, .int .u8 x, .int .u8 y, .int .u8 z] 24)
  have hl1 := heap_alloc_last w (.cells #[.int .u8 9, .int .u8 x, .int .u8 y, .int .u8 z] 24)
  have hh := h.keep hb1
  have hc := rowcell hl1
  obtain ⟨ym, zm, vx, vy, vz, va, nx, wd, sj, q4, far, sn, q8, nr, fym, lym, fzm, lzm, fx, lx, rx, ry, rz, ra, rn, fn2, rw0, fwd, rj, fq4, rf, rsn, fq8, rnr, HYM, HZM, HVX, HVY, HVZ, HNX, HWD, HSJ, HFAR, HSN, HNR, HVA, HS16, HWR, HS8, HWN, HQ4, HQ8, HVX2⟩ := stepPre h x y z hx hy hz
  have HB1 := Lib.hid hb1
  have HL1 := Lib.hid hl1
  have HH := Lib.hid hh
  clear hb1 hl1 hh h
  have cc : ¬ vz = 0 := by rw [HVZ.out, HZM.out]; exact HCND.out
  have c2 : (vz == 0) = false := by rw [beq_eq_false_iff_ne]; exact cc
  have cz0 : 0 < vz := by omega
  obtain ⟨qv, hqv⟩ : ∃ k, k = vy / vz := ⟨_, rfl⟩
  have HQV := Lib.hid hqv
  have bqv : 0 ≤ qv ∧ qv ≤ 4294967295 := by rw [hqv]; exact div_bounds vy vz ry.1 ry.2 cz0
  have fq1 : vy / vz = qv := hqv.symm
  have fq2 : vy.tdiv vz = qv := by rw [Int.tdiv_eq_ediv_of_nonneg ry.1]; exact hqv.symm
  clear hqv
  obtain ⟨rv, hrv⟩ : ∃ k, k = vy % vz := ⟨_, rfl⟩
  have HRV := Lib.hid hrv
  have brv : 0 ≤ rv ∧ rv ≤ 4294967295 := by rw [hrv]; exact mod_bounds vy vz cz0 rz.2
  have fr1 : vy % vz = rv := hrv.symm
  have fr2 : vy.tmod vz = rv := by rw [Int.tmod_eq_emod_of_nonneg ry.1]; exact hrv.symm
  clear hrv
  go_enter Try.func29, Try.ntmps29
  go_upto_region 1 with fail
  obtain ⟨NI, hN⟩ : ∃ N, N = w.heap.size := ⟨_, rfl⟩
  rw [← hN] at hc ⊢
  have HN := Lib.hid hN
  generalize w.alloc (.cells #[.int .u8 9, .int .u8 x, .int .u8 y, .int .u8 z] 24) = w1 at *
  clear hN hc
  have hl1 := HL1.out
  rw [← HN.out] at hl1
  have hS0 : (fun w' : World => w'.heap[NI]? = some (.cells #[.int .u8 9, .int .u8 x, .int .u8 y, .int .u8 z] 24 (0, 0))) (World.drew w1) := hl1
  have HL1' := Lib.hid hl1
  clear hl1
  refine wp_region_held (S := fun w' : World => w'.heap[NI]? = some (.cells #[.int .u8 9, .int .u8 x, .int .u8 y, .int .u8 z] 24 (0, 0))) (by kernel_rfl) ?_
  change wpAnyH _ _ _ _ _ _ _ _ (World.drew _)
  refine takeH 1 (.pointer (some ⟨NI, 0, none⟩)) (some 28) rfl rfl (by kernel_rfl) (by kernel_rfl) (by kernel_rfl) (fun _ _ _ h => h) (.inl ⟨by kernel_rfl, fun w _ => by go_simp⟩) hS0 ?_
  refine takeH 2 (.int .u8 9) (some 29) rfl rfl (by kernel_rfl) (by kernel_rfl) (by kernel_rfl) (fun _ _ _ h => h) (.inl ⟨by kernel_rfl, fun w hw => by have hc := rowcell hw; go_simp⟩) hS0 ?_
  refine callH 0 rfl (by kernel_rfl) (by kernel_rfl) (some 27) rfl 22 #[] ?hrun ((refNames_any _).mono ?_)
  case hrun => go_simp
  rintro e w2 ⟨he, hw2⟩
  have hG : w2.heap[w1.heap.size]? = some (.cells nameVals 9) := by rw [← hw2]; exact heap_alloc_last w1.drew _
  have hb2 : Below w1.heap.size w1 w2 := by rw [← hw2]; exact bnext (drewb w1) (bnew w1.drew _)
  have hS2 := bkeep hb2 HL1'.out
  have C5 := rowcell hG
  have hsz : w1.drew.heap.size = w1.heap.size := rfl
  rw [hsz] at he
  obtain ⟨G, hGG⟩ : ∃ G, G = w1.heap.size := ⟨_, rfl⟩
  rw [← hGG] at he C5
  have HB2 := Lib.hid hb2
  clear hw2 hG hb2 hsz hS0 hGG
  refine ⟨_, he, hS2, ?_⟩
  have C6 : w2.cell? ⟨G, 9, none⟩ = some (.string ⟨#[114, 101, 109]⟩) := by rw [C5]; rfl
  clear C5
  refine runH 3 (.pointer (some ⟨G, 9, none⟩)) (some 30) rfl (by kernel_rfl) (by kernel_rfl) rfl (by go_simp) hS2 ?_
  refine runH 4 (.string ⟨#[114, 101, 109]⟩) (some 31) rfl (by kernel_rfl) (by kernel_rfl) rfl (by go_simp) hS2 ?_
  refine runH 5 (.string ⟨#[114, 101, 109]⟩) (some 5) rfl (by kernel_rfl) (by kernel_rfl) rfl (by go_simp) hS2 ?_
  refine wpAnyH_done (by kernel_rfl) ?_ _
  go_simp
  have HL2 := Lib.hid hS2
  have HH2 := Lib.hid (HH.out.keep HB2.out)
  have HBB := Lib.hid (bnext HB1.out HB2.out)
  clear C6 hS2 HL1' he HH HL1 HB1
  have hc := rowcell HL2.out
  have c16 := HH2.out.at_
  rw [← HVA.out] at c16
  have cx := HH2.out.reg x hx
  rw [← HVX.out] at cx
  have cy := HH2.out.reg ym (by omega)
  rw [← HVY.out] at cy
  have cz := HH2.out.reg zm (by omega)
  rw [← HVZ.out] at cz
  go_wp2_with fail
  refine (HS16.out _).mono ?_; rintro e wx ⟨rfl, hwx⟩; subst hwx
  go_wp2_with fail
  refine (HWR.out _).mono ?_; rintro e wx ⟨rfl, hwx⟩; subst hwx
  go_upto_region 5 with fail
  go_quiet (fail)
  go_upto_region 6 with fail
  go_quiet (fail)
  go_upto_region 7 with fail
  go_quiet (fail)
  go_wp2_with fail
  refine (HS8.out _).mono ?_; rintro e w3 ⟨rfl, hw3⟩
  have hb3 : Below w2.heap.size w2 w3 := by rw [← hw3]; exact bdrewN (Below.refl _ _) _
  clear hw3 hc c16 cx cy cz
  have HL3 := Lib.hid (bkeep hb3 HL2.out)
  have HH3 := Lib.hid (HH2.out.keep hb3)
  have HB3 := Lib.hid (bnext HBB.out hb3)
  clear hb3 HL2 HH2 HBB
  go_wp2_with fail
  refine (HWN.out _).mono ?_; rintro e wx ⟨rfl, hwx⟩; subst hwx
  have hc := rowcell HL3.out
  go_wp2_with fail
  have hov : 0 ≤ rv ∧ rv ≤ 4294967295 := brv
  have hnv : 0 ≤ nx ∧ nx ≤ 4294967295 := rn
  have HST := Lib.hid (show stepI m s 9 x y z = (setAt (setR s x rv) nx, 0) by show (if (numI 9 (s.R (y % 16)) (s.R (z % 16))).2 = 0 then _ else _) = _; rw [show numI 9 (s.R (y % 16)) (s.R (z % 16)) = (s.R (y % 16) % s.R (z % 16), 0) by show (if s.R (z % 16) = 0 then _ else _) = _; rw [if_neg (by first | exact HCND.out | exact Int.not_lt.2 HCND.out)]; rfl]; rw [HRV.out, HVY.out, HVZ.out, HYM.out, HZM.out, HNX.out]; rfl)
  have hfm : ∀ w, Calls Try.prog 9 #[.int .i64 9] w fun e w' => e = .returned (.int .i64 3) ∧ Below w.heap.size w w' := fun w => by have h := refForm_in 9 (by omega) (by omega) w; rw [show formOf (9 : Int).toNat = 3 from by decide] at h; exact h
  refine (hfm _).mono ?_; rintro e w4 ⟨rfl, hb4⟩
  have HL4 := Lib.hid (bkeep hb4 HL3.out)
  have HH4 := Lib.hid (HH3.out.keep hb4)
  have HC4 := Lib.hid ((Chg.of_below (dwS gy gb) HB3.out).trans (Chg.of_below (dwS gy gb) hb4) (fun _ _ h => h))
  clear hb4 hc hfm
  have hc := rowcell HL4.out
  have c16 := HH4.out.at_
  have fx2 : (x : Int).tmod 16 = x := by rw [Int.tmod_eq_emod_of_nonneg (by omega)]; omega
  have lx0 : (0 : Int) ≤ x := by omega
  have cx := HH4.out.reg x hx
  have fzx : w4.frozen? ⟨gy, x, none⟩ = false := HH4.out.rw.frozen _
  go_upto_region 130 with fail
  refine wp_region_still_tail 8 (by kernel_rfl) (by kernel_rfl) ?_
  simp only [List.take_succ_cons, List.take_zero, List.drop_succ_cons, List.drop_zero]
  change wpStill _ _ (World.drew w4) _ _ _
  iterate 8 still_step
  refine wpStill_nil ?_
  change wpList _ _ _ _ _ (World.drew w4)
  go_upto_region 131 with fail
  have hD5 : DW (World.drew (w4.setCell ⟨gy, x, none⟩ (.int .u32 rv))) gy gb N m A cap (setR s x rv) := (HH4.out.setR x hx _ hov.1 hov.2).keep (drewb _)
  have hC5 : Chg (dwS gy gb) w (World.drew (w4.setCell ⟨gy, x, none⟩ (.int .u32 rv))) := (HC4.out.trans (Chg.of_one (S := dwS gy gb) (one_setCell _ gy x _) (.inl rfl)) (fun _ _ h => h)).trans (Chg.of_below (dwS gy gb) (drewb _)) (fun _ _ h => h)
  generalize World.drew (w4.setCell ⟨gy, x, none⟩ (.int .u32 rv)) = w5 at *
  have HD5 := Lib.hid hD5
  have HC5 := Lib.hid hC5
  clear hD5 hC5 cx fzx hc HH4 HC4 HL4 c16
  have c16 := HD5.out.at_
  have fz16 : w5.frozen? ⟨gy, 16, none⟩ = false := HD5.out.rw.frozen _
  go_wp2_with fail
  go_ret
  refine ⟨?_, ?_, HC5.out.trans (Chg.of_one (S := dwS gy gb) (one_setCell _ gy 16 _) (.inl rfl)) (fun _ _ h => h)⟩
  · rw [HST.out]; rfl
  · rw [HST.out]; exact HD5.out.setAt _ hnv.1 hnv.2
set_option maxRecDepth 100000 in
set_option maxHeartbeats 16000000 in
theorem refStep_10a {w : World} {gy gb N m cap : Nat} {A : Option Addr} {s : Mach} (h : DW w gy gb N m A cap s) (x y z : Nat) (hx : x < 16) (hy : y ≤ 255) (hz : z ≤ 255) (hcnd : s.R (z % 16) = 0) :
    Calls Try.prog 29 #[.pointer (some ⟨gy, 0, none⟩), .agg #[.int .u8 10, .int .u8 x, .int .u8 y, .int .u8 z]] w (RefP gy gb N m A cap s 10 x y z w) := by
  have HCND := Lib.hid hcnd
  clear hcnd
  have hb1 := bnew w (.cells #[.int .u8 10, .int .u8 x, .int .u8 y, .int .u8 z] 24)
  have hl1 := heap_alloc_last w (.cells #[.int .u8 10, .int .u8 x, .int .u8 y, .int .u8 z] 24)
  have hh := h.keep hb1
  have hc := rowcell hl1
  obtain ⟨ym, zm, vx, vy, vz, va, nx, wd, sj, q4, far, sn, q8, nr, fym, lym, fzm, lzm, fx, lx, rx, ry, rz, ra, rn, fn2, rw0, fwd, rj, fq4, rf, rsn, fq8, rnr, HYM, HZM, HVX, HVY, HVZ, HNX, HWD, HSJ, HFAR, HSN, HNR, HVA, HS16, HWR, HS8, HWN, HQ4, HQ8, HVX2⟩ := stepPre h x y z hx hy hz
  have HB1 := Lib.hid hb1
  have HL1 := Lib.hid hl1
  have HH := Lib.hid hh
  clear hb1 hl1 hh h
  have cc : vz = 0 := by rw [HVZ.out, HZM.out]; exact HCND.out
  have c2 : (vz == 0) = true := by rw [beq_iff_eq]; exact cc
  go_enter Try.func29, Try.ntmps29
  go_upto_region 1 with fail
  obtain ⟨NI, hN⟩ : ∃ N, N = w.heap.size := ⟨_, rfl⟩
  rw [← hN] at hc ⊢
  have HN := Lib.hid hN
  generalize w.alloc (.cells #[.int .u8 10, .int .u8 x, .int .u8 y, .int .u8 z] 24) = w1 at *
  clear hN hc
  have hl1 := HL1.out
  rw [← HN.out] at hl1
  have hS0 : (fun w' : World => w'.heap[NI]? = some (.cells #[.int .u8 10, .int .u8 x, .int .u8 y, .int .u8 z] 24 (0, 0))) (World.drew w1) := hl1
  have HL1' := Lib.hid hl1
  clear hl1
  refine wp_region_held (S := fun w' : World => w'.heap[NI]? = some (.cells #[.int .u8 10, .int .u8 x, .int .u8 y, .int .u8 z] 24 (0, 0))) (by kernel_rfl) ?_
  change wpAnyH _ _ _ _ _ _ _ _ (World.drew _)
  refine takeH 1 (.pointer (some ⟨NI, 0, none⟩)) (some 28) rfl rfl (by kernel_rfl) (by kernel_rfl) (by kernel_rfl) (fun _ _ _ h => h) (.inl ⟨by kernel_rfl, fun w _ => by go_simp⟩) hS0 ?_
  refine takeH 2 (.int .u8 10) (some 29) rfl rfl (by kernel_rfl) (by kernel_rfl) (by kernel_rfl) (fun _ _ _ h => h) (.inl ⟨by kernel_rfl, fun w hw => by have hc := rowcell hw; go_simp⟩) hS0 ?_
  refine callH 0 rfl (by kernel_rfl) (by kernel_rfl) (some 27) rfl 22 #[] ?hrun ((refNames_any _).mono ?_)
  case hrun => go_simp
  rintro e w2 ⟨he, hw2⟩
  have hG : w2.heap[w1.heap.size]? = some (.cells nameVals 9) := by rw [← hw2]; exact heap_alloc_last w1.drew _
  have hb2 : Below w1.heap.size w1 w2 := by rw [← hw2]; exact bnext (drewb w1) (bnew w1.drew _)
  have hS2 := bkeep hb2 HL1'.out
  have C5 := rowcell hG
  have hsz : w1.drew.heap.size = w1.heap.size := rfl
  rw [hsz] at he
  obtain ⟨G, hGG⟩ : ∃ G, G = w1.heap.size := ⟨_, rfl⟩
  rw [← hGG] at he C5
  have HB2 := Lib.hid hb2
  clear hw2 hG hb2 hsz hS0 hGG
  refine ⟨_, he, hS2, ?_⟩
  have C6 : w2.cell? ⟨G, 10, none⟩ = some (.string ⟨#[100, 105, 118, 115]⟩) := by rw [C5]; rfl
  clear C5
  refine runH 3 (.pointer (some ⟨G, 10, none⟩)) (some 30) rfl (by kernel_rfl) (by kernel_rfl) rfl (by go_simp) hS2 ?_
  refine runH 4 (.string ⟨#[100, 105, 118, 115]⟩) (some 31) rfl (by kernel_rfl) (by kernel_rfl) rfl (by go_simp) hS2 ?_
  refine runH 5 (.string ⟨#[100, 105, 118, 115]⟩) (some 5) rfl (by kernel_rfl) (by kernel_rfl) rfl (by go_simp) hS2 ?_
  refine wpAnyH_done (by kernel_rfl) ?_ _
  go_simp
  have HL2 := Lib.hid hS2
  have HH2 := Lib.hid (HH.out.keep HB2.out)
  have HBB := Lib.hid (bnext HB1.out HB2.out)
  clear C6 hS2 HL1' he HH HL1 HB1
  have hc := rowcell HL2.out
  have c16 := HH2.out.at_
  rw [← HVA.out] at c16
  have cx := HH2.out.reg x hx
  rw [← HVX.out] at cx
  have cy := HH2.out.reg ym (by omega)
  rw [← HVY.out] at cy
  have cz := HH2.out.reg zm (by omega)
  rw [← HVZ.out] at cz
  go_wp2_with fail
  refine (HS16.out _).mono ?_; rintro e wx ⟨rfl, hwx⟩; subst hwx
  go_wp2_with fail
  refine (HWR.out _).mono ?_; rintro e wx ⟨rfl, hwx⟩; subst hwx
  go_upto_region 5 with fail
  go_quiet (fail)
  go_upto_region 6 with fail
  go_quiet (fail)
  go_upto_region 7 with fail
  go_quiet (fail)
  go_wp2_with fail
  refine (HS8.out _).mono ?_; rintro e w3 ⟨rfl, hw3⟩
  have hb3 : Below w2.heap.size w2 w3 := by rw [← hw3]; exact bdrewN (Below.refl _ _) _
  clear hw3 hc c16 cx cy cz
  have HL3 := Lib.hid (bkeep hb3 HL2.out)
  have HH3 := Lib.hid (HH2.out.keep hb3)
  have HB3 := Lib.hid (bnext HBB.out hb3)
  clear hb3 HL2 HH2 HBB
  go_wp2_with fail
  refine (HWN.out _).mono ?_; rintro e wx ⟨rfl, hwx⟩; subst hwx
  have hc := rowcell HL3.out
  go_wp2_with fail
  have HST := Lib.hid (show stepI m s 10 x y z = (s, 31) by show (if (numI 10 (s.R (y % 16)) (s.R (z % 16))).2 = 0 then _ else _) = _; rw [show numI 10 (s.R (y % 16)) (s.R (z % 16)) = (0, 31) by show (if s.R (z % 16) = 0 then _ else _) = _; rw [if_pos HCND.out]]; rfl)
  go_ret
  refine ⟨?_, ?_, Chg.of_below (dwS gy gb) HB3.out⟩
  · rw [HST.out]; rfl
  · rw [HST.out]; exact HH3.out
set_option maxRecDepth 100000 in
set_option maxHeartbeats 16000000 in
theorem refStep_10b {w : World} {gy gb N m cap : Nat} {A : Option Addr} {s : Mach} (h : DW w gy gb N m A cap s) (x y z : Nat) (hx : x < 16) (hy : y ≤ 255) (hz : z ≤ 255) (hcnd : ¬ s.R (z % 16) = 0) :
    Calls Try.prog 29 #[.pointer (some ⟨gy, 0, none⟩), .agg #[.int .u8 10, .int .u8 x, .int .u8 y, .int .u8 z]] w (RefP gy gb N m A cap s 10 x y z w) := by
  have HCND := Lib.hid hcnd
  clear hcnd
  have hb1 := bnew w (.cells #[.int .u8 10, .int .u8 x, .int .u8 y, .int .u8 z] 24)
  have hl1 := heap_alloc_last w (.cells #[.int .u8 10, .int .u8 x, .int .u8 y, .int .u8 z] 24)
  have hh := h.keep hb1
  have hc := rowcell hl1
  obtain ⟨ym, zm, vx, vy, vz, va, nx, wd, sj, q4, far, sn, q8, nr, fym, lym, fzm, lzm, fx, lx, rx, ry, rz, ra, rn, fn2, rw0, fwd, rj, fq4, rf, rsn, fq8, rnr, HYM, HZM, HVX, HVY, HVZ, HNX, HWD, HSJ, HFAR, HSN, HNR, HVA, HS16, HWR, HS8, HWN, HQ4, HQ8, HVX2⟩ := stepPre h x y z hx hy hz
  have HB1 := Lib.hid hb1
  have HL1 := Lib.hid hl1
  have HH := Lib.hid hh
  clear hb1 hl1 hh h
  have cc : ¬ vz = 0 := by rw [HVZ.out, HZM.out]; exact HCND.out
  have c2 : (vz == 0) = false := by rw [beq_eq_false_iff_ne]; exact cc
  have cz0 : 0 < vz := by omega
  obtain ⟨qv, hqv⟩ : ∃ k, k = vy / vz := ⟨_, rfl⟩
  have HQV := Lib.hid hqv
  have bqv : 0 ≤ qv ∧ qv ≤ 4294967295 := by rw [hqv]; exact div_bounds vy vz ry.1 ry.2 cz0
  have fq1 : vy / vz = qv := hqv.symm
  have fq2 : vy.tdiv vz = qv := by rw [Int.tdiv_eq_ediv_of_nonneg ry.1]; exact hqv.symm
  clear hqv
  obtain ⟨rv, hrv⟩ : ∃ k, k = vy % vz := ⟨_, rfl⟩
  have HRV := Lib.hid hrv
  have brv : 0 ≤ rv ∧ rv ≤ 4294967295 := by rw [hrv]; exact mod_bounds vy vz cz0 rz.2
  have fr1 : vy % vz = rv := hrv.symm
  have fr2 : vy.tmod vz = rv := by rw [Int.tmod_eq_emod_of_nonneg ry.1]; exact hrv.symm
  clear hrv
  obtain ⟨sv, hsv⟩ : ∃ k, k = wrap32 vy := ⟨_, rfl⟩
  have HSV := Lib.hid hsv
  have bsv : -2147483648 ≤ sv ∧ sv ≤ 2147483647 := by rw [hsv]; simp only [wrap32]; omega
  have HSV32 := Lib.hid (fun w => by have h := refSigned32 vy ry.1 ry.2 w; rw [sg32_wrap vy ry.1 ry.2, ← hsv] at h; exact h)
  clear hsv
  obtain ⟨tv, htv⟩ : ∃ k, k = wrap32 vz := ⟨_, rfl⟩
  have HTV := Lib.hid htv
  have btv : -2147483648 ≤ tv ∧ tv ≤ 2147483647 := by rw [htv]; simp only [wrap32]; omega
  have HTV32 := Lib.hid (fun w => by have h := refSigned32 vz rz.1 rz.2 w; rw [sg32_wrap vz rz.1 rz.2, ← htv] at h; exact h)
  have tv0 : ¬ tv = 0 := by rw [htv]; simp only [wrap32]; omega
  have t2 : (tv == 0) = false := by rw [beq_eq_false_iff_ne]; exact tv0
  clear htv
  obtain ⟨dv, hdv⟩ : ∃ k, k = sv.tdiv tv := ⟨_, rfl⟩
  have HDV := Lib.hid hdv
  have bdv : -2147483648 ≤ dv ∧ dv ≤ 2147483648 := by rw [hdv]; exact tdiv_b sv tv bsv.1 bsv.2
  have fd1 : sv.tdiv tv = dv := hdv.symm
  have fd2 : wrap64 dv = dv := by simp only [wrap64]; omega
  have fd3 : wrap64 sv = sv := by simp only [wrap64]; omega
  have fd4 : wrap64 tv = tv := by simp only [wrap64]; omega
  clear hdv
  obtain ⟨ov, hov⟩ : ∃ k, k = dv % 4294967296 := ⟨_, rfl⟩
  have HOV := Lib.hid hov
  have HWA := Lib.hid (fun w => by have h := refWrap_any (dv) (by omega) (by omega) w; rw [show (dv) % 4294967296 = ov from hov.symm] at h; exact h)
  have bov : 0 ≤ ov ∧ ov ≤ 4294967295 := by omega
  have HF2 := Lib.hid fd2
  have HF3 := Lib.hid fd3
  have HF4 := Lib.hid fd4
  clear hov
  go_enter Try.func29, Try.ntmps29
  go_upto_region 1 with fail
  obtain ⟨NI, hN⟩ : ∃ N, N = w.heap.size := ⟨_, rfl⟩
  rw [← hN] at hc ⊢
  have HN := Lib.hid hN
  generalize w.alloc (.cells #[.int .u8 10, .int .u8 x, .int .u8 y, .int .u8 z] 24) = w1 at *
  clear hN hc
  have hl1 := HL1.out
  rw [← HN.out] at hl1
  have hS0 : (fun w' : World => w'.heap[NI]? = some (.cells #[.int .u8 10, .int .u8 x, .int .u8 y, .int .u8 z] 24 (0, 0))) (World.drew w1) := hl1
  have HL1' := Lib.hid hl1
  clear hl1
  refine wp_region_held (S := fun w' : World => w'.heap[NI]? = some (.cells #[.int .u8 10, .int .u8 x, .int .u8 y, .int .u8 z] 24 (0, 0))) (by kernel_rfl) ?_
  change wpAnyH _ _ _ _ _ _ _ _ (World.drew _)
  refine takeH 1 (.pointer (some ⟨NI, 0, none⟩)) (some 28) rfl rfl (by kernel_rfl) (by kernel_rfl) (by kernel_rfl) (fun _ _ _ h => h) (.inl ⟨by kernel_rfl, fun w _ => by go_simp⟩) hS0 ?_
  refine takeH 2 (.int .u8 10) (some 29) rfl rfl (by kernel_rfl) (by kernel_rfl) (by kernel_rfl) (fun _ _ _ h => h) (.inl ⟨by kernel_rfl, fun w hw => by have hc := rowcell hw; go_simp⟩) hS0 ?_
  refine callH 0 rfl (by kernel_rfl) (by kernel_rfl) (some 27) rfl 22 #[] ?hrun ((refNames_any _).mono ?_)
  case hrun => go_simp
  rintro e w2 ⟨he, hw2⟩
  have hG : w2.heap[w1.heap.size]? = some (.cells nameVals 9) := by rw [← hw2]; exact heap_alloc_last w1.drew _
  have hb2 : Below w1.heap.size w1 w2 := by rw [← hw2]; exact bnext (drewb w1) (bnew w1.drew _)
  have hS2 := bkeep hb2 HL1'.out
  have C5 := rowcell hG
  have hsz : w1.drew.heap.size = w1.heap.size := rfl
  rw [hsz] at he
  obtain ⟨G, hGG⟩ : ∃ G, G = w1.heap.size := ⟨_, rfl⟩
  rw [← hGG] at he C5
  have HB2 := Lib.hid hb2
  clear hw2 hG hb2 hsz hS0 hGG
  refine ⟨_, he, hS2, ?_⟩
  have C6 : w2.cell? ⟨G, 10, none⟩ = some (.string ⟨#[100, 105, 118, 115]⟩) := by rw [C5]; rfl
  clear C5
  refine runH 3 (.pointer (some ⟨G, 10, none⟩)) (some 30) rfl (by kernel_rfl) (by kernel_rfl) rfl (by go_simp) hS2 ?_
  refine runH 4 (.string ⟨#[100, 105, 118, 115]⟩) (some 31) rfl (by kernel_rfl) (by kernel_rfl) rfl (by go_simp) hS2 ?_
  refine runH 5 (.string ⟨#[100, 105, 118, 115]⟩) (some 5) rfl (by kernel_rfl) (by kernel_rfl) rfl (by go_simp) hS2 ?_
  refine wpAnyH_done (by kernel_rfl) ?_ _
  go_simp
  have HL2 := Lib.hid hS2
  have HH2 := Lib.hid (HH.out.keep HB2.out)
  have HBB := Lib.hid (bnext HB1.out HB2.out)
  clear C6 hS2 HL1' he HH HL1 HB1
  have hc := rowcell HL2.out
  have c16 := HH2.out.at_
  rw [← HVA.out] at c16
  have cx := HH2.out.reg x hx
  rw [← HVX.out] at cx
  have cy := HH2.out.reg ym (by omega)
  rw [← HVY.out] at cy
  have cz := HH2.out.reg zm (by omega)
  rw [← HVZ.out] at cz
  go_wp2_with fail
  refine (HS16.out _).mono ?_; rintro e wx ⟨rfl, hwx⟩; subst hwx
  go_wp2_with fail
  refine (HWR.out _).mono ?_; rintro e wx ⟨rfl, hwx⟩; subst hwx
  go_upto_region 5 with fail
  go_quiet (fail)
  go_upto_region 6 with fail
  go_quiet (fail)
  go_upto_region 7 with fail
  go_quiet (fail)
  go_wp2_with fail
  refine (HS8.out _).mono ?_; rintro e w3 ⟨rfl, hw3⟩
  have hb3 : Below w2.heap.size w2 w3 := by rw [← hw3]; exact bdrewN (Below.refl _ _) _
  clear hw3 hc c16 cx cy cz
  have HL3 := Lib.hid (bkeep hb3 HL2.out)
  have HH3 := Lib.hid (HH2.out.keep hb3)
  have HB3 := Lib.hid (bnext HBB.out hb3)
  clear hb3 HL2 HH2 HBB
  go_wp2_with fail
  refine (HWN.out _).mono ?_; rintro e wx ⟨rfl, hwx⟩; subst hwx
  have hc := rowcell HL3.out
  go_wp2_with fail
  refine (HSV32.out _).mono ?_; rintro e wx ⟨rfl, hwx⟩; subst hwx
  go_wp2_with fail
  refine (HTV32.out _).mono ?_; rintro e wx ⟨rfl, hwx⟩; subst hwx
  go_wp2_with fail
  refine (HWA.out _).mono ?_; rintro e wx ⟨rfl, hwx⟩; subst hwx
  go_wp2_with fail
  have hov : 0 ≤ ov ∧ ov ≤ 4294967295 := bov
  have hnv : 0 ≤ nx ∧ nx ≤ 4294967295 := rn
  have HST := Lib.hid (show stepI m s 10 x y z = (setAt (setR s x ov) nx, 0) by show (if (numI 10 (s.R (y % 16)) (s.R (z % 16))).2 = 0 then _ else _) = _; rw [show numI 10 (s.R (y % 16)) (s.R (z % 16)) = (wrap64 ((wrap64 (wrap32 (s.R (y % 16)))).tdiv (wrap64 (wrap32 (s.R (z % 16))))) % 4294967296, 0) by show (if s.R (z % 16) = 0 then _ else _) = _; rw [if_neg (by first | exact HCND.out | exact Int.not_lt.2 HCND.out)]; rfl]; rw [HOV.out, ← HF2.out, HDV.out, ← HF3.out, ← HF4.out, HSV.out, HTV.out, HVY.out, HVZ.out, HYM.out, HZM.out, HNX.out]; rfl)
  have hfm : ∀ w, Calls Try.prog 9 #[.int .i64 10] w fun e w' => e = .returned (.int .i64 3) ∧ Below w.heap.size w w' := fun w => by have h := refForm_in 10 (by omega) (by omega) w; rw [show formOf (10 : Int).toNat = 3 from by decide] at h; exact h
  refine (hfm _).mono ?_; rintro e w4 ⟨rfl, hb4⟩
  have HL4 := Lib.hid (bkeep hb4 HL3.out)
  have HH4 := Lib.hid (HH3.out.keep hb4)
  have HC4 := Lib.hid ((Chg.of_below (dwS gy gb) HB3.out).trans (Chg.of_below (dwS gy gb) hb4) (fun _ _ h => h))
  clear hb4 hc hfm
  have hc := rowcell HL4.out
  have c16 := HH4.out.at_
  have fx2 : (x : Int).tmod 16 = x := by rw [Int.tmod_eq_emod_of_nonneg (by omega)]; omega
  have lx0 : (0 : Int) ≤ x := by omega
  have cx := HH4.out.reg x hx
  have fzx : w4.frozen? ⟨gy, x, none⟩ = false := HH4.out.rw.frozen _
  go_upto_region 130 with fail
  refine wp_region_still_tail 8 (by kernel_rfl) (by kernel_rfl) ?_
  simp only [List.take_succ_cons, List.take_zero, List.drop_succ_cons, List.drop_zero]
  change wpStill _ _ (World.drew w4) _ _ _
  iterate 8 still_step
  refine wpStill_nil ?_
  change wpList _ _ _ _ _ (World.drew w4)
  go_upto_region 131 with fail
  have hD5 : DW (World.drew (w4.setCell ⟨gy, x, none⟩ (.int .u32 ov))) gy gb N m A cap (setR s x ov) := (HH4.out.setR x hx _ hov.1 hov.2).keep (drewb _)
  have hC5 : Chg (dwS gy gb) w (World.drew (w4.setCell ⟨gy, x, none⟩ (.int .u32 ov))) := (HC4.out.trans (Chg.of_one (S := dwS gy gb) (one_setCell _ gy x _) (.inl rfl)) (fun _ _ h => h)).trans (Chg.of_below (dwS gy gb) (drewb _)) (fun _ _ h => h)
  generalize World.drew (w4.setCell ⟨gy, x, none⟩ (.int .u32 ov)) = w5 at *
  have HD5 := Lib.hid hD5
  have HC5 := Lib.hid hC5
  clear hD5 hC5 cx fzx hc HH4 HC4 HL4 c16
  have c16 := HD5.out.at_
  have fz16 : w5.frozen? ⟨gy, 16, none⟩ = false := HD5.out.rw.frozen _
  go_wp2_with fail
  go_ret
  refine ⟨?_, ?_, HC5.out.trans (Chg.of_one (S := dwS gy gb) (one_setCell _ gy 16 _) (.inl rfl)) (fun _ _ h => h)⟩
  · rw [HST.out]; rfl
  · rw [HST.out]; exact HD5.out.setAt _ hnv.1 hnv.2
set_option maxRecDepth 100000 in
set_option maxHeartbeats 16000000 in
theorem refStep_18a {w : World} {gy gb N m cap : Nat} {A : Option Addr} {s : Mach} (h : DW w gy gb N m A cap s) (x y z : Nat) (hx : x < 16) (hy : y ≤ 255) (hz : z ≤ 255) (hcnd : wrap32 (s.R (y % 16)) < wrap32 (s.R (z % 16))) :
    Calls Try.prog 29 #[.pointer (some ⟨gy, 0, none⟩), .agg #[.int .u8 18, .int .u8 x, .int .u8 y, .int .u8 z]] w (RefP gy gb N m A cap s 18 x y z w) := by
  have HCND := Lib.hid hcnd
  clear hcnd
  have hb1 := bnew w (.cells #[.int .u8 18, .int .u8 x, .int .u8 y, .int .u8 z] 24)
  have hl1 := heap_alloc_last w (.cells #[.int .u8 18, .int .u8 x, .int .u8 y, .int .u8 z] 24)
  have hh := h.keep hb1
  have hc := rowcell hl1
  obtain ⟨ym, zm, vx, vy, vz, va, nx, wd, sj, q4, far, sn, q8, nr, fym, lym, fzm, lzm, fx, lx, rx, ry, rz, ra, rn, fn2, rw0, fwd, rj, fq4, rf, rsn, fq8, rnr, HYM, HZM, HVX, HVY, HVZ, HNX, HWD, HSJ, HFAR, HSN, HNR, HVA, HS16, HWR, HS8, HWN, HQ4, HQ8, HVX2⟩ := stepPre h x y z hx hy hz
  have HB1 := Lib.hid hb1
  have HL1 := Lib.hid hl1
  have HH := Lib.hid hh
  clear hb1 hl1 hh h
  obtain ⟨sv, hsv⟩ : ∃ k, k = wrap32 vy := ⟨_, rfl⟩
  have HSV := Lib.hid hsv
  have bsv : -2147483648 ≤ sv ∧ sv ≤ 2147483647 := by rw [hsv]; simp only [wrap32]; omega
  have HSV32 := Lib.hid (fun w => by have h := refSigned32 vy ry.1 ry.2 w; rw [sg32_wrap vy ry.1 ry.2, ← hsv] at h; exact h)
  obtain ⟨tv, htv⟩ : ∃ k, k = wrap32 vz := ⟨_, rfl⟩
  have HTV := Lib.hid htv
  have btv : -2147483648 ≤ tv ∧ tv ≤ 2147483647 := by rw [htv]; simp only [wrap32]; omega
  have HTV32 := Lib.hid (fun w => by have h := refSigned32 vz rz.1 rz.2 w; rw [sg32_wrap vz rz.1 rz.2, ← htv] at h; exact h)
  have cc : sv < tv := by rw [hsv, htv, HVY.out, HVZ.out, HYM.out, HZM.out]; exact HCND.out
  clear hsv htv
  go_enter Try.func29, Try.ntmps29
  go_upto_region 1 with fail
  obtain ⟨NI, hN⟩ : ∃ N, N = w.heap.size := ⟨_, rfl⟩
  rw [← hN] at hc ⊢
  have HN := Lib.hid hN
  generalize w.alloc (.cells #[.int .u8 18, .int .u8 x, .int .u8 y, .int .u8 z] 24) = w1 at *
  clear hN hc
  have hl1 := HL1.out
  rw [← HN.out] at hl1
  have hS0 : (fun w' : World => w'.heap[NI]? = some (.cells #[.int .u8 18, .int .u8 x, .int .u8 y, .int .u8 z] 24 (0, 0))) (World.drew w1) := hl1
  have HL1' := Lib.hid hl1
  clear hl1
  refine wp_region_held (S := fun w' : World => w'.heap[NI]? = some (.cells #[.int .u8 18, .int .u8 x, .int .u8 y, .int .u8 z] 24 (0, 0))) (by kernel_rfl) ?_
  change wpAnyH _ _ _ _ _ _ _ _ (World.drew _)
  refine takeH 1 (.pointer (some ⟨NI, 0, none⟩)) (some 28) rfl rfl (by kernel_rfl) (by kernel_rfl) (by kernel_rfl) (fun _ _ _ h => h) (.inl ⟨by kernel_rfl, fun w _ => by go_simp⟩) hS0 ?_
  refine takeH 2 (.int .u8 18) (some 29) rfl rfl (by kernel_rfl) (by kernel_rfl) (by kernel_rfl) (fun _ _ _ h => h) (.inl ⟨by kernel_rfl, fun w hw => by have hc := rowcell hw; go_simp⟩) hS0 ?_
  refine callH 0 rfl (by kernel_rfl) (by kernel_rfl) (some 27) rfl 22 #[] ?hrun ((refNames_any _).mono ?_)
  case hrun => go_simp
  rintro e w2 ⟨he, hw2⟩
  have hG : w2.heap[w1.heap.size]? = some (.cells nameVals 9) := by rw [← hw2]; exact heap_alloc_last w1.drew _
  have hb2 : Below w1.heap.size w1 w2 := by rw [← hw2]; exact bnext (drewb w1) (bnew w1.drew _)
  have hS2 := bkeep hb2 HL1'.out
  have C5 := rowcell hG
  have hsz : w1.drew.heap.size = w1.heap.size := rfl
  rw [hsz] at he
  obtain ⟨G, hGG⟩ : ∃ G, G = w1.heap.size := ⟨_, rfl⟩
  rw [← hGG] at he C5
  have HB2 := Lib.hid hb2
  clear hw2 hG hb2 hsz hS0 hGG
  refine ⟨_, he, hS2, ?_⟩
  have C6 : w2.cell? ⟨G, 18, none⟩ = some (.string ⟨#[115, 108, 116]⟩) := by rw [C5]; rfl
  clear C5
  refine runH 3 (.pointer (some ⟨G, 18, none⟩)) (some 30) rfl (by kernel_rfl) (by kernel_rfl) rfl (by go_simp) hS2 ?_
  refine runH 4 (.string ⟨#[115, 108, 116]⟩) (some 31) rfl (by kernel_rfl) (by kernel_rfl) rfl (by go_simp) hS2 ?_
  refine runH 5 (.string ⟨#[115, 108, 116]⟩) (some 5) rfl (by kernel_rfl) (by kernel_rfl) rfl (by go_simp) hS2 ?_
  refine wpAnyH_done (by kernel_rfl) ?_ _
  go_simp
  have HL2 := Lib.hid hS2
  have HH2 := Lib.hid (HH.out.keep HB2.out)
  have HBB := Lib.hid (bnext HB1.out HB2.out)
  clear C6 hS2 HL1' he HH HL1 HB1
  have hc := rowcell HL2.out
  have c16 := HH2.out.at_
  rw [← HVA.out] at c16
  have cx := HH2.out.reg x hx
  rw [← HVX.out] at cx
  have cy := HH2.out.reg ym (by omega)
  rw [← HVY.out] at cy
  have cz := HH2.out.reg zm (by omega)
  rw [← HVZ.out] at cz
  go_wp2_with fail
  refine (HS16.out _).mono ?_; rintro e wx ⟨rfl, hwx⟩; subst hwx
  go_wp2_with fail
  refine (HWR.out _).mono ?_; rintro e wx ⟨rfl, hwx⟩; subst hwx
  go_upto_region 5 with fail
  go_quiet (fail)
  go_upto_region 6 with fail
  go_quiet (fail)
  go_upto_region 7 with fail
  go_quiet (fail)
  go_wp2_with fail
  refine (HS8.out _).mono ?_; rintro e w3 ⟨rfl, hw3⟩
  have hb3 : Below w2.heap.size w2 w3 := by rw [← hw3]; exact bdrewN (Below.refl _ _) _
  clear hw3 hc c16 cx cy cz
  have HL3 := Lib.hid (bkeep hb3 HL2.out)
  have HH3 := Lib.hid (HH2.out.keep hb3)
  have HB3 := Lib.hid (bnext HBB.out hb3)
  clear hb3 HL2 HH2 HBB
  go_wp2_with fail
  refine (HWN.out _).mono ?_; rintro e wx ⟨rfl, hwx⟩; subst hwx
  have hc := rowcell HL3.out
  go_wp2_with fail
  refine (HSV32.out _).mono ?_; rintro e wx ⟨rfl, hwx⟩; subst hwx
  go_wp2_with fail
  refine (HTV32.out _).mono ?_; rintro e wx ⟨rfl, hwx⟩; subst hwx
  go_wp2_with fail
  have hov : 0 ≤ (1 : Int) ∧ (1 : Int) ≤ 4294967295 := by omega
  have hnv : 0 ≤ nx ∧ nx ≤ 4294967295 := rn
  have HST := Lib.hid (show stepI m s 18 x y z = (setAt (setR s x (1 : Int)) nx, 0) by rw [show stepI m s 18 x y z = (setAt (setR s x (if wrap32 (s.R (y % 16)) < wrap32 (s.R (z % 16)) then 1 else 0)) (nextI s), 0) from rfl, if_pos HCND.out, HNX.out])
  have hfm : ∀ w, Calls Try.prog 9 #[.int .i64 18] w fun e w' => e = .returned (.int .i64 3) ∧ Below w.heap.size w w' := fun w => by have h := refForm_in 18 (by omega) (by omega) w; rw [show formOf (18 : Int).toNat = 3 from by decide] at h; exact h
  refine (hfm _).mono ?_; rintro e w4 ⟨rfl, hb4⟩
  have HL4 := Lib.hid (bkeep hb4 HL3.out)
  have HH4 := Lib.hid (HH3.out.keep hb4)
  have HC4 := Lib.hid ((Chg.of_below (dwS gy gb) HB3.out).trans (Chg.of_below (dwS gy gb) hb4) (fun _ _ h => h))
  clear hb4 hc hfm
  have hc := rowcell HL4.out
  have c16 := HH4.out.at_
  have fx2 : (x : Int).tmod 16 = x := by rw [Int.tmod_eq_emod_of_nonneg (by omega)]; omega
  have lx0 : (0 : Int) ≤ x := by omega
  have cx := HH4.out.reg x hx
  have fzx : w4.frozen? ⟨gy, x, none⟩ = false := HH4.out.rw.frozen _
  go_upto_region 130 with fail
  refine wp_region_still_tail 8 (by kernel_rfl) (by kernel_rfl) ?_
  simp only [List.take_succ_cons, List.take_zero, List.drop_succ_cons, List.drop_zero]
  change wpStill _ _ (World.drew w4) _ _ _
  iterate 8 still_step
  refine wpStill_nil ?_
  change wpList _ _ _ _ _ (World.drew w4)
  go_upto_region 131 with fail
  have hD5 : DW (World.drew (w4.setCell ⟨gy, x, none⟩ (.int .u32 (1 : Int)))) gy gb N m A cap (setR s x (1 : Int)) := (HH4.out.setR x hx _ hov.1 hov.2).keep (drewb _)
  have hC5 : Chg (dwS gy gb) w (World.drew (w4.setCell ⟨gy, x, none⟩ (.int .u32 (1 : Int)))) := (HC4.out.trans (Chg.of_one (S := dwS gy gb) (one_setCell _ gy x _) (.inl rfl)) (fun _ _ h => h)).trans (Chg.of_below (dwS gy gb) (drewb _)) (fun _ _ h => h)
  generalize World.drew (w4.setCell ⟨gy, x, none⟩ (.int .u32 (1 : Int))) = w5 at *
  have HD5 := Lib.hid hD5
  have HC5 := Lib.hid hC5
  clear hD5 hC5 cx fzx hc HH4 HC4 HL4 c16
  have c16 := HD5.out.at_
  have fz16 : w5.frozen? ⟨gy, 16, none⟩ = false := HD5.out.rw.frozen _
  go_wp2_with fail
  go_ret
  refine ⟨?_, ?_, HC5.out.trans (Chg.of_one (S := dwS gy gb) (one_setCell _ gy 16 _) (.inl rfl)) (fun _ _ h => h)⟩
  · rw [HST.out]; rfl
  · rw [HST.out]; exact HD5.out.setAt _ hnv.1 hnv.2
set_option maxRecDepth 100000 in
set_option maxHeartbeats 16000000 in
theorem refStep_18b {w : World} {gy gb N m cap : Nat} {A : Option Addr} {s : Mach} (h : DW w gy gb N m A cap s) (x y z : Nat) (hx : x < 16) (hy : y ≤ 255) (hz : z ≤ 255) (hcnd : ¬ wrap32 (s.R (y % 16)) < wrap32 (s.R (z % 16))) :
    Calls Try.prog 29 #[.pointer (some ⟨gy, 0, none⟩), .agg #[.int .u8 18, .int .u8 x, .int .u8 y, .int .u8 z]] w (RefP gy gb N m A cap s 18 x y z w) := by
  have HCND := Lib.hid hcnd
  clear hcnd
  have hb1 := bnew w (.cells #[.int .u8 18, .int .u8 x, .int .u8 y, .int .u8 z] 24)
  have hl1 := heap_alloc_last w (.cells #[.int .u8 18, .int .u8 x, .int .u8 y, .int .u8 z] 24)
  have hh := h.keep hb1
  have hc := rowcell hl1
  obtain ⟨ym, zm, vx, vy, vz, va, nx, wd, sj, q4, far, sn, q8, nr, fym, lym, fzm, lzm, fx, lx, rx, ry, rz, ra, rn, fn2, rw0, fwd, rj, fq4, rf, rsn, fq8, rnr, HYM, HZM, HVX, HVY, HVZ, HNX, HWD, HSJ, HFAR, HSN, HNR, HVA, HS16, HWR, HS8, HWN, HQ4, HQ8, HVX2⟩ := stepPre h x y z hx hy hz
  have HB1 := Lib.hid hb1
  have HL1 := Lib.hid hl1
  have HH := Lib.hid hh
  clear hb1 hl1 hh h
  obtain ⟨sv, hsv⟩ : ∃ k, k = wrap32 vy := ⟨_, rfl⟩
  have HSV := Lib.hid hsv
  have bsv : -2147483648 ≤ sv ∧ sv ≤ 2147483647 := by rw [hsv]; simp only [wrap32]; omega
  have HSV32 := Lib.hid (fun w => by have h := refSigned32 vy ry.1 ry.2 w; rw [sg32_wrap vy ry.1 ry.2, ← hsv] at h; exact h)
  obtain ⟨tv, htv⟩ : ∃ k, k = wrap32 vz := ⟨_, rfl⟩
  have HTV := Lib.hid htv
  have btv : -2147483648 ≤ tv ∧ tv ≤ 2147483647 := by rw [htv]; simp only [wrap32]; omega
  have HTV32 := Lib.hid (fun w => by have h := refSigned32 vz rz.1 rz.2 w; rw [sg32_wrap vz rz.1 rz.2, ← htv] at h; exact h)
  have cc : ¬ sv < tv := by rw [hsv, htv, HVY.out, HVZ.out, HYM.out, HZM.out]; exact HCND.out
  clear hsv htv
  go_enter Try.func29, Try.ntmps29
  go_upto_region 1 with fail
  obtain ⟨NI, hN⟩ : ∃ N, N = w.heap.size := ⟨_, rfl⟩
  rw [← hN] at hc ⊢
  have HN := Lib.hid hN
  generalize w.alloc (.cells #[.int .u8 18, .int .u8 x, .int .u8 y, .int .u8 z] 24) = w1 at *
  clear hN hc
  have hl1 := HL1.out
  rw [← HN.out] at hl1
  have hS0 : (fun w' : World => w'.heap[NI]? = some (.cells #[.int .u8 18, .int .u8 x, .int .u8 y, .int .u8 z] 24 (0, 0))) (World.drew w1) := hl1
  have HL1' := Lib.hid hl1
  clear hl1
  refine wp_region_held (S := fun w' : World => w'.heap[NI]? = some (.cells #[.int .u8 18, .int .u8 x, .int .u8 y, .int .u8 z] 24 (0, 0))) (by kernel_rfl) ?_
  change wpAnyH _ _ _ _ _ _ _ _ (World.drew _)
  refine takeH 1 (.pointer (some ⟨NI, 0, none⟩)) (some 28) rfl rfl (by kernel_rfl) (by kernel_rfl) (by kernel_rfl) (fun _ _ _ h => h) (.inl ⟨by kernel_rfl, fun w _ => by go_simp⟩) hS0 ?_
  refine takeH 2 (.int .u8 18) (some 29) rfl rfl (by kernel_rfl) (by kernel_rfl) (by kernel_rfl) (fun _ _ _ h => h) (.inl ⟨by kernel_rfl, fun w hw => by have hc := rowcell hw; go_simp⟩) hS0 ?_
  refine callH 0 rfl (by kernel_rfl) (by kernel_rfl) (some 27) rfl 22 #[] ?hrun ((refNames_any _).mono ?_)
  case hrun => go_simp
  rintro e w2 ⟨he, hw2⟩
  have hG : w2.heap[w1.heap.size]? = some (.cells nameVals 9) := by rw [← hw2]; exact heap_alloc_last w1.drew _
  have hb2 : Below w1.heap.size w1 w2 := by rw [← hw2]; exact bnext (drewb w1) (bnew w1.drew _)
  have hS2 := bkeep hb2 HL1'.out
  have C5 := rowcell hG
  have hsz : w1.drew.heap.size = w1.heap.size := rfl
  rw [hsz] at he
  obtain ⟨G, hGG⟩ : ∃ G, G = w1.heap.size := ⟨_, rfl⟩
  rw [← hGG] at he C5
  have HB2 := Lib.hid hb2
  clear hw2 hG hb2 hsz hS0 hGG
  refine ⟨_, he, hS2, ?_⟩
  have C6 : w2.cell? ⟨G, 18, none⟩ = some (.string ⟨#[115, 108, 116]⟩) := by rw [C5]; rfl
  clear C5
  refine runH 3 (.pointer (some ⟨G, 18, none⟩)) (some 30) rfl (by kernel_rfl) (by kernel_rfl) rfl (by go_simp) hS2 ?_
  refine runH 4 (.string ⟨#[115, 108, 116]⟩) (some 31) rfl (by kernel_rfl) (by kernel_rfl) rfl (by go_simp) hS2 ?_
  refine runH 5 (.string ⟨#[115, 108, 116]⟩) (some 5) rfl (by kernel_rfl) (by kernel_rfl) rfl (by go_simp) hS2 ?_
  refine wpAnyH_done (by kernel_rfl) ?_ _
  go_simp
  have HL2 := Lib.hid hS2
  have HH2 := Lib.hid (HH.out.keep HB2.out)
  have HBB := Lib.hid (bnext HB1.out HB2.out)
  clear C6 hS2 HL1' he HH HL1 HB1
  have hc := rowcell HL2.out
  have c16 := HH2.out.at_
  rw [← HVA.out] at c16
  have cx := HH2.out.reg x hx
  rw [← HVX.out] at cx
  have cy := HH2.out.reg ym (by omega)
  rw [← HVY.out] at cy
  have cz := HH2.out.reg zm (by omega)
  rw [← HVZ.out] at cz
  go_wp2_with fail
  refine (HS16.out _).mono ?_; rintro e wx ⟨rfl, hwx⟩; subst hwx
  go_wp2_with fail
  refine (HWR.out _).mono ?_; rintro e wx ⟨rfl, hwx⟩; subst hwx
  go_upto_region 5 with fail
  go_quiet (fail)
  go_upto_region 6 with fail
  go_quiet (fail)
  go_upto_region 7 with fail
  go_quiet (fail)
  go_wp2_with fail
  refine (HS8.out _).mono ?_; rintro e w3 ⟨rfl, hw3⟩
  have hb3 : Below w2.heap.size w2 w3 := by rw [← hw3]; exact bdrewN (Below.refl _ _) _
  clear hw3 hc c16 cx cy cz
  have HL3 := Lib.hid (bkeep hb3 HL2.out)
  have HH3 := Lib.hid (HH2.out.keep hb3)
  have HB3 := Lib.hid (bnext HBB.out hb3)
  clear hb3 HL2 HH2 HBB
  go_wp2_with fail
  refine (HWN.out _).mono ?_; rintro e wx ⟨rfl, hwx⟩; subst hwx
  have hc := rowcell HL3.out
  go_wp2_with fail
  refine (HSV32.out _).mono ?_; rintro e wx ⟨rfl, hwx⟩; subst hwx
  go_wp2_with fail
  refine (HTV32.out _).mono ?_; rintro e wx ⟨rfl, hwx⟩; subst hwx
  go_wp2_with fail
  have hov : 0 ≤ (0 : Int) ∧ (0 : Int) ≤ 4294967295 := by omega
  have hnv : 0 ≤ nx ∧ nx ≤ 4294967295 := rn
  have HST := Lib.hid (show stepI m s 18 x y z = (setAt (setR s x (0 : Int)) nx, 0) by rw [show stepI m s 18 x y z = (setAt (setR s x (if wrap32 (s.R (y % 16)) < wrap32 (s.R (z % 16)) then 1 else 0)) (nextI s), 0) from rfl, if_neg (by first | exact HCND.out | exact Int.not_lt.2 HCND.out), HNX.out])
  have hfm : ∀ w, Calls Try.prog 9 #[.int .i64 18] w fun e w' => e = .returned (.int .i64 3) ∧ Below w.heap.size w w' := fun w => by have h := refForm_in 18 (by omega) (by omega) w; rw [show formOf (18 : Int).toNat = 3 from by decide] at h; exact h
  refine (hfm _).mono ?_; rintro e w4 ⟨rfl, hb4⟩
  have HL4 := Lib.hid (bkeep hb4 HL3.out)
  have HH4 := Lib.hid (HH3.out.keep hb4)
  have HC4 := Lib.hid ((Chg.of_below (dwS gy gb) HB3.out).trans (Chg.of_below (dwS gy gb) hb4) (fun _ _ h => h))
  clear hb4 hc hfm
  have hc := rowcell HL4.out
  have c16 := HH4.out.at_
  have fx2 : (x : Int).tmod 16 = x := by rw [Int.tmod_eq_emod_of_nonneg (by omega)]; omega
  have lx0 : (0 : Int) ≤ x := by omega
  have cx := HH4.out.reg x hx
  have fzx : w4.frozen? ⟨gy, x, none⟩ = false := HH4.out.rw.frozen _
  go_upto_region 130 with fail
  refine wp_region_still_tail 8 (by kernel_rfl) (by kernel_rfl) ?_
  simp only [List.take_succ_cons, List.take_zero, List.drop_succ_cons, List.drop_zero]
  change wpStill _ _ (World.drew w4) _ _ _
  iterate 8 still_step
  refine wpStill_nil ?_
  change wpList _ _ _ _ _ (World.drew w4)
  go_upto_region 131 with fail
  have hD5 : DW (World.drew (w4.setCell ⟨gy, x, none⟩ (.int .u32 (0 : Int)))) gy gb N m A cap (setR s x (0 : Int)) := (HH4.out.setR x hx _ hov.1 hov.2).keep (drewb _)
  have hC5 : Chg (dwS gy gb) w (World.drew (w4.setCell ⟨gy, x, none⟩ (.int .u32 (0 : Int)))) := (HC4.out.trans (Chg.of_one (S := dwS gy gb) (one_setCell _ gy x _) (.inl rfl)) (fun _ _ h => h)).trans (Chg.of_below (dwS gy gb) (drewb _)) (fun _ _ h => h)
  generalize World.drew (w4.setCell ⟨gy, x, none⟩ (.int .u32 (0 : Int))) = w5 at *
  have HD5 := Lib.hid hD5
  have HC5 := Lib.hid hC5
  clear hD5 hC5 cx fzx hc HH4 HC4 HL4 c16
  have c16 := HD5.out.at_
  have fz16 : w5.frozen? ⟨gy, 16, none⟩ = false := HD5.out.rw.frozen _
  go_wp2_with fail
  go_ret
  refine ⟨?_, ?_, HC5.out.trans (Chg.of_one (S := dwS gy gb) (one_setCell _ gy 16 _) (.inl rfl)) (fun _ _ h => h)⟩
  · rw [HST.out]; rfl
  · rw [HST.out]; exact HD5.out.setAt _ hnv.1 hnv.2
set_option maxRecDepth 100000 in
set_option maxHeartbeats 16000000 in
theorem refStep_19a {w : World} {gy gb N m cap : Nat} {A : Option Addr} {s : Mach} (h : DW w gy gb N m A cap s) (x y z : Nat) (hx : x < 16) (hy : y ≤ 255) (hz : z ≤ 255) (hcnd : s.R (y % 16) < s.R (z % 16)) :
    Calls Try.prog 29 #[.pointer (some ⟨gy, 0, none⟩), .agg #[.int .u8 19, .int .u8 x, .int .u8 y, .int .u8 z]] w (RefP gy gb N m A cap s 19 x y z w) := by
  have HCND := Lib.hid hcnd
  clear hcnd
  have hb1 := bnew w (.cells #[.int .u8 19, .int .u8 x, .int .u8 y, .int .u8 z] 24)
  have hl1 := heap_alloc_last w (.cells #[.int .u8 19, .int .u8 x, .int .u8 y, .int .u8 z] 24)
  have hh := h.keep hb1
  have hc := rowcell hl1
  obtain ⟨ym, zm, vx, vy, vz, va, nx, wd, sj, q4, far, sn, q8, nr, fym, lym, fzm, lzm, fx, lx, rx, ry, rz, ra, rn, fn2, rw0, fwd, rj, fq4, rf, rsn, fq8, rnr, HYM, HZM, HVX, HVY, HVZ, HNX, HWD, HSJ, HFAR, HSN, HNR, HVA, HS16, HWR, HS8, HWN, HQ4, HQ8, HVX2⟩ := stepPre h x y z hx hy hz
  have HB1 := Lib.hid hb1
  have HL1 := Lib.hid hl1
  have HH := Lib.hid hh
  clear hb1 hl1 hh h
  have cc : vy < vz := by rw [HVY.out, HVZ.out, HYM.out, HZM.out]; exact HCND.out
  go_enter Try.func29, Try.ntmps29
  go_upto_region 1 with fail
  obtain ⟨NI, hN⟩ : ∃ N, N = w.heap.size := ⟨_, rfl⟩
  rw [← hN] at hc ⊢
  have HN := Lib.hid hN
  generalize w.alloc (.cells #[.int .u8 19, .int .u8 x, .int .u8 y, .int .u8 z] 24) = w1 at *
  clear hN hc
  have hl1 := HL1.out
  rw [← HN.out] at hl1
  have hS0 : (fun w' : World => w'.heap[NI]? = some (.cells #[.int .u8 19, .int .u8 x, .int .u8 y, .int .u8 z] 24 (0, 0))) (World.drew w1) := hl1
  have HL1' := Lib.hid hl1
  clear hl1
  refine wp_region_held (S := fun w' : World => w'.heap[NI]? = some (.cells #[.int .u8 19, .int .u8 x, .int .u8 y, .int .u8 z] 24 (0, 0))) (by kernel_rfl) ?_
  change wpAnyH _ _ _ _ _ _ _ _ (World.drew _)
  refine takeH 1 (.pointer (some ⟨NI, 0, none⟩)) (some 28) rfl rfl (by kernel_rfl) (by kernel_rfl) (by kernel_rfl) (fun _ _ _ h => h) (.inl ⟨by kernel_rfl, fun w _ => by go_simp⟩) hS0 ?_
  refine takeH 2 (.int .u8 19) (some 29) rfl rfl (by kernel_rfl) (by kernel_rfl) (by kernel_rfl) (fun _ _ _ h => h) (.inl ⟨by kernel_rfl, fun w hw => by have hc := rowcell hw; go_simp⟩) hS0 ?_
  refine callH 0 rfl (by kernel_rfl) (by kernel_rfl) (some 27) rfl 22 #[] ?hrun ((refNames_any _).mono ?_)
  case hrun => go_simp
  rintro e w2 ⟨he, hw2⟩
  have hG : w2.heap[w1.heap.size]? = some (.cells nameVals 9) := by rw [← hw2]; exact heap_alloc_last w1.drew _
  have hb2 : Below w1.heap.size w1 w2 := by rw [← hw2]; exact bnext (drewb w1) (bnew w1.drew _)
  have hS2 := bkeep hb2 HL1'.out
  have C5 := rowcell hG
  have hsz : w1.drew.heap.size = w1.heap.size := rfl
  rw [hsz] at he
  obtain ⟨G, hGG⟩ : ∃ G, G = w1.heap.size := ⟨_, rfl⟩
  rw [← hGG] at he C5
  have HB2 := Lib.hid hb2
  clear hw2 hG hb2 hsz hS0 hGG
  refine ⟨_, he, hS2, ?_⟩
  have C6 : w2.cell? ⟨G, 19, none⟩ = some (.string ⟨#[115, 108, 117]⟩) := by rw [C5]; rfl
  clear C5
  refine runH 3 (.pointer (some ⟨G, 19, none⟩)) (some 30) rfl (by kernel_rfl) (by kernel_rfl) rfl (by go_simp) hS2 ?_
  refine runH 4 (.string ⟨#[115, 108, 117]⟩) (some 31) rfl (by kernel_rfl) (by kernel_rfl) rfl (by go_simp) hS2 ?_
  refine runH 5 (.string ⟨#[115, 108, 117]⟩) (some 5) rfl (by kernel_rfl) (by kernel_rfl) rfl (by go_simp) hS2 ?_
  refine wpAnyH_done (by kernel_rfl) ?_ _
  go_simp
  have HL2 := Lib.hid hS2
  have HH2 := Lib.hid (HH.out.keep HB2.out)
  have HBB := Lib.hid (bnext HB1.out HB2.out)
  clear C6 hS2 HL1' he HH HL1 HB1
  have hc := rowcell HL2.out
  have c16 := HH2.out.at_
  rw [← HVA.out] at c16
  have cx := HH2.out.reg x hx
  rw [← HVX.out] at cx
  have cy := HH2.out.reg ym (by omega)
  rw [← HVY.out] at cy
  have cz := HH2.out.reg zm (by omega)
  rw [← HVZ.out] at cz
  go_wp2_with fail
  refine (HS16.out _).mono ?_; rintro e wx ⟨rfl, hwx⟩; subst hwx
  go_wp2_with fail
  refine (HWR.out _).mono ?_; rintro e wx ⟨rfl, hwx⟩; subst hwx
  go_upto_region 5 with fail
  go_quiet (fail)
  go_upto_region 6 with fail
  go_quiet (fail)
  go_upto_region 7 with fail
  go_quiet (fail)
  go_wp2_with fail
  refine (HS8.out _).mono ?_; rintro e w3 ⟨rfl, hw3⟩
  have hb3 : Below w2.heap.size w2 w3 := by rw [← hw3]; exact bdrewN (Below.refl _ _) _
  clear hw3 hc c16 cx cy cz
  have HL3 := Lib.hid (bkeep hb3 HL2.out)
  have HH3 := Lib.hid (HH2.out.keep hb3)
  have HB3 := Lib.hid (bnext HBB.out hb3)
  clear hb3 HL2 HH2 HBB
  go_wp2_with fail
  refine (HWN.out _).mono ?_; rintro e wx ⟨rfl, hwx⟩; subst hwx
  have hc := rowcell HL3.out
  go_wp2_with fail
  have hov : 0 ≤ (1 : Int) ∧ (1 : Int) ≤ 4294967295 := by omega
  have hnv : 0 ≤ nx ∧ nx ≤ 4294967295 := rn
  have HST := Lib.hid (show stepI m s 19 x y z = (setAt (setR s x (1 : Int)) nx, 0) by rw [show stepI m s 19 x y z = (setAt (setR s x (if s.R (y % 16) < s.R (z % 16) then 1 else 0)) (nextI s), 0) from rfl, if_pos HCND.out, HNX.out])
  have hfm : ∀ w, Calls Try.prog 9 #[.int .i64 19] w fun e w' => e = .returned (.int .i64 3) ∧ Below w.heap.size w w' := fun w => by have h := refForm_in 19 (by omega) (by omega) w; rw [show formOf (19 : Int).toNat = 3 from by decide] at h; exact h
  refine (hfm _).mono ?_; rintro e w4 ⟨rfl, hb4⟩
  have HL4 := Lib.hid (bkeep hb4 HL3.out)
  have HH4 := Lib.hid (HH3.out.keep hb4)
  have HC4 := Lib.hid ((Chg.of_below (dwS gy gb) HB3.out).trans (Chg.of_below (dwS gy gb) hb4) (fun _ _ h => h))
  clear hb4 hc hfm
  have hc := rowcell HL4.out
  have c16 := HH4.out.at_
  have fx2 : (x : Int).tmod 16 = x := by rw [Int.tmod_eq_emod_of_nonneg (by omega)]; omega
  have lx0 : (0 : Int) ≤ x := by omega
  have cx := HH4.out.reg x hx
  have fzx : w4.frozen? ⟨gy, x, none⟩ = false := HH4.out.rw.frozen _
  go_upto_region 130 with fail
  refine wp_region_still_tail 8 (by kernel_rfl) (by kernel_rfl) ?_
  simp only [List.take_succ_cons, List.take_zero, List.drop_succ_cons, List.drop_zero]
  change wpStill _ _ (World.drew w4) _ _ _
  iterate 8 still_step
  refine wpStill_nil ?_
  change wpList _ _ _ _ _ (World.drew w4)
  go_upto_region 131 with fail
  have hD5 : DW (World.drew (w4.setCell ⟨gy, x, none⟩ (.int .u32 (1 : Int)))) gy gb N m A cap (setR s x (1 : Int)) := (HH4.out.setR x hx _ hov.1 hov.2).keep (drewb _)
  have hC5 : Chg (dwS gy gb) w (World.drew (w4.setCell ⟨gy, x, none⟩ (.int .u32 (1 : Int)))) := (HC4.out.trans (Chg.of_one (S := dwS gy gb) (one_setCell _ gy x _) (.inl rfl)) (fun _ _ h => h)).trans (Chg.of_below (dwS gy gb) (drewb _)) (fun _ _ h => h)
  generalize World.drew (w4.setCell ⟨gy, x, none⟩ (.int .u32 (1 : Int))) = w5 at *
  have HD5 := Lib.hid hD5
  have HC5 := Lib.hid hC5
  clear hD5 hC5 cx fzx hc HH4 HC4 HL4 c16
  have c16 := HD5.out.at_
  have fz16 : w5.frozen? ⟨gy, 16, none⟩ = false := HD5.out.rw.frozen _
  go_wp2_with fail
  go_ret
  refine ⟨?_, ?_, HC5.out.trans (Chg.of_one (S := dwS gy gb) (one_setCell _ gy 16 _) (.inl rfl)) (fun _ _ h => h)⟩
  · rw [HST.out]; rfl
  · rw [HST.out]; exact HD5.out.setAt _ hnv.1 hnv.2
set_option maxRecDepth 100000 in
set_option maxHeartbeats 16000000 in
theorem refStep_19b {w : World} {gy gb N m cap : Nat} {A : Option Addr} {s : Mach} (h : DW w gy gb N m A cap s) (x y z : Nat) (hx : x < 16) (hy : y ≤ 255) (hz : z ≤ 255) (hcnd : ¬ s.R (y % 16) < s.R (z % 16)) :
    Calls Try.prog 29 #[.pointer (some ⟨gy, 0, none⟩), .agg #[.int .u8 19, .int .u8 x, .int .u8 y, .int .u8 z]] w (RefP gy gb N m A cap s 19 x y z w) := by
  have HCND := Lib.hid hcnd
  clear hcnd
  have hb1 := bnew w (.cells #[.int .u8 19, .int .u8 x, .int .u8 y, .int .u8 z] 24)
  have hl1 := heap_alloc_last w (.cells #[.int .u8 19, .int .u8 x, .int .u8 y, .int .u8 z] 24)
  have hh := h.keep hb1
  have hc := rowcell hl1
  obtain ⟨ym, zm, vx, vy, vz, va, nx, wd, sj, q4, far, sn, q8, nr, fym, lym, fzm, lzm, fx, lx, rx, ry, rz, ra, rn, fn2, rw0, fwd, rj, fq4, rf, rsn, fq8, rnr, HYM, HZM, HVX, HVY, HVZ, HNX, HWD, HSJ, HFAR, HSN, HNR, HVA, HS16, HWR, HS8, HWN, HQ4, HQ8, HVX2⟩ := stepPre h x y z hx hy hz
  have HB1 := Lib.hid hb1
  have HL1 := Lib.hid hl1
  have HH := Lib.hid hh
  clear hb1 hl1 hh h
  have cc : ¬ vy < vz := by rw [HVY.out, HVZ.out, HYM.out, HZM.out]; exact HCND.out
  go_enter Try.func29, Try.ntmps29
  go_upto_region 1 with fail
  obtain ⟨NI, hN⟩ : ∃ N, N = w.heap.size := ⟨_, rfl⟩
  rw [← hN] at hc ⊢
  have HN := Lib.hid hN
  generalize w.alloc (.cells #[.int .u8 19, .int .u8 x, .int .u8 y, .int .u8 z] 24) = w1 at *
  clear hN hc
  have hl1 := HL1.out
  rw [← HN.out] at hl1
  have hS0 : (fun w' : World => w'.heap[NI]? = some (.cells #[.int .u8 19, .int .u8 x, .int .u8 y, .int .u8 z] 24 (0, 0))) (World.drew w1) := hl1
  have HL1' := Lib.hid hl1
  clear hl1
  refine wp_region_held (S := fun w' : World => w'.heap[NI]? = some (.cells #[.int .u8 19, .int .u8 x, .int .u8 y, .int .u8 z] 24 (0, 0))) (by kernel_rfl) ?_
  change wpAnyH _ _ _ _ _ _ _ _ (World.drew _)
  refine takeH 1 (.pointer (some ⟨NI, 0, none⟩)) (some 28) rfl rfl (by kernel_rfl) (by kernel_rfl) (by kernel_rfl) (fun _ _ _ h => h) (.inl ⟨by kernel_rfl, fun w _ => by go_simp⟩) hS0 ?_
  refine takeH 2 (.int .u8 19) (some 29) rfl rfl (by kernel_rfl) (by kernel_rfl) (by kernel_rfl) (fun _ _ _ h => h) (.inl ⟨by kernel_rfl, fun w hw => by have hc := rowcell hw; go_simp⟩) hS0 ?_
  refine callH 0 rfl (by kernel_rfl) (by kernel_rfl) (some 27) rfl 22 #[] ?hrun ((refNames_any _).mono ?_)
  case hrun => go_simp
  rintro e w2 ⟨he, hw2⟩
  have hG : w2.heap[w1.heap.size]? = some (.cells nameVals 9) := by rw [← hw2]; exact heap_alloc_last w1.drew _
  have hb2 : Below w1.heap.size w1 w2 := by rw [← hw2]; exact bnext (drewb w1) (bnew w1.drew _)
  have hS2 := bkeep hb2 HL1'.out
  have C5 := rowcell hG
  have hsz : w1.drew.heap.size = w1.heap.size := rfl
  rw [hsz] at he
  obtain ⟨G, hGG⟩ : ∃ G, G = w1.heap.size := ⟨_, rfl⟩
  rw [← hGG] at he C5
  have HB2 := Lib.hid hb2
  clear hw2 hG hb2 hsz hS0 hGG
  refine ⟨_, he, hS2, ?_⟩
  have C6 : w2.cell? ⟨G, 19, none⟩ = some (.string ⟨#[115, 108, 117]⟩) := by rw [C5]; rfl
  clear C5
  refine runH 3 (.pointer (some ⟨G, 19, none⟩)) (some 30) rfl (by kernel_rfl) (by kernel_rfl) rfl (by go_simp) hS2 ?_
  refine runH 4 (.string ⟨#[115, 108, 117]⟩) (some 31) rfl (by kernel_rfl) (by kernel_rfl) rfl (by go_simp) hS2 ?_
  refine runH 5 (.string ⟨#[115, 108, 117]⟩) (some 5) rfl (by kernel_rfl) (by kernel_rfl) rfl (by go_simp) hS2 ?_
  refine wpAnyH_done (by kernel_rfl) ?_ _
  go_simp
  have HL2 := Lib.hid hS2
  have HH2 := Lib.hid (HH.out.keep HB2.out)
  have HBB := Lib.hid (bnext HB1.out HB2.out)
  clear C6 hS2 HL1' he HH HL1 HB1
  have hc := rowcell HL2.out
  have c16 := HH2.out.at_
  rw [← HVA.out] at c16
  have cx := HH2.out.reg x hx
  rw [← HVX.out] at cx
  have cy := HH2.out.reg ym (by omega)
  rw [← HVY.out] at cy
  have cz := HH2.out.reg zm (by omega)
  rw [← HVZ.out] at cz
  go_wp2_with fail
  refine (HS16.out _).mono ?_; rintro e wx ⟨rfl, hwx⟩; subst hwx
  go_wp2_with fail
  refine (HWR.out _).mono ?_; rintro e wx ⟨rfl, hwx⟩; subst hwx
  go_upto_region 5 with fail
  go_quiet (fail)
  go_upto_region 6 with fail
  go_quiet (fail)
  go_upto_region 7 with fail
  go_quiet (fail)
  go_wp2_with fail
  refine (HS8.out _).mono ?_; rintro e w3 ⟨rfl, hw3⟩
  have hb3 : Below w2.heap.size w2 w3 := by rw [← hw3]; exact bdrewN (Below.refl _ _) _
  clear hw3 hc c16 cx cy cz
  have HL3 := Lib.hid (bkeep hb3 HL2.out)
  have HH3 := Lib.hid (HH2.out.keep hb3)
  have HB3 := Lib.hid (bnext HBB.out hb3)
  clear hb3 HL2 HH2 HBB
  go_wp2_with fail
  refine (HWN.out _).mono ?_; rintro e wx ⟨rfl, hwx⟩; subst hwx
  have hc := rowcell HL3.out
  go_wp2_with fail
  have hov : 0 ≤ (0 : Int) ∧ (0 : Int) ≤ 4294967295 := by omega
  have hnv : 0 ≤ nx ∧ nx ≤ 4294967295 := rn
  have HST := Lib.hid (show stepI m s 19 x y z = (setAt (setR s x (0 : Int)) nx, 0) by rw [show stepI m s 19 x y z = (setAt (setR s x (if s.R (y % 16) < s.R (z % 16) then 1 else 0)) (nextI s), 0) from rfl, if_neg (by first | exact HCND.out | exact Int.not_lt.2 HCND.out), HNX.out])
  have hfm : ∀ w, Calls Try.prog 9 #[.int .i64 19] w fun e w' => e = .returned (.int .i64 3) ∧ Below w.heap.size w w' := fun w => by have h := refForm_in 19 (by omega) (by omega) w; rw [show formOf (19 : Int).toNat = 3 from by decide] at h; exact h
  refine (hfm _).mono ?_; rintro e w4 ⟨rfl, hb4⟩
  have HL4 := Lib.hid (bkeep hb4 HL3.out)
  have HH4 := Lib.hid (HH3.out.keep hb4)
  have HC4 := Lib.hid ((Chg.of_below (dwS gy gb) HB3.out).trans (Chg.of_below (dwS gy gb) hb4) (fun _ _ h => h))
  clear hb4 hc hfm
  have hc := rowcell HL4.out
  have c16 := HH4.out.at_
  have fx2 : (x : Int).tmod 16 = x := by rw [Int.tmod_eq_emod_of_nonneg (by omega)]; omega
  have lx0 : (0 : Int) ≤ x := by omega
  have cx := HH4.out.reg x hx
  have fzx : w4.frozen? ⟨gy, x, none⟩ = false := HH4.out.rw.frozen _
  go_upto_region 130 with fail
  refine wp_region_still_tail 8 (by kernel_rfl) (by kernel_rfl) ?_
  simp only [List.take_succ_cons, List.take_zero, List.drop_succ_cons, List.drop_zero]
  change wpStill _ _ (World.drew w4) _ _ _
  iterate 8 still_step
  refine wpStill_nil ?_
  change wpList _ _ _ _ _ (World.drew w4)
  go_upto_region 131 with fail
  have hD5 : DW (World.drew (w4.setCell ⟨gy, x, none⟩ (.int .u32 (0 : Int)))) gy gb N m A cap (setR s x (0 : Int)) := (HH4.out.setR x hx _ hov.1 hov.2).keep (drewb _)
  have hC5 : Chg (dwS gy gb) w (World.drew (w4.setCell ⟨gy, x, none⟩ (.int .u32 (0 : Int)))) := (HC4.out.trans (Chg.of_one (S := dwS gy gb) (one_setCell _ gy x _) (.inl rfl)) (fun _ _ h => h)).trans (Chg.of_below (dwS gy gb) (drewb _)) (fun _ _ h => h)
  generalize World.drew (w4.setCell ⟨gy, x, none⟩ (.int .u32 (0 : Int))) = w5 at *
  have HD5 := Lib.hid hD5
  have HC5 := Lib.hid hC5
  clear hD5 hC5 cx fzx hc HH4 HC4 HL4 c16
  have c16 := HD5.out.at_
  have fz16 : w5.frozen? ⟨gy, 16, none⟩ = false := HD5.out.rw.frozen _
  go_wp2_with fail
  go_ret
  refine ⟨?_, ?_, HC5.out.trans (Chg.of_one (S := dwS gy gb) (one_setCell _ gy 16 _) (.inl rfl)) (fun _ _ h => h)⟩
  · rw [HST.out]; rfl
  · rw [HST.out]; exact HD5.out.setAt _ hnv.1 hnv.2
set_option maxRecDepth 100000 in
set_option maxHeartbeats 16000000 in
theorem refStep_20a {w : World} {gy gb N m cap : Nat} {A : Option Addr} {s : Mach} (h : DW w gy gb N m A cap s) (x y z : Nat) (hx : x < 16) (hy : y ≤ 255) (hz : z ≤ 255) (hcnd : s.R (y % 16) = s.R (z % 16)) :
    Calls Try.prog 29 #[.pointer (some ⟨gy, 0, none⟩), .agg #[.int .u8 20, .int .u8 x, .int .u8 y, .int .u8 z]] w (RefP gy gb N m A cap s 20 x y z w) := by
  have HCND := Lib.hid hcnd
  clear hcnd
  have hb1 := bnew w (.cells #[.int .u8 20, .int .u8 x, .int .u8 y, .int .u8 z] 24)
  have hl1 := heap_alloc_last w (.cells #[.int .u8 20, .int .u8 x, .int .u8 y, .int .u8 z] 24)
  have hh := h.keep hb1
  have hc := rowcell hl1
  obtain ⟨ym, zm, vx, vy, vz, va, nx, wd, sj, q4, far, sn, q8, nr, fym, lym, fzm, lzm, fx, lx, rx, ry, rz, ra, rn, fn2, rw0, fwd, rj, fq4, rf, rsn, fq8, rnr, HYM, HZM, HVX, HVY, HVZ, HNX, HWD, HSJ, HFAR, HSN, HNR, HVA, HS16, HWR, HS8, HWN, HQ4, HQ8, HVX2⟩ := stepPre h x y z hx hy hz
  have HB1 := Lib.hid hb1
  have HL1 := Lib.hid hl1
  have HH := Lib.hid hh
  clear hb1 hl1 hh h
  have cc : vy = vz := by rw [HVY.out, HVZ.out, HYM.out, HZM.out]; exact HCND.out
  have c2 : (vy == vz) = true := by rw [beq_iff_eq]; exact cc
  clear cc
  go_enter Try.func29, Try.ntmps29
  go_upto_region 1 with fail
  obtain ⟨NI, hN⟩ : ∃ N, N = w.heap.size := ⟨_, rfl⟩
  rw [← hN] at hc ⊢
  have HN := Lib.hid hN
  generalize w.alloc (.cells #[.int .u8 20, .int .u8 x, .int .u8 y, .int .u8 z] 24) = w1 at *
  clear hN hc
  have hl1 := HL1.out
  rw [← HN.out] at hl1
  have hS0 : (fun w' : World => w'.heap[NI]? = some (.cells #[.int .u8 20, .int .u8 x, .int .u8 y, .int .u8 z] 24 (0, 0))) (World.drew w1) := hl1
  have HL1' := Lib.hid hl1
  clear hl1
  refine wp_region_held (S := fun w' : World => w'.heap[NI]? = some (.cells #[.int .u8 20, .int .u8 x, .int .u8 y, .int .u8 z] 24 (0, 0))) (by kernel_rfl) ?_
  change wpAnyH _ _ _ _ _ _ _ _ (World.drew _)
  refine takeH 1 (.pointer (some ⟨NI, 0, none⟩)) (some 28) rfl rfl (by kernel_rfl) (by kernel_rfl) (by kernel_rfl) (fun _ _ _ h => h) (.inl ⟨by kernel_rfl, fun w _ => by go_simp⟩) hS0 ?_
  refine takeH 2 (.int .u8 20) (some 29) rfl rfl (by kernel_rfl) (by kernel_rfl) (by kernel_rfl) (fun _ _ _ h => h) (.inl ⟨by kernel_rfl, fun w hw => by have hc := rowcell hw; go_simp⟩) hS0 ?_
  refine callH 0 rfl (by kernel_rfl) (by kernel_rfl) (some 27) rfl 22 #[] ?hrun ((refNames_any _).mono ?_)
  case hrun => go_simp
  rintro e w2 ⟨he, hw2⟩
  have hG : w2.heap[w1.heap.size]? = some (.cells nameVals 9) := by rw [← hw2]; exact heap_alloc_last w1.drew _
  have hb2 : Below w1.heap.size w1 w2 := by rw [← hw2]; exact bnext (drewb w1) (bnew w1.drew _)
  have hS2 := bkeep hb2 HL1'.out
  have C5 := rowcell hG
  have hsz : w1.drew.heap.size = w1.heap.size := rfl
  rw [hsz] at he
  obtain ⟨G, hGG⟩ : ∃ G, G = w1.heap.size := ⟨_, rfl⟩
  rw [← hGG] at he C5
  have HB2 := Lib.hid hb2
  clear hw2 hG hb2 hsz hS0 hGG
  refine ⟨_, he, hS2, ?_⟩
  have C6 : w2.cell? ⟨G, 20, none⟩ = some (.string ⟨#[101, 113, 117]⟩) := by rw [C5]; rfl
  clear C5
  refine runH 3 (.pointer (some ⟨G, 20, none⟩)) (some 30) rfl (by kernel_rfl) (by kernel_rfl) rfl (by go_simp) hS2 ?_
  refine runH 4 (.string ⟨#[101, 113, 117]⟩) (some 31) rfl (by kernel_rfl) (by kernel_rfl) rfl (by go_simp) hS2 ?_
  refine runH 5 (.string ⟨#[101, 113, 117]⟩) (some 5) rfl (by kernel_rfl) (by kernel_rfl) rfl (by go_simp) hS2 ?_
  refine wpAnyH_done (by kernel_rfl) ?_ _
  go_simp
  have HL2 := Lib.hid hS2
  have HH2 := Lib.hid (HH.out.keep HB2.out)
  have HBB := Lib.hid (bnext HB1.out HB2.out)
  clear C6 hS2 HL1' he HH HL1 HB1
  have hc := rowcell HL2.out
  have c16 := HH2.out.at_
  rw [← HVA.out] at c16
  have cx := HH2.out.reg x hx
  rw [← HVX.out] at cx
  have cy := HH2.out.reg ym (by omega)
  rw [← HVY.out] at cy
  have cz := HH2.out.reg zm (by omega)
  rw [← HVZ.out] at cz
  go_wp2_with fail
  refine (HS16.out _).mono ?_; rintro e wx ⟨rfl, hwx⟩; subst hwx
  go_wp2_with fail
  refine (HWR.out _).mono ?_; rintro e wx ⟨rfl, hwx⟩; subst hwx
  go_upto_region 5 with fail
  go_quiet (fail)
  go_upto_region 6 with fail
  go_quiet (fail)
  go_upto_region 7 with fail
  go_quiet (fail)
  go_wp2_with fail
  refine (HS8.out _).mono ?_; rintro e w3 ⟨rfl, hw3⟩
  have hb3 : Below w2.heap.size w2 w3 := by rw [← hw3]; exact bdrewN (Below.refl _ _) _
  clear hw3 hc c16 cx cy cz
  have HL3 := Lib.hid (bkeep hb3 HL2.out)
  have HH3 := Lib.hid (HH2.out.keep hb3)
  have HB3 := Lib.hid (bnext HBB.out hb3)
  clear hb3 HL2 HH2 HBB
  go_wp2_with fail
  refine (HWN.out _).mono ?_; rintro e wx ⟨rfl, hwx⟩; subst hwx
  have hc := rowcell HL3.out
  go_wp2_with fail
  have hov : 0 ≤ (1 : Int) ∧ (1 : Int) ≤ 4294967295 := by omega
  have hnv : 0 ≤ nx ∧ nx ≤ 4294967295 := rn
  have HST := Lib.hid (show stepI m s 20 x y z = (setAt (setR s x (1 : Int)) nx, 0) by rw [show stepI m s 20 x y z = (setAt (setR s x (if s.R (y % 16) = s.R (z % 16) then 1 else 0)) (nextI s), 0) from rfl, if_pos HCND.out, HNX.out])
  have hfm : ∀ w, Calls Try.prog 9 #[.int .i64 20] w fun e w' => e = .returned (.int .i64 3) ∧ Below w.heap.size w w' := fun w => by have h := refForm_in 20 (by omega) (by omega) w; rw [show formOf (20 : Int).toNat = 3 from by decide] at h; exact h
  refine (hfm _).mono ?_; rintro e w4 ⟨rfl, hb4⟩
  have HL4 := Lib.hid (bkeep hb4 HL3.out)
  have HH4 := Lib.hid (HH3.out.keep hb4)
  have HC4 := Lib.hid ((Chg.of_below (dwS gy gb) HB3.out).trans (Chg.of_below (dwS gy gb) hb4) (fun _ _ h => h))
  clear hb4 hc hfm
  have hc := rowcell HL4.out
  have c16 := HH4.out.at_
  have fx2 : (x : Int).tmod 16 = x := by rw [Int.tmod_eq_emod_of_nonneg (by omega)]; omega
  have lx0 : (0 : Int) ≤ x := by omega
  have cx := HH4.out.reg x hx
  have fzx : w4.frozen? ⟨gy, x, none⟩ = false := HH4.out.rw.frozen _
  go_upto_region 130 with fail
  refine wp_region_still_tail 8 (by kernel_rfl) (by kernel_rfl) ?_
  simp only [List.take_succ_cons, List.take_zero, List.drop_succ_cons, List.drop_zero]
  change wpStill _ _ (World.drew w4) _ _ _
  iterate 8 still_step
  refine wpStill_nil ?_
  change wpList _ _ _ _ _ (World.drew w4)
  go_upto_region 131 with fail
  have hD5 : DW (World.drew (w4.setCell ⟨gy, x, none⟩ (.int .u32 (1 : Int)))) gy gb N m A cap (setR s x (1 : Int)) := (HH4.out.setR x hx _ hov.1 hov.2).keep (drewb _)
  have hC5 : Chg (dwS gy gb) w (World.drew (w4.setCell ⟨gy, x, none⟩ (.int .u32 (1 : Int)))) := (HC4.out.trans (Chg.of_one (S := dwS gy gb) (one_setCell _ gy x _) (.inl rfl)) (fun _ _ h => h)).trans (Chg.of_below (dwS gy gb) (drewb _)) (fun _ _ h => h)
  generalize World.drew (w4.setCell ⟨gy, x, none⟩ (.int .u32 (1 : Int))) = w5 at *
  have HD5 := Lib.hid hD5
  have HC5 := Lib.hid hC5
  clear hD5 hC5 cx fzx hc HH4 HC4 HL4 c16
  have c16 := HD5.out.at_
  have fz16 : w5.frozen? ⟨gy, 16, none⟩ = false := HD5.out.rw.frozen _
  go_wp2_with fail
  go_ret
  refine ⟨?_, ?_, HC5.out.trans (Chg.of_one (S := dwS gy gb) (one_setCell _ gy 16 _) (.inl rfl)) (fun _ _ h => h)⟩
  · rw [HST.out]; rfl
  · rw [HST.out]; exact HD5.out.setAt _ hnv.1 hnv.2
set_option maxRecDepth 100000 in
set_option maxHeartbeats 16000000 in
theorem refStep_20b {w : World} {gy gb N m cap : Nat} {A : Option Addr} {s : Mach} (h : DW w gy gb N m A cap s) (x y z : Nat) (hx : x < 16) (hy : y ≤ 255) (hz : z ≤ 255) (hcnd : ¬ s.R (y % 16) = s.R (z % 16)) :
    Calls Try.prog 29 #[.pointer (some ⟨gy, 0, none⟩), .agg #[.int .u8 20, .int .u8 x, .int .u8 y, .int .u8 z]] w (RefP gy gb N m A cap s 20 x y z w) := by
  have HCND := Lib.hid hcnd
  clear hcnd
  have hb1 := bnew w (.cells #[.int .u8 20, .int .u8 x, .int .u8 y, .int .u8 z] 24)
  have hl1 := heap_alloc_last w (.cells #[.int .u8 20, .int .u8 x, .int .u8 y, .int .u8 z] 24)
  have hh := h.keep hb1
  have hc := rowcell hl1
  obtain ⟨ym, zm, vx, vy, vz, va, nx, wd, sj, q4, far, sn, q8, nr, fym, lym, fzm, lzm, fx, lx, rx, ry, rz, ra, rn, fn2, rw0, fwd, rj, fq4, rf, rsn, fq8, rnr, HYM, HZM, HVX, HVY, HVZ, HNX, HWD, HSJ, HFAR, HSN, HNR, HVA, HS16, HWR, HS8, HWN, HQ4, HQ8, HVX2⟩ := stepPre h x y z hx hy hz
  have HB1 := Lib.hid hb1
  have HL1 := Lib.hid hl1
  have HH := Lib.hid hh
  clear hb1 hl1 hh h
  have cc : ¬ vy = vz := by rw [HVY.out, HVZ.out, HYM.out, HZM.out]; exact HCND.out
  have c2 : (vy == vz) = false := by rw [beq_eq_false_iff_ne]; exact cc
  clear cc
  go_enter Try.func29, Try.ntmps29
  go_upto_region 1 with fail
  obtain ⟨NI, hN⟩ : ∃ N, N = w.heap.size := ⟨_, rfl⟩
  rw [← hN] at hc ⊢
  have HN := Lib.hid hN
  generalize w.alloc (.cells #[.int .u8 20, .int .u8 x, .int .u8 y, .int .u8 z] 24) = w1 at *
  clear hN hc
  have hl1 := HL1.out
  rw [← HN.out] at hl1
  have hS0 : (fun w' : World => w'.heap[NI]? = some (.cells #[.int .u8 20, .int .u8 x, .int .u8 y, .int .u8 z] 24 (0, 0))) (World.drew w1) := hl1
  have HL1' := Lib.hid hl1
  clear hl1
  refine wp_region_held (S := fun w' : World => w'.heap[NI]? = some (.cells #[.int .u8 20, .int .u8 x, .int .u8 y, .int .u8 z] 24 (0, 0))) (by kernel_rfl) ?_
  change wpAnyH _ _ _ _ _ _ _ _ (World.drew _)
  refine takeH 1 (.pointer (some ⟨NI, 0, none⟩)) (some 28) rfl rfl (by kernel_rfl) (by kernel_rfl) (by kernel_rfl) (fun _ _ _ h => h) (.inl ⟨by kernel_rfl, fun w _ => by go_simp⟩) hS0 ?_
  refine takeH 2 (.int .u8 20) (some 29) rfl rfl (by kernel_rfl) (by kernel_rfl) (by kernel_rfl) (fun _ _ _ h => h) (.inl ⟨by kernel_rfl, fun w hw => by have hc := rowcell hw; go_simp⟩) hS0 ?_
  refine callH 0 rfl (by kernel_rfl) (by kernel_rfl) (some 27) rfl 22 #[] ?hrun ((refNames_any _).mono ?_)
  case hrun => go_simp
  rintro e w2 ⟨he, hw2⟩
  have hG : w2.heap[w1.heap.size]? = some (.cells nameVals 9) := by rw [← hw2]; exact heap_alloc_last w1.drew _
  have hb2 : Below w1.heap.size w1 w2 := by rw [← hw2]; exact bnext (drewb w1) (bnew w1.drew _)
  have hS2 := bkeep hb2 HL1'.out
  have C5 := rowcell hG
  have hsz : w1.drew.heap.size = w1.heap.size := rfl
  rw [hsz] at he
  obtain ⟨G, hGG⟩ : ∃ G, G = w1.heap.size := ⟨_, rfl⟩
  rw [← hGG] at he C5
  have HB2 := Lib.hid hb2
  clear hw2 hG hb2 hsz hS0 hGG
  refine ⟨_, he, hS2, ?_⟩
  have C6 : w2.cell? ⟨G, 20, none⟩ = some (.string ⟨#[101, 113, 117]⟩) := by rw [C5]; rfl
  clear C5
  refine runH 3 (.pointer (some ⟨G, 20, none⟩)) (some 30) rfl (by kernel_rfl) (by kernel_rfl) rfl (by go_simp) hS2 ?_
  refine runH 4 (.string ⟨#[101, 113, 117]⟩) (some 31) rfl (by kernel_rfl) (by kernel_rfl) rfl (by go_simp) hS2 ?_
  refine runH 5 (.string ⟨#[101, 113, 117]⟩) (some 5) rfl (by kernel_rfl) (by kernel_rfl) rfl (by go_simp) hS2 ?_
  refine wpAnyH_done (by kernel_rfl) ?_ _
  go_simp
  have HL2 := Lib.hid hS2
  have HH2 := Lib.hid (HH.out.keep HB2.out)
  have HBB := Lib.hid (bnext HB1.out HB2.out)
  clear C6 hS2 HL1' he HH HL1 HB1
  have hc := rowcell HL2.out
  have c16 := HH2.out.at_
  rw [← HVA.out] at c16
  have cx := HH2.out.reg x hx
  rw [← HVX.out] at cx
  have cy := HH2.out.reg ym (by omega)
  rw [← HVY.out] at cy
  have cz := HH2.out.reg zm (by omega)
  rw [← HVZ.out] at cz
  go_wp2_with fail
  refine (HS16.out _).mono ?_; rintro e wx ⟨rfl, hwx⟩; subst hwx
  go_wp2_with fail
  refine (HWR.out _).mono ?_; rintro e wx ⟨rfl, hwx⟩; subst hwx
  go_upto_region 5 with fail
  go_quiet (fail)
  go_upto_region 6 with fail
  go_quiet (fail)
  go_upto_region 7 with fail
  go_quiet (fail)
  go_wp2_with fail
  refine (HS8.out _).mono ?_; rintro e w3 ⟨rfl, hw3⟩
  have hb3 : Below w2.heap.size w2 w3 := by rw [← hw3]; exact bdrewN (Below.refl _ _) _
  clear hw3 hc c16 cx cy cz
  have HL3 := Lib.hid (bkeep hb3 HL2.out)
  have HH3 := Lib.hid (HH2.out.keep hb3)
  have HB3 := Lib.hid (bnext HBB.out hb3)
  clear hb3 HL2 HH2 HBB
  go_wp2_with fail
  refine (HWN.out _).mono ?_; rintro e wx ⟨rfl, hwx⟩; subst hwx
  have hc := rowcell HL3.out
  go_wp2_with fail
  have hov : 0 ≤ (0 : Int) ∧ (0 : Int) ≤ 4294967295 := by omega
  have hnv : 0 ≤ nx ∧ nx ≤ 4294967295 := rn
  have HST := Lib.hid (show stepI m s 20 x y z = (setAt (setR s x (0 : Int)) nx, 0) by rw [show stepI m s 20 x y z = (setAt (setR s x (if s.R (y % 16) = s.R (z % 16) then 1 else 0)) (nextI s), 0) from rfl, if_neg (by first | exact HCND.out | exact Int.not_lt.2 HCND.out), HNX.out])
  have hfm : ∀ w, Calls Try.prog 9 #[.int .i64 20] w fun e w' => e = .returned (.int .i64 3) ∧ Below w.heap.size w w' := fun w => by have h := refForm_in 20 (by omega) (by omega) w; rw [show formOf (20 : Int).toNat = 3 from by decide] at h; exact h
  refine (hfm _).mono ?_; rintro e w4 ⟨rfl, hb4⟩
  have HL4 := Lib.hid (bkeep hb4 HL3.out)
  have HH4 := Lib.hid (HH3.out.keep hb4)
  have HC4 := Lib.hid ((Chg.of_below (dwS gy gb) HB3.out).trans (Chg.of_below (dwS gy gb) hb4) (fun _ _ h => h))
  clear hb4 hc hfm
  have hc := rowcell HL4.out
  have c16 := HH4.out.at_
  have fx2 : (x : Int).tmod 16 = x := by rw [Int.tmod_eq_emod_of_nonneg (by omega)]; omega
  have lx0 : (0 : Int) ≤ x := by omega
  have cx := HH4.out.reg x hx
  have fzx : w4.frozen? ⟨gy, x, none⟩ = false := HH4.out.rw.frozen _
  go_upto_region 130 with fail
  refine wp_region_still_tail 8 (by kernel_rfl) (by kernel_rfl) ?_
  simp only [List.take_succ_cons, List.take_zero, List.drop_succ_cons, List.drop_zero]
  change wpStill _ _ (World.drew w4) _ _ _
  iterate 8 still_step
  refine wpStill_nil ?_
  change wpList _ _ _ _ _ (World.drew w4)
  go_upto_region 131 with fail
  have hD5 : DW (World.drew (w4.setCell ⟨gy, x, none⟩ (.int .u32 (0 : Int)))) gy gb N m A cap (setR s x (0 : Int)) := (HH4.out.setR x hx _ hov.1 hov.2).keep (drewb _)
  have hC5 : Chg (dwS gy gb) w (World.drew (w4.setCell ⟨gy, x, none⟩ (.int .u32 (0 : Int)))) := (HC4.out.trans (Chg.of_one (S := dwS gy gb) (one_setCell _ gy x _) (.inl rfl)) (fun _ _ h => h)).trans (Chg.of_below (dwS gy gb) (drewb _)) (fun _ _ h => h)
  generalize World.drew (w4.setCell ⟨gy, x, none⟩ (.int .u32 (0 : Int))) = w5 at *
  have HD5 := Lib.hid hD5
  have HC5 := Lib.hid hC5
  clear hD5 hC5 cx fzx hc HH4 HC4 HL4 c16
  have c16 := HD5.out.at_
  have fz16 : w5.frozen? ⟨gy, 16, none⟩ = false := HD5.out.rw.frozen _
  go_wp2_with fail
  go_ret
  refine ⟨?_, ?_, HC5.out.trans (Chg.of_one (S := dwS gy gb) (one_setCell _ gy 16 _) (.inl rfl)) (fun _ _ h => h)⟩
  · rw [HST.out]; rfl
  · rw [HST.out]; exact HD5.out.setAt _ hnv.1 hnv.2
set_option maxRecDepth 100000 in
set_option maxHeartbeats 16000000 in
theorem refStep_22a {w : World} {gy gb N m cap : Nat} {A : Option Addr} {s : Mach} (h : DW w gy gb N m A cap s) (x y z : Nat) (hx : x < 16) (hy : y ≤ 255) (hz : z ≤ 255) (hcnd : ((s.R (y % 16) + near z % 4294967296) % 4294967296).toNat + 1 ≤ 64 * m) :
    Calls Try.prog 29 #[.pointer (some ⟨gy, 0, none⟩), .agg #[.int .u8 22, .int .u8 x, .int .u8 y, .int .u8 z]] w (RefP gy gb N m A cap s 22 x y z w) := by
  have HCND := Lib.hid hcnd
  clear hcnd
  have hb1 := bnew w (.cells #[.int .u8 22, .int .u8 x, .int .u8 y, .int .u8 z] 24)
  have hl1 := heap_alloc_last w (.cells #[.int .u8 22, .int .u8 x, .int .u8 y, .int .u8 z] 24)
  have hh := h.keep hb1
  have hc := rowcell hl1
  obtain ⟨ym, zm, vx, vy, vz, va, nx, wd, sj, q4, far, sn, q8, nr, fym, lym, fzm, lzm, fx, lx, rx, ry, rz, ra, rn, fn2, rw0, fwd, rj, fq4, rf, rsn, fq8, rnr, HYM, HZM, HVX, HVY, HVZ, HNX, HWD, HSJ, HFAR, HSN, HNR, HVA, HS16, HWR, HS8, HWN, HQ4, HQ8, HVX2⟩ := stepPre h x y z hx hy hz
  have HB1 := Lib.hid hb1
  have HL1 := Lib.hid hl1
  have HH := Lib.hid hh
  clear hb1 hl1 hh h
  obtain ⟨na, hna⟩ : ∃ n, n = ((s.R (y % 16) + near z % 4294967296) % 4294967296).toNat := ⟨_, rfl⟩
  have hnn : (na : Int) = nr := by rw [hna, HNR.out, HSN.out, HVY.out, HYM.out]; exact Int.toNat_of_nonneg (by omega)
  have HNA := Lib.hid hna
  have HNN := Lib.hid hnn
  clear hna hnn
  obtain ⟨Lm, hLm⟩ : ∃ L, L = 64 * m := ⟨_, rfl⟩
  have HLM := Lib.hid hLm
  clear hLm
  go_enter Try.func29, Try.ntmps29
  go_upto_region 1 with fail
  obtain ⟨NI, hN⟩ : ∃ N, N = w.heap.size := ⟨_, rfl⟩
  rw [← hN] at hc ⊢
  have HN := Lib.hid hN
  generalize w.alloc (.cells #[.int .u8 22, .int .u8 x, .int .u8 y, .int .u8 z] 24) = w1 at *
  clear hN hc
  have hl1 := HL1.out
  rw [← HN.out] at hl1
  have hS0 : (fun w' : World => w'.heap[NI]? = some (.cells #[.int .u8 22, .int .u8 x, .int .u8 y, .int .u8 z] 24 (0, 0))) (World.drew w1) := hl1
  have HL1' := Lib.hid hl1
  clear hl1
  refine wp_region_held (S := fun w' : World => w'.heap[NI]? = some (.cells #[.int .u8 22, .int .u8 x, .int .u8 y, .int .u8 z] 24 (0, 0))) (by kernel_rfl) ?_
  change wpAnyH _ _ _ _ _ _ _ _ (World.drew _)
  refine takeH 1 (.pointer (some ⟨NI, 0, none⟩)) (some 28) rfl rfl (by kernel_rfl) (by kernel_rfl) (by kernel_rfl) (fun _ _ _ h => h) (.inl ⟨by kernel_rfl, fun w _ => by go_simp⟩) hS0 ?_
  refine takeH 2 (.int .u8 22) (some 29) rfl rfl (by kernel_rfl) (by kernel_rfl) (by kernel_rfl) (fun _ _ _ h => h) (.inl ⟨by kernel_rfl, fun w hw => by have hc := rowcell hw; go_simp⟩) hS0 ?_
  refine callH 0 rfl (by kernel_rfl) (by kernel_rfl) (some 27) rfl 22 #[] ?hrun ((refNames_any _).mono ?_)
  case hrun => go_simp
  rintro e w2 ⟨he, hw2⟩
  have hG : w2.heap[w1.heap.size]? = some (.cells nameVals 9) := by rw [← hw2]; exact heap_alloc_last w1.drew _
  have hb2 : Below w1.heap.size w1 w2 := by rw [← hw2]; exact bnext (drewb w1) (bnew w1.drew _)
  have hS2 := bkeep hb2 HL1'.out
  have C5 := rowcell hG
  have hsz : w1.drew.heap.size = w1.heap.size := rfl
  rw [hsz] at he
  obtain ⟨G, hGG⟩ : ∃ G, G = w1.heap.size := ⟨_, rfl⟩
  rw [← hGG] at he C5
  have HB2 := Lib.hid hb2
  clear hw2 hG hb2 hsz hS0 hGG
  refine ⟨_, he, hS2, ?_⟩
  have C6 : w2.cell? ⟨G, 22, none⟩ = some (.string ⟨#[108, 98]⟩) := by rw [C5]; rfl
  clear C5
  refine runH 3 (.pointer (some ⟨G, 22, none⟩)) (some 30) rfl (by kernel_rfl) (by kernel_rfl) rfl (by go_simp) hS2 ?_
  refine runH 4 (.string ⟨#[108, 98]⟩) (some 31) rfl (by kernel_rfl) (by kernel_rfl) rfl (by go_simp) hS2 ?_
  refine runH 5 (.string ⟨#[108, 98]⟩) (some 5) rfl (by kernel_rfl) (by kernel_rfl) rfl (by go_simp) hS2 ?_
  refine wpAnyH_done (by kernel_rfl) ?_ _
  go_simp
  have HL2 := Lib.hid hS2
  have HH2 := Lib.hid (HH.out.keep HB2.out)
  have HBB := Lib.hid (bnext HB1.out HB2.out)
  clear C6 hS2 HL1' he HH HL1 HB1
  have hc := rowcell HL2.out
  have c16 := HH2.out.at_
  rw [← HVA.out] at c16
  have cx := HH2.out.reg x hx
  rw [← HVX.out] at cx
  have cy := HH2.out.reg ym (by omega)
  rw [← HVY.out] at cy
  have cz := HH2.out.reg zm (by omega)
  rw [← HVZ.out] at cz
  go_wp2_with fail
  refine (HS16.out _).mono ?_; rintro e wx ⟨rfl, hwx⟩; subst hwx
  go_wp2_with fail
  refine (HWR.out _).mono ?_; rintro e wx ⟨rfl, hwx⟩; subst hwx
  go_upto_region 5 with fail
  go_quiet (fail)
  go_upto_region 6 with fail
  go_quiet (fail)
  go_upto_region 7 with fail
  go_quiet (fail)
  go_wp2_with fail
  refine (HS8.out _).mono ?_; rintro e w3 ⟨rfl, hw3⟩
  have hb3 : Below w2.heap.size w2 w3 := by rw [← hw3]; exact bdrewN (Below.refl _ _) _
  clear hw3 hc c16 cx cy cz
  have HL3 := Lib.hid (bkeep hb3 HL2.out)
  have HH3 := Lib.hid (HH2.out.keep hb3)
  have HB3 := Lib.hid (bnext HBB.out hb3)
  clear hb3 HL2 HH2 HBB
  go_wp2_with fail
  refine (HWN.out _).mono ?_; rintro e wx ⟨rfl, hwx⟩; subst hwx
  have hc := rowcell HL3.out
  have cmv := HH3.out.mv
  rw [← HLM.out] at cmv
  go_wp2_with fail
  obtain ⟨n1, hn1⟩ : ∃ n : Int, n = ((ldN s.mem na 1 : Nat) : Int) := ⟨_, rfl⟩
  have bn1 : 0 ≤ n1 ∧ n1 ≤ 4294967295 := by
    have hlt := ldN_lt (mem := s.mem) (at_ := na) 1 (fun i hi => HH3.out.bw.m0 _ (by have := HCND.out; rw [← HNA.out] at this; omega))
    rw [hn1]; omega
  have HN1 := Lib.hid hn1
  clear hn1
  have hld : Calls Try.prog 27 #[.slice A Lm cap, .int .u32 nr, .int .i64 1] w3 fun e w' => e = .returned (.tuple #[.int .u32 n1, .int .i64 0]) ∧ w3 = w' := by have h := refLoad_ok HH3.out.bw cap na 1 HH3.out.cp (by omega) (by omega) (by rw [HNA.out]; exact HCND.out); rw [HNN.out, ← HLM.out, ← HN1.out] at h; exact h
  refine hld.mono ?_; rintro e wx ⟨rfl, hwx⟩; subst hwx
  clear hld cmv
  go_wp2_with fail
  have hov : 0 ≤ n1 ∧ n1 ≤ 4294967295 := bn1
  have hnv : 0 ≤ nx ∧ nx ≤ 4294967295 := rn
  have HST := Lib.hid (show stepI m s 22 x y z = (setAt (setR s x n1) nx, 0) by show (if (memI m s 22 x ((s.R (y % 16) + near z % 4294967296) % 4294967296).toNat).2 = 0 then _ else _) = _; rw [show memI m s 22 x ((s.R (y % 16) + near z % 4294967296) % 4294967296).toNat = (setR s x (ldI 22 (ldN s.mem ((s.R (y % 16) + near z % 4294967296) % 4294967296).toNat 1)), 0) from by unfold memI; rw [show bytesN 22 = 1 from rfl, if_neg (Nat.not_lt.2 HCND.out), if_neg (by decide)]]; rw [HN1.out, HNA.out, HNX.out]; rfl)
  have hfm : ∀ w, Calls Try.prog 9 #[.int .i64 22] w fun e w' => e = .returned (.int .i64 4) ∧ Below w.heap.size w w' := fun w => by have h := refForm_in 22 (by omega) (by omega) w; rw [show formOf (22 : Int).toNat = 4 from by decide] at h; exact h
  refine (hfm _).mono ?_; rintro e w4 ⟨rfl, hb4⟩
  have HL4 := Lib.hid (bkeep hb4 HL3.out)
  have HH4 := Lib.hid (HH3.out.keep hb4)
  have HC4 := Lib.hid ((Chg.of_below (dwS gy gb) HB3.out).trans (Chg.of_below (dwS gy gb) hb4) (fun _ _ h => h))
  clear hb4 hc hfm
  have hc := rowcell HL4.out
  have c16 := HH4.out.at_
  have fx2 : (x : Int).tmod 16 = x := by rw [Int.tmod_eq_emod_of_nonneg (by omega)]; omega
  have lx0 : (0 : Int) ≤ x := by omega
  have cx := HH4.out.reg x hx
  have fzx : w4.frozen? ⟨gy, x, none⟩ = false := HH4.out.rw.frozen _
  go_upto_region 130 with fail
  refine wp_region_still_tail 8 (by kernel_rfl) (by kernel_rfl) ?_
  simp only [List.take_succ_cons, List.take_zero, List.drop_succ_cons, List.drop_zero]
  change wpStill _ _ (World.drew w4) _ _ _
  iterate 8 still_step
  refine wpStill_nil ?_
  change wpList _ _ _ _ _ (World.drew w4)
  go_upto_region 131 with fail
  have hD5 : DW (World.drew (w4.setCell ⟨gy, x, none⟩ (.int .u32 n1))) gy gb N m A cap (setR s x n1) := (HH4.out.setR x hx _ hov.1 hov.2).keep (drewb _)
  have hC5 : Chg (dwS gy gb) w (World.drew (w4.setCell ⟨gy, x, none⟩ (.int .u32 n1))) := (HC4.out.trans (Chg.of_one (S := dwS gy gb) (one_setCell _ gy x _) (.inl rfl)) (fun _ _ h => h)).trans (Chg.of_below (dwS gy gb) (drewb _)) (fun _ _ h => h)
  generalize World.drew (w4.setCell ⟨gy, x, none⟩ (.int .u32 n1)) = w5 at *
  have HD5 := Lib.hid hD5
  have HC5 := Lib.hid hC5
  clear hD5 hC5 cx fzx hc HH4 HC4 HL4 c16
  have c16 := HD5.out.at_
  have fz16 : w5.frozen? ⟨gy, 16, none⟩ = false := HD5.out.rw.frozen _
  go_wp2_with fail
  go_ret
  refine ⟨?_, ?_, HC5.out.trans (Chg.of_one (S := dwS gy gb) (one_setCell _ gy 16 _) (.inl rfl)) (fun _ _ h => h)⟩
  · rw [HST.out]; rfl
  · rw [HST.out]; exact HD5.out.setAt _ hnv.1 hnv.2
set_option maxRecDepth 100000 in
set_option maxHeartbeats 16000000 in
theorem refStep_22b {w : World} {gy gb N m cap : Nat} {A : Option Addr} {s : Mach} (h : DW w gy gb N m A cap s) (x y z : Nat) (hx : x < 16) (hy : y ≤ 255) (hz : z ≤ 255) (hcnd : ¬ ((s.R (y % 16) + near z % 4294967296) % 4294967296).toNat + 1 ≤ 64 * m) :
    Calls Try.prog 29 #[.pointer (some ⟨gy, 0, none⟩), .agg #[.int .u8 22, .int .u8 x, .int .u8 y, .int .u8 z]] w (RefP gy gb N m A cap s 22 x y z w) := by
  have HCND := Lib.hid hcnd
  clear hcnd
  have hb1 := bnew w (.cells #[.int .u8 22, .int .u8 x, .int .u8 y, .int .u8 z] 24)
  have hl1 := heap_alloc_last w (.cells #[.int .u8 22, .int .u8 x, .int .u8 y, .int .u8 z] 24)
  have hh := h.keep hb1
  have hc := rowcell hl1
  obtain ⟨ym, zm, vx, vy, vz, va, nx, wd, sj, q4, far, sn, q8, nr, fym, lym, fzm, lzm, fx, lx, rx, ry, rz, ra, rn, fn2, rw0, fwd, rj, fq4, rf, rsn, fq8, rnr, HYM, HZM, HVX, HVY, HVZ, HNX, HWD, HSJ, HFAR, HSN, HNR, HVA, HS16, HWR, HS8, HWN, HQ4, HQ8, HVX2⟩ := stepPre h x y z hx hy hz
  have HB1 := Lib.hid hb1
  have HL1 := Lib.hid hl1
  have HH := Lib.hid hh
  clear hb1 hl1 hh h
  obtain ⟨na, hna⟩ : ∃ n, n = ((s.R (y % 16) + near z % 4294967296) % 4294967296).toNat := ⟨_, rfl⟩
  have hnn : (na : Int) = nr := by rw [hna, HNR.out, HSN.out, HVY.out, HYM.out]; exact Int.toNat_of_nonneg (by omega)
  have HNA := Lib.hid hna
  have HNN := Lib.hid hnn
  clear hna hnn
  obtain ⟨Lm, hLm⟩ : ∃ L, L = 64 * m := ⟨_, rfl⟩
  have HLM := Lib.hid hLm
  clear hLm
  go_enter Try.func29, Try.ntmps29
  go_upto_region 1 with fail
  obtain ⟨NI, hN⟩ : ∃ N, N = w.heap.size := ⟨_, rfl⟩
  rw [← hN] at hc ⊢
  have HN := Lib.hid hN
  generalize w.alloc (.cells #[.int .u8 22, .int .u8 x, .int .u8 y, .int .u8 z] 24) = w1 at *
  clear hN hc
  have hl1 := HL1.out
  rw [← HN.out] at hl1
  have hS0 : (fun w' : World => w'.heap[NI]? = some (.cells #[.int .u8 22, .int .u8 x, .int .u8 y, .int .u8 z] 24 (0, 0))) (World.drew w1) := hl1
  have HL1' := Lib.hid hl1
  clear hl1
  refine wp_region_held (S := fun w' : World => w'.heap[NI]? = some (.cells #[.int .u8 22, .int .u8 x, .int .u8 y, .int .u8 z] 24 (0, 0))) (by kernel_rfl) ?_
  change wpAnyH _ _ _ _ _ _ _ _ (World.drew _)
  refine takeH 1 (.pointer (some ⟨NI, 0, none⟩)) (some 28) rfl rfl (by kernel_rfl) (by kernel_rfl) (by kernel_rfl) (fun _ _ _ h => h) (.inl ⟨by kernel_rfl, fun w _ => by go_simp⟩) hS0 ?_
  refine takeH 2 (.int .u8 22) (some 29) rfl rfl (by kernel_rfl) (by kernel_rfl) (by kernel_rfl) (fun _ _ _ h => h) (.inl ⟨by kernel_rfl, fun w hw => by have hc := rowcell hw; go_simp⟩) hS0 ?_
  refine callH 0 rfl (by kernel_rfl) (by kernel_rfl) (some 27) rfl 22 #[] ?hrun ((refNames_any _).mono ?_)
  case hrun => go_simp
  rintro e w2 ⟨he, hw2⟩
  have hG : w2.heap[w1.heap.size]? = some (.cells nameVals 9) := by rw [← hw2]; exact heap_alloc_last w1.drew _
  have hb2 : Below w1.heap.size w1 w2 := by rw [← hw2]; exact bnext (drewb w1) (bnew w1.drew _)
  have hS2 := bkeep hb2 HL1'.out
  have C5 := rowcell hG
  have hsz : w1.drew.heap.size = w1.heap.size := rfl
  rw [hsz] at he
  obtain ⟨G, hGG⟩ : ∃ G, G = w1.heap.size := ⟨_, rfl⟩
  rw [← hGG] at he C5
  have HB2 := Lib.hid hb2
  clear hw2 hG hb2 hsz hS0 hGG
  refine ⟨_, he, hS2, ?_⟩
  have C6 : w2.cell? ⟨G, 22, none⟩ = some (.string ⟨#[108, 98]⟩) := by rw [C5]; rfl
  clear C5
  refine runH 3 (.pointer (some ⟨G, 22, none⟩)) (some 30) rfl (by kernel_rfl) (by kernel_rfl) rfl (by go_simp) hS2 ?_
  refine runH 4 (.string ⟨#[108, 98]⟩) (some 31) rfl (by kernel_rfl) (by kernel_rfl) rfl (by go_simp) hS2 ?_
  refine runH 5 (.string ⟨#[108, 98]⟩) (some 5) rfl (by kernel_rfl) (by kernel_rfl) rfl (by go_simp) hS2 ?_
  refine wpAnyH_done (by kernel_rfl) ?_ _
  go_simp
  have HL2 := Lib.hid hS2
  have HH2 := Lib.hid (HH.out.keep HB2.out)
  have HBB := Lib.hid (bnext HB1.out HB2.out)
  clear C6 hS2 HL1' he HH HL1 HB1
  have hc := rowcell HL2.out
  have c16 := HH2.out.at_
  rw [← HVA.out] at c16
  have cx := HH2.out.reg x hx
  rw [← HVX.out] at cx
  have cy := HH2.out.reg ym (by omega)
  rw [← HVY.out] at cy
  have cz := HH2.out.reg zm (by omega)
  rw [← HVZ.out] at cz
  go_wp2_with fail
  refine (HS16.out _).mono ?_; rintro e wx ⟨rfl, hwx⟩; subst hwx
  go_wp2_with fail
  refine (HWR.out _).mono ?_; rintro e wx ⟨rfl, hwx⟩; subst hwx
  go_upto_region 5 with fail
  go_quiet (fail)
  go_upto_region 6 with fail
  go_quiet (fail)
  go_upto_region 7 with fail
  go_quiet (fail)
  go_wp2_with fail
  refine (HS8.out _).mono ?_; rintro e w3 ⟨rfl, hw3⟩
  have hb3 : Below w2.heap.size w2 w3 := by rw [← hw3]; exact bdrewN (Below.refl _ _) _
  clear hw3 hc c16 cx cy cz
  have HL3 := Lib.hid (bkeep hb3 HL2.out)
  have HH3 := Lib.hid (HH2.out.keep hb3)
  have HB3 := Lib.hid (bnext HBB.out hb3)
  clear hb3 HL2 HH2 HBB
  go_wp2_with fail
  refine (HWN.out _).mono ?_; rintro e wx ⟨rfl, hwx⟩; subst hwx
  have hc := rowcell HL3.out
  have cmv := HH3.out.mv
  rw [← HLM.out] at cmv
  go_wp2_with fail
  have hld : Calls Try.prog 27 #[.slice A Lm cap, .int .u32 nr, .int .i64 1] w3 fun e w' => e = .returned (.tuple #[.int .u32 0, .int .i64 20]) ∧ w3 = w' := by have h := refLoad_no (w := w3) A Lm cap na 1 (by rw [HLM.out]; exact HH3.out.bw.l4) (by have := HNN.out; omega) (by omega) (by rw [HLM.out, HNA.out]; exact Nat.lt_of_not_le HCND.out); rw [HNN.out] at h; exact h
  refine hld.mono ?_; rintro e wx ⟨rfl, hwx⟩; subst hwx
  clear hld cmv
  go_wp2_with fail
  have HST := Lib.hid (show stepI m s 22 x y z = (s, 20) by show (if (memI m s 22 x ((s.R (y % 16) + near z % 4294967296) % 4294967296).toNat).2 = 0 then _ else _) = _; rw [show memI m s 22 x ((s.R (y % 16) + near z % 4294967296) % 4294967296).toNat = (s, 20) from by unfold memI; rw [show bytesN 22 = 1 from rfl, if_pos (Nat.lt_of_not_le HCND.out)]]; rfl)
  go_ret
  refine ⟨?_, ?_, Chg.of_below (dwS gy gb) HB3.out⟩
  · rw [HST.out]; rfl
  · rw [HST.out]; exact HH3.out
set_option maxRecDepth 100000 in
set_option maxHeartbeats 16000000 in
theorem refStep_1 {w : World} {gy gb N m cap : Nat} {A : Option Addr} {s : Mach} (h : DW w gy gb N m A cap s) (x y z : Nat) (hx : x < 16) (hy : y ≤ 255) (hz : z ≤ 255) :
    Calls Try.prog 29 #[.pointer (some ⟨gy, 0, none⟩), .agg #[.int .u8 1, .int .u8 x, .int .u8 y, .int .u8 z]] w (RefP gy gb N m A cap s 1 x y z w) := by
  have hb1 := bnew w (.cells #[.int .u8 1, .int .u8 x, .int .u8 y, .int .u8 z] 24)
  have hl1 := heap_alloc_last w (.cells #[.int .u8 1, .int .u8 x, .int .u8 y, .int .u8 z] 24)
  have hh := h.keep hb1
  have hc := rowcell hl1
  obtain ⟨ym, zm, vx, vy, vz, va, nx, wd, sj, q4, far, sn, q8, nr, fym, lym, fzm, lzm, fx, lx, rx, ry, rz, ra, rn, fn2, rw0, fwd, rj, fq4, rf, rsn, fq8, rnr, HYM, HZM, HVX, HVY, HVZ, HNX, HWD, HSJ, HFAR, HSN, HNR, HVA, HS16, HWR, HS8, HWN, HQ4, HQ8, HVX2⟩ := stepPre h x y z hx hy hz
  have HB1 := Lib.hid hb1
  have HL1 := Lib.hid hl1
  have HH := Lib.hid hh
  clear hb1 hl1 hh h
  go_enter Try.func29, Try.ntmps29
  go_upto_region 1 with fail
  obtain ⟨NI, hN⟩ : ∃ N, N = w.heap.size := ⟨_, rfl⟩
  rw [← hN] at hc ⊢
  have HN := Lib.hid hN
  generalize w.alloc (.cells #[.int .u8 1, .int .u8 x, .int .u8 y, .int .u8 z] 24) = w1 at *
  clear hN hc
  have hl1 := HL1.out
  rw [← HN.out] at hl1
  have hS0 : (fun w' : World => w'.heap[NI]? = some (.cells #[.int .u8 1, .int .u8 x, .int .u8 y, .int .u8 z] 24 (0, 0))) (World.drew w1) := hl1
  have HL1' := Lib.hid hl1
  clear hl1
  refine wp_region_held (S := fun w' : World => w'.heap[NI]? = some (.cells #[.int .u8 1, .int .u8 x, .int .u8 y, .int .u8 z] 24 (0, 0))) (by kernel_rfl) ?_
  change wpAnyH _ _ _ _ _ _ _ _ (World.drew _)
  refine takeH 1 (.pointer (some ⟨NI, 0, none⟩)) (some 28) rfl rfl (by kernel_rfl) (by kernel_rfl) (by kernel_rfl) (fun _ _ _ h => h) (.inl ⟨by kernel_rfl, fun w _ => by go_simp⟩) hS0 ?_
  refine takeH 2 (.int .u8 1) (some 29) rfl rfl (by kernel_rfl) (by kernel_rfl) (by kernel_rfl) (fun _ _ _ h => h) (.inl ⟨by kernel_rfl, fun w hw => by have hc := rowcell hw; go_simp⟩) hS0 ?_
  refine callH 0 rfl (by kernel_rfl) (by kernel_rfl) (some 27) rfl 22 #[] ?hrun ((refNames_any _).mono ?_)
  case hrun => go_simp
  rintro e w2 ⟨he, hw2⟩
  have hG : w2.heap[w1.heap.size]? = some (.cells nameVals 9) := by rw [← hw2]; exact heap_alloc_last w1.drew _
  have hb2 : Below w1.heap.size w1 w2 := by rw [← hw2]; exact bnext (drewb w1) (bnew w1.drew _)
  have hS2 := bkeep hb2 HL1'.out
  have C5 := rowcell hG
  have hsz : w1.drew.heap.size = w1.heap.size := rfl
  rw [hsz] at he
  obtain ⟨G, hGG⟩ : ∃ G, G = w1.heap.size := ⟨_, rfl⟩
  rw [← hGG] at he C5
  have HB2 := Lib.hid hb2
  clear hw2 hG hb2 hsz hS0 hGG
  refine ⟨_, he, hS2, ?_⟩
  have C6 : w2.cell? ⟨G, 1, none⟩ = some (.string ⟨#[109, 111, 118]⟩) := by rw [C5]; rfl
  clear C5
  refine runH 3 (.pointer (some ⟨G, 1, none⟩)) (some 30) rfl (by kernel_rfl) (by kernel_rfl) rfl (by go_simp) hS2 ?_
  refine runH 4 (.string ⟨#[109, 111, 118]⟩) (some 31) rfl (by kernel_rfl) (by kernel_rfl) rfl (by go_simp) hS2 ?_
  refine runH 5 (.string ⟨#[109, 111, 118]⟩) (some 5) rfl (by kernel_rfl) (by kernel_rfl) rfl (by go_simp) hS2 ?_
  refine wpAnyH_done (by kernel_rfl) ?_ _
  go_simp
  have HL2 := Lib.hid hS2
  have HH2 := Lib.hid (HH.out.keep HB2.out)
  have HBB := Lib.hid (bnext HB1.out HB2.out)
  clear C6 hS2 HL1' he HH HL1 HB1
  have hc := rowcell HL2.out
  have c16 := HH2.out.at_
  rw [← HVA.out] at c16
  have cx := HH2.out.reg x hx
  rw [← HVX.out] at cx
  have cy := HH2.out.reg ym (by omega)
  rw [← HVY.out] at cy
  have cz := HH2.out.reg zm (by omega)
  rw [← HVZ.out] at cz
  go_wp2_with fail
  refine (HS16.out _).mono ?_; rintro e wx ⟨rfl, hwx⟩; subst hwx
  go_wp2_with fail
  refine (HWR.out _).mono ?_; rintro e wx ⟨rfl, hwx⟩; subst hwx
  go_upto_region 5 with fail
  go_quiet (fail)
  go_upto_region 6 with fail
  go_quiet (fail)
  go_upto_region 7 with fail
  go_quiet (fail)
  go_wp2_with fail
  refine (HS8.out _).mono ?_; rintro e w3 ⟨rfl, hw3⟩
  have hb3 : Below w2.heap.size w2 w3 := by rw [← hw3]; exact bdrewN (Below.refl _ _) _
  clear hw3 hc c16 cx cy cz
  have HL3 := Lib.hid (bkeep hb3 HL2.out)
  have HH3 := Lib.hid (HH2.out.keep hb3)
  have HB3 := Lib.hid (bnext HBB.out hb3)
  clear hb3 HL2 HH2 HBB
  go_wp2_with fail
  refine (HWN.out _).mono ?_; rintro e wx ⟨rfl, hwx⟩; subst hwx
  have hc := rowcell HL3.out
  go_wp2_with fail
  have hov : 0 ≤ vy ∧ vy ≤ 4294967295 := ry
  have hnv : 0 ≤ nx ∧ nx ≤ 4294967295 := rn
  have HST := Lib.hid (show stepI m s 1 x y z = (setAt (setR s x vy) nx, 0) by rw [HVY.out, HYM.out, HNX.out]; rfl)
  have hfm : ∀ w, Calls Try.prog 9 #[.int .i64 1] w fun e w' => e = .returned (.int .i64 2) ∧ Below w.heap.size w w' := fun w => by have h := refForm_in 1 (by omega) (by omega) w; rw [show formOf (1 : Int).toNat = 2 from by decide] at h; exact h
  refine (hfm _).mono ?_; rintro e w4 ⟨rfl, hb4⟩
  have HL4 := Lib.hid (bkeep hb4 HL3.out)
  have HH4 := Lib.hid (HH3.out.keep hb4)
  have HC4 := Lib.hid ((Chg.of_below (dwS gy gb) HB3.out).trans (Chg.of_below (dwS gy gb) hb4) (fun _ _ h => h))
  clear hb4 hc hfm
  have hc := rowcell HL4.out
  have c16 := HH4.out.at_
  have fx2 : (x : Int).tmod 16 = x := by rw [Int.tmod_eq_emod_of_nonneg (by omega)]; omega
  have lx0 : (0 : Int) ≤ x := by omega
  have cx := HH4.out.reg x hx
  have fzx : w4.frozen? ⟨gy, x, none⟩ = false := HH4.out.rw.frozen _
  go_upto_region 130 with fail
  refine wp_region_still_tail 8 (by kernel_rfl) (by kernel_rfl) ?_
  simp only [List.take_succ_cons, List.take_zero, List.drop_succ_cons, List.drop_zero]
  change wpStill _ _ (World.drew w4) _ _ _
  iterate 8 still_step
  refine wpStill_nil ?_
  change wpList _ _ _ _ _ (World.drew w4)
  go_upto_region 131 with fail
  have hD5 : DW (World.drew (w4.setCell ⟨gy, x, none⟩ (.int .u32 vy))) gy gb N m A cap (setR s x vy) := (HH4.out.setR x hx _ hov.1 hov.2).keep (drewb _)
  have hC5 : Chg (dwS gy gb) w (World.drew (w4.setCell ⟨gy, x, none⟩ (.int .u32 vy))) := (HC4.out.trans (Chg.of_one (S := dwS gy gb) (one_setCell _ gy x _) (.inl rfl)) (fun _ _ h => h)).trans (Chg.of_below (dwS gy gb) (drewb _)) (fun _ _ h => h)
  generalize World.drew (w4.setCell ⟨gy, x, none⟩ (.int .u32 vy)) = w5 at *
  have HD5 := Lib.hid hD5
  have HC5 := Lib.hid hC5
  clear hD5 hC5 cx fzx hc HH4 HC4 HL4 c16
  have c16 := HD5.out.at_
  have fz16 : w5.frozen? ⟨gy, 16, none⟩ = false := HD5.out.rw.frozen _
  go_wp2_with fail
  go_ret
  refine ⟨?_, ?_, HC5.out.trans (Chg.of_one (S := dwS gy gb) (one_setCell _ gy 16 _) (.inl rfl)) (fun _ _ h => h)⟩
  · rw [HST.out]; rfl
  · rw [HST.out]; exact HD5.out.setAt _ hnv.1 hnv.2
set_option maxRecDepth 100000 in
set_option maxHeartbeats 16000000 in
theorem refStep_2 {w : World} {gy gb N m cap : Nat} {A : Option Addr} {s : Mach} (h : DW w gy gb N m A cap s) (x y z : Nat) (hx : x < 16) (hy : y ≤ 255) (hz : z ≤ 255) :
    Calls Try.prog 29 #[.pointer (some ⟨gy, 0, none⟩), .agg #[.int .u8 2, .int .u8 x, .int .u8 y, .int .u8 z]] w (RefP gy gb N m A cap s 2 x y z w) := by
  have hb1 := bnew w (.cells #[.int .u8 2, .int .u8 x, .int .u8 y, .int .u8 z] 24)
  have hl1 := heap_alloc_last w (.cells #[.int .u8 2, .int .u8 x, .int .u8 y, .int .u8 z] 24)
  have hh := h.keep hb1
  have hc := rowcell hl1
  obtain ⟨ym, zm, vx, vy, vz, va, nx, wd, sj, q4, far, sn, q8, nr, fym, lym, fzm, lzm, fx, lx, rx, ry, rz, ra, rn, fn2, rw0, fwd, rj, fq4, rf, rsn, fq8, rnr, HYM, HZM, HVX, HVY, HVZ, HNX, HWD, HSJ, HFAR, HSN, HNR, HVA, HS16, HWR, HS8, HWN, HQ4, HQ8, HVX2⟩ := stepPre h x y z hx hy hz
  have HB1 := Lib.hid hb1
  have HL1 := Lib.hid hl1
  have HH := Lib.hid hh
  clear hb1 hl1 hh h
  go_enter Try.func29, Try.ntmps29
  go_upto_region 1 with fail
  obtain ⟨NI, hN⟩ : ∃ N, N = w.heap.size := ⟨_, rfl⟩
  rw [← hN] at hc ⊢
  have HN := Lib.hid hN
  generalize w.alloc (.cells #[.int .u8 2, .int .u8 x, .int .u8 y, .int .u8 z] 24) = w1 at *
  clear hN hc
  have hl1 := HL1.out
  rw [← HN.out] at hl1
  have hS0 : (fun w' : World => w'.heap[NI]? = some (.cells #[.int .u8 2, .int .u8 x, .int .u8 y, .int .u8 z] 24 (0, 0))) (World.drew w1) := hl1
  have HL1' := Lib.hid hl1
  clear hl1
  refine wp_region_held (S := fun w' : World => w'.heap[NI]? = some (.cells #[.int .u8 2, .int .u8 x, .int .u8 y, .int .u8 z] 24 (0, 0))) (by kernel_rfl) ?_
  change wpAnyH _ _ _ _ _ _ _ _ (World.drew _)
  refine takeH 1 (.pointer (some ⟨NI, 0, none⟩)) (some 28) rfl rfl (by kernel_rfl) (by kernel_rfl) (by kernel_rfl) (fun _ _ _ h => h) (.inl ⟨by kernel_rfl, fun w _ => by go_simp⟩) hS0 ?_
  refine takeH 2 (.int .u8 2) (some 29) rfl rfl (by kernel_rfl) (by kernel_rfl) (by kernel_rfl) (fun _ _ _ h => h) (.inl ⟨by kernel_rfl, fun w hw => by have hc := rowcell hw; go_simp⟩) hS0 ?_
  refine callH 0 rfl (by kernel_rfl) (by kernel_rfl) (some 27) rfl 22 #[] ?hrun ((refNames_any _).mono ?_)
  case hrun => go_simp
  rintro e w2 ⟨he, hw2⟩
  have hG : w2.heap[w1.heap.size]? = some (.cells nameVals 9) := by rw [← hw2]; exact heap_alloc_last w1.drew _
  have hb2 : Below w1.heap.size w1 w2 := by rw [← hw2]; exact bnext (drewb w1) (bnew w1.drew _)
  have hS2 := bkeep hb2 HL1'.out
  have C5 := rowcell hG
  have hsz : w1.drew.heap.size = w1.heap.size := rfl
  rw [hsz] at he
  obtain ⟨G, hGG⟩ : ∃ G, G = w1.heap.size := ⟨_, rfl⟩
  rw [← hGG] at he C5
  have HB2 := Lib.hid hb2
  clear hw2 hG hb2 hsz hS0 hGG
  refine ⟨_, he, hS2, ?_⟩
  have C6 : w2.cell? ⟨G, 2, none⟩ = some (.string ⟨#[108, 100, 105]⟩) := by rw [C5]; rfl
  clear C5
  refine runH 3 (.pointer (some ⟨G, 2, none⟩)) (some 30) rfl (by kernel_rfl) (by kernel_rfl) rfl (by go_simp) hS2 ?_
  refine runH 4 (.string ⟨#[108, 100, 105]⟩) (some 31) rfl (by kernel_rfl) (by kernel_rfl) rfl (by go_simp) hS2 ?_
  refine runH 5 (.string ⟨#[108, 100, 105]⟩) (some 5) rfl (by kernel_rfl) (by kernel_rfl) rfl (by go_simp) hS2 ?_
  refine wpAnyH_done (by kernel_rfl) ?_ _
  go_simp
  have HL2 := Lib.hid hS2
  have HH2 := Lib.hid (HH.out.keep HB2.out)
  have HBB := Lib.hid (bnext HB1.out HB2.out)
  clear C6 hS2 HL1' he HH HL1 HB1
  have hc := rowcell HL2.out
  have c16 := HH2.out.at_
  rw [← HVA.out] at c16
  have cx := HH2.out.reg x hx
  rw [← HVX.out] at cx
  have cy := HH2.out.reg ym (by omega)
  rw [← HVY.out] at cy
  have cz := HH2.out.reg zm (by omega)
  rw [← HVZ.out] at cz
  go_wp2_with fail
  refine (HS16.out _).mono ?_; rintro e wx ⟨rfl, hwx⟩; subst hwx
  go_wp2_with fail
  refine (HWR.out _).mono ?_; rintro e wx ⟨rfl, hwx⟩; subst hwx
  go_upto_region 5 with fail
  go_quiet (fail)
  go_upto_region 6 with fail
  go_quiet (fail)
  go_upto_region 7 with fail
  go_quiet (fail)
  go_wp2_with fail
  refine (HS8.out _).mono ?_; rintro e w3 ⟨rfl, hw3⟩
  have hb3 : Below w2.heap.size w2 w3 := by rw [← hw3]; exact bdrewN (Below.refl _ _) _
  clear hw3 hc c16 cx cy cz
  have HL3 := Lib.hid (bkeep hb3 HL2.out)
  have HH3 := Lib.hid (HH2.out.keep hb3)
  have HB3 := Lib.hid (bnext HBB.out hb3)
  clear hb3 HL2 HH2 HBB
  go_wp2_with fail
  refine (HWN.out _).mono ?_; rintro e wx ⟨rfl, hwx⟩; subst hwx
  have hc := rowcell HL3.out
  go_wp2_with fail
  have hov : 0 ≤ wd ∧ wd ≤ 4294967295 := ⟨rw0.1, by omega⟩
  have hnv : 0 ≤ nx ∧ nx ≤ 4294967295 := rn
  have HST := Lib.hid (show stepI m s 2 x y z = (setAt (setR s x wd) nx, 0) by rw [HWD.out, HNX.out]; rfl)
  have hfm : ∀ w, Calls Try.prog 9 #[.int .i64 2] w fun e w' => e = .returned (.int .i64 5) ∧ Below w.heap.size w w' := fun w => by have h := refForm_in 2 (by omega) (by omega) w; rw [show formOf (2 : Int).toNat = 5 from by decide] at h; exact h
  refine (hfm _).mono ?_; rintro e w4 ⟨rfl, hb4⟩
  have HL4 := Lib.hid (bkeep hb4 HL3.out)
  have HH4 := Lib.hid (HH3.out.keep hb4)
  have HC4 := Lib.hid ((Chg.of_below (dwS gy gb) HB3.out).trans (Chg.of_below (dwS gy gb) hb4) (fun _ _ h => h))
  clear hb4 hc hfm
  have hc := rowcell HL4.out
  have c16 := HH4.out.at_
  have fx2 : (x : Int).tmod 16 = x := by rw [Int.tmod_eq_emod_of_nonneg (by omega)]; omega
  have lx0 : (0 : Int) ≤ x := by omega
  have cx := HH4.out.reg x hx
  have fzx : w4.frozen? ⟨gy, x, none⟩ = false := HH4.out.rw.frozen _
  go_upto_region 130 with fail
  refine wp_region_still_tail 8 (by kernel_rfl) (by kernel_rfl) ?_
  simp only [List.take_succ_cons, List.take_zero, List.drop_succ_cons, List.drop_zero]
  change wpStill _ _ (World.drew w4) _ _ _
  iterate 8 still_step
  refine wpStill_nil ?_
  change wpList _ _ _ _ _ (World.drew w4)
  go_upto_region 131 with fail
  have hD5 : DW (World.drew (w4.setCell ⟨gy, x, none⟩ (.int .u32 wd))) gy gb N m A cap (setR s x wd) := (HH4.out.setR x hx _ hov.1 hov.2).keep (drewb _)
  have hC5 : Chg (dwS gy gb) w (World.drew (w4.setCell ⟨gy, x, none⟩ (.int .u32 wd))) := (HC4.out.trans (Chg.of_one (S := dwS gy gb) (one_setCell _ gy x _) (.inl rfl)) (fun _ _ h => h)).trans (Chg.of_below (dwS gy gb) (drewb _)) (fun _ _ h => h)
  generalize World.drew (w4.setCell ⟨gy, x, none⟩ (.int .u32 wd)) = w5 at *
  have HD5 := Lib.hid hD5
  have HC5 := Lib.hid hC5
  clear hD5 hC5 cx fzx hc HH4 HC4 HL4 c16
  have c16 := HD5.out.at_
  have fz16 : w5.frozen? ⟨gy, 16, none⟩ = false := HD5.out.rw.frozen _
  go_wp2_with fail
  go_ret
  refine ⟨?_, ?_, HC5.out.trans (Chg.of_one (S := dwS gy gb) (one_setCell _ gy 16 _) (.inl rfl)) (fun _ _ h => h)⟩
  · rw [HST.out]; rfl
  · rw [HST.out]; exact HD5.out.setAt _ hnv.1 hnv.2
set_option maxRecDepth 100000 in
set_option maxHeartbeats 16000000 in
theorem refStep_3 {w : World} {gy gb N m cap : Nat} {A : Option Addr} {s : Mach} (h : DW w gy gb N m A cap s) (x y z : Nat) (hx : x < 16) (hy : y ≤ 255) (hz : z ≤ 255) :
    Calls Try.prog 29 #[.pointer (some ⟨gy, 0, none⟩), .agg #[.int .u8 3, .int .u8 x, .int .u8 y, .int .u8 z]] w (RefP gy gb N m A cap s 3 x y z w) := by
  have hb1 := bnew w (.cells #[.int .u8 3, .int .u8 x, .int .u8 y, .int .u8 z] 24)
  have hl1 := heap_alloc_last w (.cells #[.int .u8 3, .int .u8 x, .int .u8 y, .int .u8 z] 24)
  have hh := h.keep hb1
  have hc := rowcell hl1
  obtain ⟨ym, zm, vx, vy, vz, va, nx, wd, sj, q4, far, sn, q8, nr, fym, lym, fzm, lzm, fx, lx, rx, ry, rz, ra, rn, fn2, rw0, fwd, rj, fq4, rf, rsn, fq8, rnr, HYM, HZM, HVX, HVY, HVZ, HNX, HWD, HSJ, HFAR, HSN, HNR, HVA, HS16, HWR, HS8, HWN, HQ4, HQ8, HVX2⟩ := stepPre h x y z hx hy hz
  have HB1 := Lib.hid hb1
  have HL1 := Lib.hid hl1
  have HH := Lib.hid hh
  clear hb1 hl1 hh h
  obtain ⟨ov, hov⟩ : ∃ k, k = sj % 4294967296 := ⟨_, rfl⟩
  have HOV := Lib.hid hov
  have HWA := Lib.hid (fun w => by have h := refWrap_any (sj) (by omega) (by omega) w; rw [show (sj) % 4294967296 = ov from hov.symm] at h; exact h)
  have bov : 0 ≤ ov ∧ ov ≤ 4294967295 := by omega
  clear hov
  go_enter Try.func29, Try.ntmps29
  go_upto_region 1 with fail
  obtain ⟨NI, hN⟩ : ∃ N, N = w.heap.size := ⟨_, rfl⟩
  rw [← hN] at hc ⊢
  have HN := Lib.hid hN
  generalize w.alloc (.cells #[.int .u8 3, .int .u8 x, .int .u8 y, .int .u8 z] 24) = w1 at *
  clear hN hc
  have hl1 := HL1.out
  rw [← HN.out] at hl1
  have hS0 : (fun w' : World => w'.heap[NI]? = some (.cells #[.int .u8 3, .int .u8 x, .int .u8 y, .int .u8 z] 24 (0, 0))) (World.drew w1) := hl1
  have HL1' := Lib.hid hl1
  clear hl1
  refine wp_region_held (S := fun w' : World => w'.heap[NI]? = some (.cells #[.int .u8 3, .int .u8 x, .int .u8 y, .int .u8 z] 24 (0, 0))) (by kernel_rfl) ?_
  change wpAnyH _ _ _ _ _ _ _ _ (World.drew _)
  refine takeH 1 (.pointer (some ⟨NI, 0, none⟩)) (some 28) rfl rfl (by kernel_rfl) (by kernel_rfl) (by kernel_rfl) (fun _ _ _ h => h) (.inl ⟨by kernel_rfl, fun w _ => by go_simp⟩) hS0 ?_
  refine takeH 2 (.int .u8 3) (some 29) rfl rfl (by kernel_rfl) (by kernel_rfl) (by kernel_rfl) (fun _ _ _ h => h) (.inl ⟨by kernel_rfl, fun w hw => by have hc := rowcell hw; go_simp⟩) hS0 ?_
  refine callH 0 rfl (by kernel_rfl) (by kernel_rfl) (some 27) rfl 22 #[] ?hrun ((refNames_any _).mono ?_)
  case hrun => go_simp
  rintro e w2 ⟨he, hw2⟩
  have hG : w2.heap[w1.heap.size]? = some (.cells nameVals 9) := by rw [← hw2]; exact heap_alloc_last w1.drew _
  have hb2 : Below w1.heap.size w1 w2 := by rw [← hw2]; exact bnext (drewb w1) (bnew w1.drew _)
  have hS2 := bkeep hb2 HL1'.out
  have C5 := rowcell hG
  have hsz : w1.drew.heap.size = w1.heap.size := rfl
  rw [hsz] at he
  obtain ⟨G, hGG⟩ : ∃ G, G = w1.heap.size := ⟨_, rfl⟩
  rw [← hGG] at he C5
  have HB2 := Lib.hid hb2
  clear hw2 hG hb2 hsz hS0 hGG
  refine ⟨_, he, hS2, ?_⟩
  have C6 : w2.cell? ⟨G, 3, none⟩ = some (.string ⟨#[108, 100, 115]⟩) := by rw [C5]; rfl
  clear C5
  refine runH 3 (.pointer (some ⟨G, 3, none⟩)) (some 30) rfl (by kernel_rfl) (by kernel_rfl) rfl (by go_simp) hS2 ?_
  refine runH 4 (.string ⟨#[108, 100, 115]⟩) (some 31) rfl (by kernel_rfl) (by kernel_rfl) rfl (by go_simp) hS2 ?_
  refine runH 5 (.string ⟨#[108, 100, 115]⟩) (some 5) rfl (by kernel_rfl) (by kernel_rfl) rfl (by go_simp) hS2 ?_
  refine wpAnyH_done (by kernel_rfl) ?_ _
  go_simp
  have HL2 := Lib.hid hS2
  have HH2 := Lib.hid (HH.out.keep HB2.out)
  have HBB := Lib.hid (bnext HB1.out HB2.out)
  clear C6 hS2 HL1' he HH HL1 HB1
  have hc := rowcell HL2.out
  have c16 := HH2.out.at_
  rw [← HVA.out] at c16
  have cx := HH2.out.reg x hx
  rw [← HVX.out] at cx
  have cy := HH2.out.reg ym (by omega)
  rw [← HVY.out] at cy
  have cz := HH2.out.reg zm (by omega)
  rw [← HVZ.out] at cz
  go_wp2_with fail
  refine (HS16.out _).mono ?_; rintro e wx ⟨rfl, hwx⟩; subst hwx
  go_wp2_with fail
  refine (HWR.out _).mono ?_; rintro e wx ⟨rfl, hwx⟩; subst hwx
  go_upto_region 5 with fail
  go_quiet (fail)
  go_upto_region 6 with fail
  go_quiet (fail)
  go_upto_region 7 with fail
  go_quiet (fail)
  go_wp2_with fail
  refine (HS8.out _).mono ?_; rintro e w3 ⟨rfl, hw3⟩
  have hb3 : Below w2.heap.size w2 w3 := by rw [← hw3]; exact bdrewN (Below.refl _ _) _
  clear hw3 hc c16 cx cy cz
  have HL3 := Lib.hid (bkeep hb3 HL2.out)
  have HH3 := Lib.hid (HH2.out.keep hb3)
  have HB3 := Lib.hid (bnext HBB.out hb3)
  clear hb3 HL2 HH2 HBB
  go_wp2_with fail
  refine (HWN.out _).mono ?_; rintro e wx ⟨rfl, hwx⟩; subst hwx
  have hc := rowcell HL3.out
  go_wp2_with fail
  refine (HS16.out _).mono ?_; rintro e wx ⟨rfl, hwx⟩; subst hwx
  go_wp2_with fail
  refine (HWA.out _).mono ?_; rintro e wx ⟨rfl, hwx⟩; subst hwx
  go_wp2_with fail
  have hov : 0 ≤ ov ∧ ov ≤ 4294967295 := bov
  have hnv : 0 ≤ nx ∧ nx ≤ 4294967295 := rn
  have HST := Lib.hid (show stepI m s 3 x y z = (setAt (setR s x ov) nx, 0) by rw [HOV.out, HSJ.out, HWD.out, HNX.out]; rfl)
  have hfm : ∀ w, Calls Try.prog 9 #[.int .i64 3] w fun e w' => e = .returned (.int .i64 5) ∧ Below w.heap.size w w' := fun w => by have h := refForm_in 3 (by omega) (by omega) w; rw [show formOf (3 : Int).toNat = 5 from by decide] at h; exact h
  refine (hfm _).mono ?_; rintro e w4 ⟨rfl, hb4⟩
  have HL4 := Lib.hid (bkeep hb4 HL3.out)
  have HH4 := Lib.hid (HH3.out.keep hb4)
  have HC4 := Lib.hid ((Chg.of_below (dwS gy gb) HB3.out).trans (Chg.of_below (dwS gy gb) hb4) (fun _ _ h => h))
  clear hb4 hc hfm
  have hc := rowcell HL4.out
  have c16 := HH4.out.at_
  have fx2 : (x : Int).tmod 16 = x := by rw [Int.tmod_eq_emod_of_nonneg (by omega)]; omega
  have lx0 : (0 : Int) ≤ x := by omega
  have cx := HH4.out.reg x hx
  have fzx : w4.frozen? ⟨gy, x, none⟩ = false := HH4.out.rw.frozen _
  go_upto_region 130 with fail
  refine wp_region_still_tail 8 (by kernel_rfl) (by kernel_rfl) ?_
  simp only [List.take_succ_cons, List.take_zero, List.drop_succ_cons, List.drop_zero]
  change wpStill _ _ (World.drew w4) _ _ _
  iterate 8 still_step
  refine wpStill_nil ?_
  change wpList _ _ _ _ _ (World.drew w4)
  go_upto_region 131 with fail
  have hD5 : DW (World.drew (w4.setCell ⟨gy, x, none⟩ (.int .u32 ov))) gy gb N m A cap (setR s x ov) := (HH4.out.setR x hx _ hov.1 hov.2).keep (drewb _)
  have hC5 : Chg (dwS gy gb) w (World.drew (w4.setCell ⟨gy, x, none⟩ (.int .u32 ov))) := (HC4.out.trans (Chg.of_one (S := dwS gy gb) (one_setCell _ gy x _) (.inl rfl)) (fun _ _ h => h)).trans (Chg.of_below (dwS gy gb) (drewb _)) (fun _ _ h => h)
  generalize World.drew (w4.setCell ⟨gy, x, none⟩ (.int .u32 ov)) = w5 at *
  have HD5 := Lib.hid hD5
  have HC5 := Lib.hid hC5
  clear hD5 hC5 cx fzx hc HH4 HC4 HL4 c16
  have c16 := HD5.out.at_
  have fz16 : w5.frozen? ⟨gy, 16, none⟩ = false := HD5.out.rw.frozen _
  go_wp2_with fail
  go_ret
  refine ⟨?_, ?_, HC5.out.trans (Chg.of_one (S := dwS gy gb) (one_setCell _ gy 16 _) (.inl rfl)) (fun _ _ h => h)⟩
  · rw [HST.out]; rfl
  · rw [HST.out]; exact HD5.out.setAt _ hnv.1 hnv.2
set_option maxRecDepth 100000 in
set_option maxHeartbeats 16000000 in
theorem refStep_4 {w : World} {gy gb N m cap : Nat} {A : Option Addr} {s : Mach} (h : DW w gy gb N m A cap s) (x y z : Nat) (hx : x < 16) (hy : y ≤ 255) (hz : z ≤ 255) :
    Calls Try.prog 29 #[.pointer (some ⟨gy, 0, none⟩), .agg #[.int .u8 4, .int .u8 x, .int .u8 y, .int .u8 z]] w (RefP gy gb N m A cap s 4 x y z w) := by
  have hb1 := bnew w (.cells #[.int .u8 4, .int .u8 x, .int .u8 y, .int .u8 z] 24)
  have hl1 := heap_alloc_last w (.cells #[.int .u8 4, .int .u8 x, .int .u8 y, .int .u8 z] 24)
  have hh := h.keep hb1
  have hc := rowcell hl1
  obtain ⟨ym, zm, vx, vy, vz, va, nx, wd, sj, q4, far, sn, q8, nr, fym, lym, fzm, lzm, fx, lx, rx, ry, rz, ra, rn, fn2, rw0, fwd, rj, fq4, rf, rsn, fq8, rnr, HYM, HZM, HVX, HVY, HVZ, HNX, HWD, HSJ, HFAR, HSN, HNR, HVA, HS16, HWR, HS8, HWN, HQ4, HQ8, HVX2⟩ := stepPre h x y z hx hy hz
  have HB1 := Lib.hid hb1
  have HL1 := Lib.hid hl1
  have HH := Lib.hid hh
  clear hb1 hl1 hh h
  obtain ⟨ov, hov⟩ : ∃ k, k = vx % 65536 + wd * 65536 := ⟨_, rfl⟩
  have HOV := Lib.hid hov
  have fov : vx % 65536 + wd * 65536 = ov := hov.symm
  have bov : 0 ≤ ov ∧ ov ≤ 4294967295 := by omega
  clear hov
  go_enter Try.func29, Try.ntmps29
  go_upto_region 1 with fail
  obtain ⟨NI, hN⟩ : ∃ N, N = w.heap.size := ⟨_, rfl⟩
  rw [← hN] at hc ⊢
  have HN := Lib.hid hN
  generalize w.alloc (.cells #[.int .u8 4, .int .u8 x, .int .u8 y, .int .u8 z] 24) = w1 at *
  clear hN hc
  have hl1 := HL1.out
  rw [← HN.out] at hl1
  have hS0 : (fun w' : World => w'.heap[NI]? = some (.cells #[.int .u8 4, .int .u8 x, .int .u8 y, .int .u8 z] 24 (0, 0))) (World.drew w1) := hl1
  have HL1' := Lib.hid hl1
  clear hl1
  refine wp_region_held (S := fun w' : World => w'.heap[NI]? = some (.cells #[.int .u8 4, .int .u8 x, .int .u8 y, .int .u8 z] 24 (0, 0))) (by kernel_rfl) ?_
  change wpAnyH _ _ _ _ _ _ _ _ (World.drew _)
  refine takeH 1 (.pointer (some ⟨NI, 0, none⟩)) (some 28) rfl rfl (by kernel_rfl) (by kernel_rfl) (by kernel_rfl) (fun _ _ _ h => h) (.inl ⟨by kernel_rfl, fun w _ => by go_simp⟩) hS0 ?_
  refine takeH 2 (.int .u8 4) (some 29) rfl rfl (by kernel_rfl) (by kernel_rfl) (by kernel_rfl) (fun _ _ _ h => h) (.inl ⟨by kernel_rfl, fun w hw => by have hc := rowcell hw; go_simp⟩) hS0 ?_
  refine callH 0 rfl (by kernel_rfl) (by kernel_rfl) (some 27) rfl 22 #[] ?hrun ((refNames_any _).mono ?_)
  case hrun => go_simp
  rintro e w2 ⟨he, hw2⟩
  have hG : w2.heap[w1.heap.size]? = some (.cells nameVals 9) := by rw [← hw2]; exact heap_alloc_last w1.drew _
  have hb2 : Below w1.heap.size w1 w2 := by rw [← hw2]; exact bnext (drewb w1) (bnew w1.drew _)
  have hS2 := bkeep hb2 HL1'.out
  have C5 := rowcell hG
  have hsz : w1.drew.heap.size = w1.heap.size := rfl
  rw [hsz] at he
  obtain ⟨G, hGG⟩ : ∃ G, G = w1.heap.size := ⟨_, rfl⟩
  rw [← hGG] at he C5
  have HB2 := Lib.hid hb2
  clear hw2 hG hb2 hsz hS0 hGG
  refine ⟨_, he, hS2, ?_⟩
  have C6 : w2.cell? ⟨G, 4, none⟩ = some (.string ⟨#[108, 117, 105]⟩) := by rw [C5]; rfl
  clear C5
  refine runH 3 (.pointer (some ⟨G, 4, none⟩)) (some 30) rfl (by kernel_rfl) (by kernel_rfl) rfl (by go_simp) hS2 ?_
  refine runH 4 (.string ⟨#[108, 117, 105]⟩) (some 31) rfl (by kernel_rfl) (by kernel_rfl) rfl (by go_simp) hS2 ?_
  refine runH 5 (.string ⟨#[108, 117, 105]⟩) (some 5) rfl (by kernel_rfl) (by kernel_rfl) rfl (by go_simp) hS2 ?_
  refine wpAnyH_done (by kernel_rfl) ?_ _
  go_simp
  have HL2 := Lib.hid hS2
  have HH2 := Lib.hid (HH.out.keep HB2.out)
  have HBB := Lib.hid (bnext HB1.out HB2.out)
  clear C6 hS2 HL1' he HH HL1 HB1
  have hc := rowcell HL2.out
  have c16 := HH2.out.at_
  rw [← HVA.out] at c16
  have cx := HH2.out.reg x hx
  rw [← HVX.out] at cx
  have cy := HH2.out.reg ym (by omega)
  rw [← HVY.out] at cy
  have cz := HH2.out.reg zm (by omega)
  rw [← HVZ.out] at cz
  go_wp2_with fail
  refine (HS16.out _).mono ?_; rintro e wx ⟨rfl, hwx⟩; subst hwx
  go_wp2_with fail
  refine (HWR.out _).mono ?_; rintro e wx ⟨rfl, hwx⟩; subst hwx
  go_upto_region 5 with fail
  go_quiet (fail)
  go_upto_region 6 with fail
  go_quiet (fail)
  go_upto_region 7 with fail
  go_quiet (fail)
  go_wp2_with fail
  refine (HS8.out _).mono ?_; rintro e w3 ⟨rfl, hw3⟩
  have hb3 : Below w2.heap.size w2 w3 := by rw [← hw3]; exact bdrewN (Below.refl _ _) _
  clear hw3 hc c16 cx cy cz
  have HL3 := Lib.hid (bkeep hb3 HL2.out)
  have HH3 := Lib.hid (HH2.out.keep hb3)
  have HB3 := Lib.hid (bnext HBB.out hb3)
  clear hb3 HL2 HH2 HBB
  go_wp2_with fail
  refine (HWN.out _).mono ?_; rintro e wx ⟨rfl, hwx⟩; subst hwx
  have hc := rowcell HL3.out
  go_wp2_with fail
  have hov : 0 ≤ ov ∧ ov ≤ 4294967295 := bov
  have hnv : 0 ≤ nx ∧ nx ≤ 4294967295 := rn
  have HST := Lib.hid (show stepI m s 4 x y z = (setAt (setR s x ov) nx, 0) by rw [HOV.out, HVX2.out, HWD.out, HNX.out]; rfl)
  have hfm : ∀ w, Calls Try.prog 9 #[.int .i64 4] w fun e w' => e = .returned (.int .i64 5) ∧ Below w.heap.size w w' := fun w => by have h := refForm_in 4 (by omega) (by omega) w; rw [show formOf (4 : Int).toNat = 5 from by decide] at h; exact h
  refine (hfm _).mono ?_; rintro e w4 ⟨rfl, hb4⟩
  have HL4 := Lib.hid (bkeep hb4 HL3.out)
  have HH4 := Lib.hid (HH3.out.keep hb4)
  have HC4 := Lib.hid ((Chg.of_below (dwS gy gb) HB3.out).trans (Chg.of_below (dwS gy gb) hb4) (fun _ _ h => h))
  clear hb4 hc hfm
  have hc := rowcell HL4.out
  have c16 := HH4.out.at_
  have fx2 : (x : Int).tmod 16 = x := by rw [Int.tmod_eq_emod_of_nonneg (by omega)]; omega
  have lx0 : (0 : Int) ≤ x := by omega
  have cx := HH4.out.reg x hx
  have fzx : w4.frozen? ⟨gy, x, none⟩ = false := HH4.out.rw.frozen _
  go_upto_region 130 with fail
  refine wp_region_still_tail 8 (by kernel_rfl) (by kernel_rfl) ?_
  simp only [List.take_succ_cons, List.take_zero, List.drop_succ_cons, List.drop_zero]
  change wpStill _ _ (World.drew w4) _ _ _
  iterate 8 still_step
  refine wpStill_nil ?_
  change wpList _ _ _ _ _ (World.drew w4)
  go_upto_region 131 with fail
  have hD5 : DW (World.drew (w4.setCell ⟨gy, x, none⟩ (.int .u32 ov))) gy gb N m A cap (setR s x ov) := (HH4.out.setR x hx _ hov.1 hov.2).keep (drewb _)
  have hC5 : Chg (dwS gy gb) w (World.drew (w4.setCell ⟨gy, x, none⟩ (.int .u32 ov))) := (HC4.out.trans (Chg.of_one (S := dwS gy gb) (one_setCell _ gy x _) (.inl rfl)) (fun _ _ h => h)).trans (Chg.of_below (dwS gy gb) (drewb _)) (fun _ _ h => h)
  generalize World.drew (w4.setCell ⟨gy, x, none⟩ (.int .u32 ov)) = w5 at *
  have HD5 := Lib.hid hD5
  have HC5 := Lib.hid hC5
  clear hD5 hC5 cx fzx hc HH4 HC4 HL4 c16
  have c16 := HD5.out.at_
  have fz16 : w5.frozen? ⟨gy, 16, none⟩ = false := HD5.out.rw.frozen _
  go_wp2_with fail
  go_ret
  refine ⟨?_, ?_, HC5.out.trans (Chg.of_one (S := dwS gy gb) (one_setCell _ gy 16 _) (.inl rfl)) (fun _ _ h => h)⟩
  · rw [HST.out]; rfl
  · rw [HST.out]; exact HD5.out.setAt _ hnv.1 hnv.2
end Go.Proofs.Ytapcbfeifeobhaa
