/- The document's step. -/
import Derived.Test.YtapcbfeifeobhaaRf0
set_option linter.unusedVariables false
set_option linter.unusedSimpArgs false
namespace Go.Proofs.Ytapcbfeifeobhaa
open Go.RowKit
set_option maxRecDepth 100000 in
set_option maxHeartbeats 16000000 in
theorem refStep_23a {w : World} {gy gb N m cap : Nat} {A : Option Addr} {s : Mach} (h : DW w gy gb N m A cap s) (x y z : Nat) (hx : x < 16) (hy : y ≤ 255) (hz : z ≤ 255) (hcnd : ((s.R (y % 16) + near z % 4294967296) % 4294967296).toNat + 1 ≤ 64 * m) :
    Calls Try.prog 29 #[.pointer (some ⟨gy, 0, none⟩), .agg #[.int .u8 23, .int .u8 x, .int .u8 y, .int .u8 z]] w (RefP gy gb N m A cap s 23 x y z w) := by
  have HCND := Lib.hid hcnd
  clear hcnd
  have hb1 := bnew w (.cells #[.int .u8 23, .int .u8 x, .int .u8 y, .int .u8 z] 24)
  have hl1 := heap_alloc_last w (.cells #[.int .u8 23, .int .u8 x, .int .u8 y, .int .u8 z] 24)
  have hh := h.keep hb1
  have hc := rowcell hl1
  obtain ⟨ym, zm, vx, vy, vz, va, nx, wd, sj, q4, far, sn, q8, nr, fym, lym, fzm, lzm, fx, lx, rx, ry, rz, ra, rn, fn2, rw0, fwd, rj, fq4, rf, rsn, fq8, rnr, HYM, HZM, HVX, HVY, HVZ, HNX, HWD, HSJ, HFAR, HSN, HNR, HVA, HS16, HWR, HS8, HWN, HQ4, HQ8, HVX2⟩ := stepPre h x y z hx hy hz
  have HB1 := Lib.hid hb1
  have HL1 := Lib.hid hl1
  have HH := Lib.hid hh
  clear hb1 hl1 hh h
  obtain ⟨na, hna⟩ : ∃ n, n = ((s.R (y % 16) + near z % 4294967296) % 4294967296).toNat := ⟨_, rfl⟩
  have hnn : (na : Int) = nr := by rw [hna, HNR.out, HSN.out, HVY.out, HYM.out]; exact Int.toNat_of_nonneg (by omega)
  have HNA := Lib.hid hna
  have HNN := Lib.hid hnn
  clear hna hnn
  obtain ⟨Lm, hLm⟩ : ∃ L, L = 64 * m := ⟨_, rfl⟩
  have HLM := Lib.hid hLm
  clear hLm
  go_enter Try.func29, Try.ntmps29
  go_upto_region 1 with fail
  obtain ⟨NI, hN⟩ : ∃ N, N = w.heap.size := ⟨_, rfl⟩
  rw [← hN] at hc ⊢
  have HN := Lib.hid hN
  generalize w.alloc (.cells #[.int .u8 23, .int .u8 x, .int .u8 y, .int .u8 z] 24) = w1 at *
  clear hN hc
  have hl1 := HL1.out
  rw [← HN.out] at hl1
  have hS0 : (fun w' : World => w'.heap[NI]? = some (.cells #[.int .u8 23, .int .u8 x, .int .u8 y, .int .u8 z] 24 (0, 0))) (World.drew w1) := hl1
  have HL1' := Lib.hid hl1
  clear hl1
  refine wp_region_held (S := fun w' : World => w'.heap[NI]? = some (.cells #[.int .u8 23, .int .u8 x, .int .u8 y, .int .u8 z] 24 (0, 0))) (by kernel_rfl) ?_
  change wpAnyH _ _ _ _ _ _ _ _ (World.drew _)
  refine takeH 1 (.pointer (some ⟨NI, 0, none⟩)) (some 28) rfl rfl (by kernel_rfl) (by kernel_rfl) (by kernel_rfl) (fun _ _ _ h => h) (.inl ⟨by kernel_rfl, fun w _ => by go_simp⟩) hS0 ?_
  refine takeH 2 (.int .u8 23) (some 29) rfl rfl (by kernel_rfl) (by kernel_rfl) (by kernel_rfl) (fun _ _ _ h => h) (.inl ⟨by kernel_rfl, fun w hw => by have hc := rowcell hw; go_simp⟩) hS0 ?_
  refine callH 0 rfl (by kernel_rfl) (by kernel_rfl) (some 27) rfl 22 #[] ?hrun ((refNames_any _).mono ?_)
  case hrun => go_simp
  rintro e w2 ⟨he, hw2⟩
  have hG : w2.heap[w1.heap.size]? = some (.cells nameVals 9) := by rw [← hw2]; exact heap_alloc_last w1.drew _
  have hb2 : Below w1.heap.size w1 w2 := by rw [← hw2]; exact bnext (drewb w1) (bnew w1.drew _)
  have hS2 := bkeep hb2 HL1'.out
  have C5 := rowcell hG
  have hsz : w1.drew.heap.size = w1.heap.size := rfl
  rw [hsz] at he
  obtain ⟨G, hGG⟩ : ∃ G, G = w1.heap.size := ⟨_, rfl⟩
  rw [← hGG] at he C5
  have HB2 := Lib.hid hb2
  clear hw2 hG hb2 hsz hS0 hGG
  refine ⟨_, he, hS2, ?_⟩
  have C6 : w2.cell? ⟨G, 23, none⟩ = some (.string ⟨#[108, 98, 115]⟩) := by rw [C5]; rfl
  clear C5
  refine runH 3 (.pointer (some ⟨G, 23, none⟩)) (some 30) rfl (by kernel_rfl) (by kernel_rfl) rfl (by go_simp) hS2 ?_
  refine runH 4 (.string ⟨#[108, 98, 115]⟩) (some 31) rfl (by kernel_rfl) (by kernel_rfl) rfl (by go_simp) hS2 ?_
  refine runH 5 (.string ⟨#[108, 98, 115]⟩) (some 5) rfl (by kernel_rfl) (by kernel_rfl) rfl (by go_simp) hS2 ?_
  refine wpAnyH_done (by kernel_rfl) ?_ _
  go_simp
  have HL2 := Lib.hid hS2
  have HH2 := Lib.hid (HH.out.keep HB2.out)
  have HBB := Lib.hid (bnext HB1.out HB2.out)
  clear C6 hS2 HL1' he HH HL1 HB1
  have hc := rowcell HL2.out
  have c16 := HH2.out.at_
  rw [← HVA.out] at c16
  have cx := HH2.out.reg x hx
  rw [← HVX.out] at cx
  have cy := HH2.out.reg ym (by omega)
  rw [← HVY.out] at cy
  have cz := HH2.out.reg zm (by omega)
  rw [← HVZ.out] at cz
  go_wp2_with fail
  refine (HS16.out _).mono ?_; rintro e wx ⟨rfl, hwx⟩; subst hwx
  go_wp2_with fail
  refine (HWR.out _).mono ?_; rintro e wx ⟨rfl, hwx⟩; subst hwx
  go_upto_region 5 with fail
  go_quiet (fail)
  go_upto_region 6 with fail
  go_quiet (fail)
  go_upto_region 7 with fail
  go_quiet (fail)
  go_wp2_with fail
  refine (HS8.out _).mono ?_; rintro e w3 ⟨rfl, hw3⟩
  have hb3 : Below w2.heap.size w2 w3 := by rw [← hw3]; exact bdrewN (Below.refl _ _) _
  clear hw3 hc c16 cx cy cz
  have HL3 := Lib.hid (bkeep hb3 HL2.out)
  have HH3 := Lib.hid (HH2.out.keep hb3)
  have HB3 := Lib.hid (bnext HBB.out hb3)
  clear hb3 HL2 HH2 HBB
  go_wp2_with fail
  refine (HWN.out _).mono ?_; rintro e wx ⟨rfl, hwx⟩; subst hwx
  have hc := rowcell HL3.out
  have cmv := HH3.out.mv
  rw [← HLM.out] at cmv
  go_wp2_with fail
  obtain ⟨n1, hn1⟩ : ∃ n : Int, n = ((ldN s.mem na 1 : Nat) : Int) := ⟨_, rfl⟩
  have bn1 : 0 ≤ n1 ∧ n1 ≤ 4294967295 := by
    have hlt := ldN_lt (mem := s.mem) (at_ := na) 1 (fun i hi => HH3.out.bw.m0 _ (by have := HCND.out; rw [← HNA.out] at this; omega))
    rw [hn1]; omega
  have HN1 := Lib.hid hn1
  clear hn1
  have hld : Calls Try.prog 27 #[.slice A Lm cap, .int .u32 nr, .int .i64 1] w3 fun e w' => e = .returned (.tuple #[.int .u32 n1, .int .i64 0]) ∧ w3 = w' := by have h := refLoad_ok HH3.out.bw cap na 1 HH3.out.cp (by omega) (by omega) (by rw [HNA.out]; exact HCND.out); rw [HNN.out, ← HLM.out, ← HN1.out] at h; exact h
  refine hld.mono ?_; rintro e wx ⟨rfl, hwx⟩; subst hwx
  clear hld cmv
  obtain ⟨sv, hsv⟩ : ∃ k, k = sgI 256 n1 := ⟨_, rfl⟩
  have HSV := Lib.hid hsv
  have bsv := sgI_le 256 n1 (by omega)
  rw [← hsv] at bsv
  have HSV8 := Lib.hid (fun w => by have h := refSigned8 n1 bn1.1 bn1.2 w; rw [← hsv] at h; exact h)
  clear hsv
  obtain ⟨ov, hov⟩ : ∃ k, k = sv % 4294967296 := ⟨_, rfl⟩
  have HOV := Lib.hid hov
  have HWA := Lib.hid (fun w => by have h := refWrap_any (sv) (by omega) (by omega) w; rw [show (sv) % 4294967296 = ov from hov.symm] at h; exact h)
  have bov : 0 ≤ ov ∧ ov ≤ 4294967295 := by omega
  clear hov
  go_wp2_with fail
  refine (HSV8.out _).mono ?_; rintro e wx ⟨rfl, hwx⟩; subst hwx
  go_wp2_with fail
  refine (HWA.out _).mono ?_; rintro e wx ⟨rfl, hwx⟩; subst hwx
  go_wp2_with fail
  have hov : 0 ≤ ov ∧ ov ≤ 4294967295 := bov
  have hnv : 0 ≤ nx ∧ nx ≤ 4294967295 := rn
  have HST := Lib.hid (show stepI m s 23 x y z = (setAt (setR s x ov) nx, 0) by show (if (memI m s 23 x ((s.R (y % 16) + near z % 4294967296) % 4294967296).toNat).2 = 0 then _ else _) = _; rw [show memI m s 23 x ((s.R (y % 16) + near z % 4294967296) % 4294967296).toNat = (setR s x (ldI 23 (ldN s.mem ((s.R (y % 16) + near z % 4294967296) % 4294967296).toNat 1)), 0) from by unfold memI; rw [show bytesN 23 = 1 from rfl, if_neg (Nat.not_lt.2 HCND.out), if_neg (by decide)]]; rw [HOV.out, HSV.out, ← sx8_sg, HN1.out, HNA.out, HNX.out]; rfl)
  have hfm : ∀ w, Calls Try.prog 9 #[.int .i64 23] w fun e w' => e = .returned (.int .i64 4) ∧ Below w.heap.size w w' := fun w => by have h := refForm_in 23 (by omega) (by omega) w; rw [show formOf (23 : Int).toNat = 4 from by decide] at h; exact h
  refine (hfm _).mono ?_; rintro e w4 ⟨rfl, hb4⟩
  have HL4 := Lib.hid (bkeep hb4 HL3.out)
  have HH4 := Lib.hid (HH3.out.keep hb4)
  have HC4 := Lib.hid ((Chg.of_below (dwS gy gb) HB3.out).trans (Chg.of_below (dwS gy gb) hb4) (fun _ _ h => h))
  clear hb4 hc hfm
  have hc := rowcell HL4.out
  have c16 := HH4.out.at_
  have fx2 : (x : Int).tmod 16 = x := by rw [Int.tmod_eq_emod_of_nonneg (by omega)]; omega
  have lx0 : (0 : Int) ≤ x := by omega
  have cx := HH4.out.reg x hx
  have fzx : w4.frozen? ⟨gy, x, none⟩ = false := HH4.out.rw.frozen _
  go_upto_region 130 with fail
  refine wp_region_still_tail 8 (by kernel_rfl) (by kernel_rfl) ?_
  simp only [List.take_succ_cons, List.take_zero, List.drop_succ_cons, List.drop_zero]
  change wpStill _ _ (World.drew w4) _ _ _
  iterate 8 still_step
  refine wpStill_nil ?_
  change wpList _ _ _ _ _ (World.drew w4)
  go_upto_region 131 with fail
  have hD5 : DW (World.drew (w4.setCell ⟨gy, x, none⟩ (.int .u32 ov))) gy gb N m A cap (setR s x ov) := (HH4.out.setR x hx _ hov.1 hov.2).keep (drewb _)
  have hC5 : Chg (dwS gy gb) w (World.drew (w4.setCell ⟨gy, x, none⟩ (.int .u32 ov))) := (HC4.out.trans (Chg.of_one (S := dwS gy gb) (one_setCell _ gy x _) (.inl rfl)) (fun _ _ h => h)).trans (Chg.of_below (dwS gy gb) (drewb _)) (fun _ _ h => h)
  generalize World.drew (w4.setCell ⟨gy, x, none⟩ (.int .u32 ov)) = w5 at *
  have HD5 := Lib.hid hD5
  have HC5 := Lib.hid hC5
  clear hD5 hC5 cx fzx hc HH4 HC4 HL4 c16
  have c16 := HD5.out.at_
  have fz16 : w5.frozen? ⟨gy, 16, none⟩ = false := HD5.out.rw.frozen _
  go_wp2_with fail
  go_ret
  refine ⟨?_, ?_, HC5.out.trans (Chg.of_one (S := dwS gy gb) (one_setCell _ gy 16 _) (.inl rfl)) (fun _ _ h => h)⟩
  · rw [HST.out]; rfl
  · rw [HST.out]; exact HD5.out.setAt _ hnv.1 hnv.2
set_option maxRecDepth 100000 in
set_option maxHeartbeats 16000000 in
theorem refStep_23b {w : World} {gy gb N m cap : Nat} {A : Option Addr} {s : Mach} (h : DW w gy gb N m A cap s) (x y z : Nat) (hx : x < 16) (hy : y ≤ 255) (hz : z ≤ 255) (hcnd : ¬ ((s.R (y % 16) + near z % 4294967296) % 4294967296).toNat + 1 ≤ 64 * m) :
    Calls Try.prog 29 #[.pointer (some ⟨gy, 0, none⟩), .agg #[.int .u8 23, .int .u8 x, .int .u8 y, .int .u8 z]] w (RefP gy gb N m A cap s 23 x y z w) := by
  have HCND := Lib.hid hcnd
  clear hcnd
  have hb1 := bnew w (.cells #[.int .u8 23, .int .u8 x, .int .u8 y, .int .u8 z] 24)
  have hl1 := heap_alloc_last w (.cells #[.int .u8 23, .int .u8 x, .int .u8 y, .int .u8 z] 24)
  have hh := h.keep hb1
  have hc := rowcell hl1
  obtain ⟨ym, zm, vx, vy, vz, va, nx, wd, sj, q4, far, sn, q8, nr, fym, lym, fzm, lzm, fx, lx, rx, ry, rz, ra, rn, fn2, rw0, fwd, rj, fq4, rf, rsn, fq8, rnr, HYM, HZM, HVX, HVY, HVZ, HNX, HWD, HSJ, HFAR, HSN, HNR, HVA, HS16, HWR, HS8, HWN, HQ4, HQ8, HVX2⟩ := stepPre h x y z hx hy hz
  have HB1 := Lib.hid hb1
  have HL1 := Lib.hid hl1
  have HH := Lib.hid hh
  clear hb1 hl1 hh h
  obtain ⟨na, hna⟩ : ∃ n, n = ((s.R (y % 16) + near z % 4294967296) % 4294967296).toNat := ⟨_, rfl⟩
  have hnn : (na : Int) = nr := by rw [hna, HNR.out, HSN.out, HVY.out, HYM.out]; exact Int.toNat_of_nonneg (by omega)
  have HNA := Lib.hid hna
  have HNN := Lib.hid hnn
  clear hna hnn
  obtain ⟨Lm, hLm⟩ : ∃ L, L = 64 * m := ⟨_, rfl⟩
  have HLM := Lib.hid hLm
  clear hLm
  go_enter Try.func29, Try.ntmps29
  go_upto_region 1 with fail
  obtain ⟨NI, hN⟩ : ∃ N, N = w.heap.size := ⟨_, rfl⟩
  rw [← hN] at hc ⊢
  have HN := Lib.hid hN
  generalize w.alloc (.cells #[.int .u8 23, .int .u8 x, .int .u8 y, .int .u8 z] 24) = w1 at *
  clear hN hc
  have hl1 := HL1.out
  rw [← HN.out] at hl1
  have hS0 : (fun w' : World => w'.heap[NI]? = some (.cells #[.int .u8 23, .int .u8 x, .int .u8 y, .int .u8 z] 24 (0, 0))) (World.drew w1) := hl1
  have HL1' := Lib.hid hl1
  clear hl1
  refine wp_region_held (S := fun w' : World => w'.heap[NI]? = some (.cells #[.int .u8 23, .int .u8 x, .int .u8 y, .int .u8 z] 24 (0, 0))) (by kernel_rfl) ?_
  change wpAnyH _ _ _ _ _ _ _ _ (World.drew _)
  refine takeH 1 (.pointer (some ⟨NI, 0, none⟩)) (some 28) rfl rfl (by kernel_rfl) (by kernel_rfl) (by kernel_rfl) (fun _ _ _ h => h) (.inl ⟨by kernel_rfl, fun w _ => by go_simp⟩) hS0 ?_
  refine takeH 2 (.int .u8 23) (some 29) rfl rfl (by kernel_rfl) (by kernel_rfl) (by kernel_rfl) (fun _ _ _ h => h) (.inl ⟨by kernel_rfl, fun w hw => by have hc := rowcell hw; go_simp⟩) hS0 ?_
  refine callH 0 rfl (by kernel_rfl) (by kernel_rfl) (some 27) rfl 22 #[] ?hrun ((refNames_any _).mono ?_)
  case hrun => go_simp
  rintro e w2 ⟨he, hw2⟩
  have hG : w2.heap[w1.heap.size]? = some (.cells nameVals 9) := by rw [← hw2]; exact heap_alloc_last w1.drew _
  have hb2 : Below w1.heap.size w1 w2 := by rw [← hw2]; exact bnext (drewb w1) (bnew w1.drew _)
  have hS2 := bkeep hb2 HL1'.out
  have C5 := rowcell hG
  have hsz : w1.drew.heap.size = w1.heap.size := rfl
  rw [hsz] at he
  obtain ⟨G, hGG⟩ : ∃ G, G = w1.heap.size := ⟨_, rfl⟩
  rw [← hGG] at he C5
  have HB2 := Lib.hid hb2
  clear hw2 hG hb2 hsz hS0 hGG
  refine ⟨_, he, hS2, ?_⟩
  have C6 : w2.cell? ⟨G, 23, none⟩ = some (.string ⟨#[108, 98, 115]⟩) := by rw [C5]; rfl
  clear C5
  refine runH 3 (.pointer (some ⟨G, 23, none⟩)) (some 30) rfl (by kernel_rfl) (by kernel_rfl) rfl (by go_simp) hS2 ?_
  refine runH 4 (.string ⟨#[108, 98, 115]⟩) (some 31) rfl (by kernel_rfl) (by kernel_rfl) rfl (by go_simp) hS2 ?_
  refine runH 5 (.string ⟨#[108, 98, 115]⟩) (some 5) rfl (by kernel_rfl) (by kernel_rfl) rfl (by go_simp) hS2 ?_
  refine wpAnyH_done (by kernel_rfl) ?_ _
  go_simp
  have HL2 := Lib.hid hS2
  have HH2 := Lib.hid (HH.out.keep HB2.out)
  have HBB := Lib.hid (bnext HB1.out HB2.out)
  clear C6 hS2 HL1' he HH HL1 HB1
  have hc := rowcell HL2.out
  have c16 := HH2.out.at_
  rw [← HVA.out] at c16
  have cx := HH2.out.reg x hx
  rw [← HVX.out] at cx
  have cy := HH2.out.reg ym (by omega)
  rw [← HVY.out] at cy
  have cz := HH2.out.reg zm (by omega)
  rw [← HVZ.out] at cz
  go_wp2_with fail
  refine (HS16.out _).mono ?_; rintro e wx ⟨rfl, hwx⟩; subst hwx
  go_wp2_with fail
  refine (HWR.out _).mono ?_; rintro e wx ⟨rfl, hwx⟩; subst hwx
  go_upto_region 5 with fail
  go_quiet (fail)
  go_upto_region 6 with fail
  go_quiet (fail)
  go_upto_region 7 with fail
  go_quiet (fail)
  go_wp2_with fail
  refine (HS8.out _).mono ?_; rintro e w3 ⟨rfl, hw3⟩
  have hb3 : Below w2.heap.size w2 w3 := by rw [← hw3]; exact bdrewN (Below.refl _ _) _
  clear hw3 hc c16 cx cy cz
  have HL3 := Lib.hid (bkeep hb3 HL2.out)
  have HH3 := Lib.hid (HH2.out.keep hb3)
  have HB3 := Lib.hid (bnext HBB.out hb3)
  clear hb3 HL2 HH2 HBB
  go_wp2_with fail
  refine (HWN.out _).mono ?_; rintro e wx ⟨rfl, hwx⟩; subst hwx
  have hc := rowcell HL3.out
  have cmv := HH3.out.mv
  rw [← HLM.out] at cmv
  go_wp2_with fail
  have hld : Calls Try.prog 27 #[.slice A Lm cap, .int .u32 nr, .int .i64 1] w3 fun e w' => e = .returned (.tuple #[.int .u32 0, .int .i64 20]) ∧ w3 = w' := by have h := refLoad_no (w := w3) A Lm cap na 1 (by rw [HLM.out]; exact HH3.out.bw.l4) (by have := HNN.out; omega) (by omega) (by rw [HLM.out, HNA.out]; exact Nat.lt_of_not_le HCND.out); rw [HNN.out] at h; exact h
  refine hld.mono ?_; rintro e wx ⟨rfl, hwx⟩; subst hwx
  clear hld cmv
  go_wp2_with fail
  have HST := Lib.hid (show stepI m s 23 x y z = (s, 20) by show (if (memI m s 23 x ((s.R (y % 16) + near z % 4294967296) % 4294967296).toNat).2 = 0 then _ else _) = _; rw [show memI m s 23 x ((s.R (y % 16) + near z % 4294967296) % 4294967296).toNat = (s, 20) from by unfold memI; rw [show bytesN 23 = 1 from rfl, if_pos (Nat.lt_of_not_le HCND.out)]]; rfl)
  go_ret
  refine ⟨?_, ?_, Chg.of_below (dwS gy gb) HB3.out⟩
  · rw [HST.out]; rfl
  · rw [HST.out]; exact HH3.out
set_option maxRecDepth 100000 in
set_option maxHeartbeats 16000000 in
theorem refStep_24a {w : World} {gy gb N m cap : Nat} {A : Option Addr} {s : Mach} (h : DW w gy gb N m A cap s) (x y z : Nat) (hx : x < 16) (hy : y ≤ 255) (hz : z ≤ 255) (hcnd : ((s.R (y % 16) + near z % 4294967296) % 4294967296).toNat + 2 ≤ 64 * m) :
    Calls Try.prog 29 #[.pointer (some ⟨gy, 0, none⟩), .agg #[.int .u8 24, .int .u8 x, .int .u8 y, .int .u8 z]] w (RefP gy gb N m A cap s 24 x y z w) := by
  have HCND := Lib.hid hcnd
  clear hcnd
  have hb1 := bnew w (.cells #[.int .u8 24, .int .u8 x, .int .u8 y, .int .u8 z] 24)
  have hl1 := heap_alloc_last w (.cells #[.int .u8 24, .int .u8 x, .int .u8 y, .int .u8 z] 24)
  have hh := h.keep hb1
  have hc := rowcell hl1
  obtain ⟨ym, zm, vx, vy, vz, va, nx, wd, sj, q4, far, sn, q8, nr, fym, lym, fzm, lzm, fx, lx, rx, ry, rz, ra, rn, fn2, rw0, fwd, rj, fq4, rf, rsn, fq8, rnr, HYM, HZM, HVX, HVY, HVZ, HNX, HWD, HSJ, HFAR, HSN, HNR, HVA, HS16, HWR, HS8, HWN, HQ4, HQ8, HVX2⟩ := stepPre h x y z hx hy hz
  have HB1 := Lib.hid hb1
  have HL1 := Lib.hid hl1
  have HH := Lib.hid hh
  clear hb1 hl1 hh h
  obtain ⟨na, hna⟩ : ∃ n, n = ((s.R (y % 16) + near z % 4294967296) % 4294967296).toNat := ⟨_, rfl⟩
  have hnn : (na : Int) = nr := by rw [hna, HNR.out, HSN.out, HVY.out, HYM.out]; exact Int.toNat_of_nonneg (by omega)
  have HNA := Lib.hid hna
  have HNN := Lib.hid hnn
  clear hna hnn
  obtain ⟨Lm, hLm⟩ : ∃ L, L = 64 * m := ⟨_, rfl⟩
  have HLM := Lib.hid hLm
  clear hLm
  go_enter Try.func29, Try.ntmps29
  go_upto_region 1 with fail
  obtain ⟨NI, hN⟩ : ∃ N, N = w.heap.size := ⟨_, rfl⟩
  rw [← hN] at hc ⊢
  have HN := Lib.hid hN
  generalize w.alloc (.cells #[.int .u8 24, .int .u8 x, .int .u8 y, .int .u8 z] 24) = w1 at *
  clear hN hc
  have hl1 := HL1.out
  rw [← HN.out] at hl1
  have hS0 : (fun w' : World => w'.heap[NI]? = some (.cells #[.int .u8 24, .int .u8 x, .int .u8 y, .int .u8 z] 24 (0, 0))) (World.drew w1) := hl1
  have HL1' := Lib.hid hl1
  clear hl1
  refine wp_region_held (S := fun w' : World => w'.heap[NI]? = some (.cells #[.int .u8 24, .int .u8 x, .int .u8 y, .int .u8 z] 24 (0, 0))) (by kernel_rfl) ?_
  change wpAnyH _ _ _ _ _ _ _ _ (World.drew _)
  refine takeH 1 (.pointer (some ⟨NI, 0, none⟩)) (some 28) rfl rfl (by kernel_rfl) (by kernel_rfl) (by kernel_rfl) (fun _ _ _ h => h) (.inl ⟨by kernel_rfl, fun w _ => by go_simp⟩) hS0 ?_
  refine takeH 2 (.int .u8 24) (some 29) rfl rfl (by kernel_rfl) (by kernel_rfl) (by kernel_rfl) (fun _ _ _ h => h) (.inl ⟨by kernel_rfl, fun w hw => by have hc := rowcell hw; go_simp⟩) hS0 ?_
  refine callH 0 rfl (by kernel_rfl) (by kernel_rfl) (some 27) rfl 22 #[] ?hrun ((refNames_any _).mono ?_)
  case hrun => go_simp
  rintro e w2 ⟨he, hw2⟩
  have hG : w2.heap[w1.heap.size]? = some (.cells nameVals 9) := by rw [← hw2]; exact heap_alloc_last w1.drew _
  have hb2 : Below w1.heap.size w1 w2 := by rw [← hw2]; exact bnext (drewb w1) (bnew w1.drew _)
  have hS2 := bkeep hb2 HL1'.out
  have C5 := rowcell hG
  have hsz : w1.drew.heap.size = w1.heap.size := rfl
  rw [hsz] at he
  obtain ⟨G, hGG⟩ : ∃ G, G = w1.heap.size := ⟨_, rfl⟩
  rw [← hGG] at he C5
  have HB2 := Lib.hid hb2
  clear hw2 hG hb2 hsz hS0 hGG
  refine ⟨_, he, hS2, ?_⟩
  have C6 : w2.cell? ⟨G, 24, none⟩ = some (.string ⟨#[108, 104]⟩) := by rw [C5]; rfl
  clear C5
  refine runH 3 (.pointer (some ⟨G, 24, none⟩)) (some 30) rfl (by kernel_rfl) (by kernel_rfl) rfl (by go_simp) hS2 ?_
  refine runH 4 (.string ⟨#[108, 104]⟩) (some 31) rfl (by kernel_rfl) (by kernel_rfl) rfl (by go_simp) hS2 ?_
  refine runH 5 (.string ⟨#[108, 104]⟩) (some 5) rfl (by kernel_rfl) (by kernel_rfl) rfl (by go_simp) hS2 ?_
  refine wpAnyH_done (by kernel_rfl) ?_ _
  go_simp
  have HL2 := Lib.hid hS2
  have HH2 := Lib.hid (HH.out.keep HB2.out)
  have HBB := Lib.hid (bnext HB1.out HB2.out)
  clear C6 hS2 HL1' he HH HL1 HB1
  have hc := rowcell HL2.out
  have c16 := HH2.out.at_
  rw [← HVA.out] at c16
  have cx := HH2.out.reg x hx
  rw [← HVX.out] at cx
  have cy := HH2.out.reg ym (by omega)
  rw [← HVY.out] at cy
  have cz := HH2.out.reg zm (by omega)
  rw [← HVZ.out] at cz
  go_wp2_with fail
  refine (HS16.out _).mono ?_; rintro e wx ⟨rfl, hwx⟩; subst hwx
  go_wp2_with fail
  refine (HWR.out _).mono ?_; rintro e wx ⟨rfl, hwx⟩; subst hwx
  go_upto_region 5 with fail
  go_quiet (fail)
  go_upto_region 6 with fail
  go_quiet (fail)
  go_upto_region 7 with fail
  go_quiet (fail)
  go_wp2_with fail
  refine (HS8.out _).mono ?_; rintro e w3 ⟨rfl, hw3⟩
  have hb3 : Below w2.heap.size w2 w3 := by rw [← hw3]; exact bdrewN (Below.refl _ _) _
  clear hw3 hc c16 cx cy cz
  have HL3 := Lib.hid (bkeep hb3 HL2.out)
  have HH3 := Lib.hid (HH2.out.keep hb3)
  have HB3 := Lib.hid (bnext HBB.out hb3)
  clear hb3 HL2 HH2 HBB
  go_wp2_with fail
  refine (HWN.out _).mono ?_; rintro e wx ⟨rfl, hwx⟩; subst hwx
  have hc := rowcell HL3.out
  have cmv := HH3.out.mv
  rw [← HLM.out] at cmv
  go_wp2_with fail
  obtain ⟨n1, hn1⟩ : ∃ n : Int, n = ((ldN s.mem na 2 : Nat) : Int) := ⟨_, rfl⟩
  have bn1 : 0 ≤ n1 ∧ n1 ≤ 4294967295 := by
    have hlt := ldN_lt (mem := s.mem) (at_ := na) 2 (fun i hi => HH3.out.bw.m0 _ (by have := HCND.out; rw [← HNA.out] at this; omega))
    rw [hn1]; omega
  have HN1 := Lib.hid hn1
  clear hn1
  have hld : Calls Try.prog 27 #[.slice A Lm cap, .int .u32 nr, .int .i64 2] w3 fun e w' => e = .returned (.tuple #[.int .u32 n1, .int .i64 0]) ∧ w3 = w' := by have h := refLoad_ok HH3.out.bw cap na 2 HH3.out.cp (by omega) (by omega) (by rw [HNA.out]; exact HCND.out); rw [HNN.out, ← HLM.out, ← HN1.out] at h; exact h
  refine hld.mono ?_; rintro e wx ⟨rfl, hwx⟩; subst hwx
  clear hld cmv
  go_wp2_with fail
  have hov : 0 ≤ n1 ∧ n1 ≤ 4294967295 := bn1
  have hnv : 0 ≤ nx ∧ nx ≤ 4294967295 := rn
  have HST := Lib.hid (show stepI m s 24 x y z = (setAt (setR s x n1) nx, 0) by show (if (memI m s 24 x ((s.R (y % 16) + near z % 4294967296) % 4294967296).toNat).2 = 0 then _ else _) = _; rw [show memI m s 24 x ((s.R (y % 16) + near z % 4294967296) % 4294967296).toNat = (setR s x (ldI 24 (ldN s.mem ((s.R (y % 16) + near z % 4294967296) % 4294967296).toNat 2)), 0) from by unfold memI; rw [show bytesN 24 = 2 from rfl, if_neg (Nat.not_lt.2 HCND.out), if_neg (by decide)]]; rw [HN1.out, HNA.out, HNX.out]; rfl)
  have hfm : ∀ w, Calls Try.prog 9 #[.int .i64 24] w fun e w' => e = .returned (.int .i64 4) ∧ Below w.heap.size w w' := fun w => by have h := refForm_in 24 (by omega) (by omega) w; rw [show formOf (24 : Int).toNat = 4 from by decide] at h; exact h
  refine (hfm _).mono ?_; rintro e w4 ⟨rfl, hb4⟩
  have HL4 := Lib.hid (bkeep hb4 HL3.out)
  have HH4 := Lib.hid (HH3.out.keep hb4)
  have HC4 := Lib.hid ((Chg.of_below (dwS gy gb) HB3.out).trans (Chg.of_below (dwS gy gb) hb4) (fun _ _ h => h))
  clear hb4 hc hfm
  have hc := rowcell HL4.out
  have c16 := HH4.out.at_
  have fx2 : (x : Int).tmod 16 = x := by rw [Int.tmod_eq_emod_of_nonneg (by omega)]; omega
  have lx0 : (0 : Int) ≤ x := by omega
  have cx := HH4.out.reg x hx
  have fzx : w4.frozen? ⟨gy, x, none⟩ = false := HH4.out.rw.frozen _
  go_upto_region 130 with fail
  refine wp_region_still_tail 8 (by kernel_rfl) (by kernel_rfl) ?_
  simp only [List.take_succ_cons, List.take_zero, List.drop_succ_cons, List.drop_zero]
  change wpStill _ _ (World.drew w4) _ _ _
  iterate 8 still_step
  refine wpStill_nil ?_
  change wpList _ _ _ _ _ (World.drew w4)
  go_upto_region 131 with fail
  have hD5 : DW (World.drew (w4.setCell ⟨gy, x, none⟩ (.int .u32 n1))) gy gb N m A cap (setR s x n1) := (HH4.out.setR x hx _ hov.1 hov.2).keep (drewb _)
  have hC5 : Chg (dwS gy gb) w (World.drew (w4.setCell ⟨gy, x, none⟩ (.int .u32 n1))) := (HC4.out.trans (Chg.of_one (S := dwS gy gb) (one_setCell _ gy x _) (.inl rfl)) (fun _ _ h => h)).trans (Chg.of_below (dwS gy gb) (drewb _)) (fun _ _ h => h)
  generalize World.drew (w4.setCell ⟨gy, x, none⟩ (.int .u32 n1)) = w5 at *
  have HD5 := Lib.hid hD5
  have HC5 := Lib.hid hC5
  clear hD5 hC5 cx fzx hc HH4 HC4 HL4 c16
  have c16 := HD5.out.at_
  have fz16 : w5.frozen? ⟨gy, 16, none⟩ = false := HD5.out.rw.frozen _
  go_wp2_with fail
  go_ret
  refine ⟨?_, ?_, HC5.out.trans (Chg.of_one (S := dwS gy gb) (one_setCell _ gy 16 _) (.inl rfl)) (fun _ _ h => h)⟩
  · rw [HST.out]; rfl
  · rw [HST.out]; exact HD5.out.setAt _ hnv.1 hnv.2
set_option maxRecDepth 100000 in
set_option maxHeartbeats 16000000 in
theorem refStep_24b {w : World} {gy gb N m cap : Nat} {A : Option Addr} {s : Mach} (h : DW w gy gb N m A cap s) (x y z : Nat) (hx : x < 16) (hy : y ≤ 255) (hz : z ≤ 255) (hcnd : ¬ ((s.R (y % 16) + near z % 4294967296) % 4294967296).toNat + 2 ≤ 64 * m) :
    Calls Try.prog 29 #[.pointer (some ⟨gy, 0, none⟩), .agg #[.int .u8 24, .int .u8 x, .int .u8 y, .int .u8 z]] w (RefP gy gb N m A cap s 24 x y z w) := by
  have HCND := Lib.hid hcnd
  clear hcnd
  have hb1 := bnew w (.cells #[.int .u8 24, .int .u8 x, .int .u8 y, .int .u8 z] 24)
  have hl1 := heap_alloc_last w (.cells #[.int .u8 24, .int .u8 x, .int .u8 y, .int .u8 z] 24)
  have hh := h.keep hb1
  have hc := rowcell hl1
  obtain ⟨ym, zm, vx, vy, vz, va, nx, wd, sj, q4, far, sn, q8, nr, fym, lym, fzm, lzm, fx, lx, rx, ry, rz, ra, rn, fn2, rw0, fwd, rj, fq4, rf, rsn, fq8, rnr, HYM, HZM, HVX, HVY, HVZ, HNX, HWD, HSJ, HFAR, HSN, HNR, HVA, HS16, HWR, HS8, HWN, HQ4, HQ8, HVX2⟩ := stepPre h x y z hx hy hz
  have HB1 := Lib.hid hb1
  have HL1 := Lib.hid hl1
  have HH := Lib.hid hh
  clear hb1 hl1 hh h
  obtain ⟨na, hna⟩ : ∃ n, n = ((s.R (y % 16) + near z % 4294967296) % 4294967296).toNat := ⟨_, rfl⟩
  have hnn : (na : Int) = nr := by rw [hna, HNR.out, HSN.out, HVY.out, HYM.out]; exact Int.toNat_of_nonneg (by omega)
  have HNA := Lib.hid hna
  have HNN := Lib.hid hnn
  clear hna hnn
  obtain ⟨Lm, hLm⟩ : ∃ L, L = 64 * m := ⟨_, rfl⟩
  have HLM := Lib.hid hLm
  clear hLm
  go_enter Try.func29, Try.ntmps29
  go_upto_region 1 with fail
  obtain ⟨NI, hN⟩ : ∃ N, N = w.heap.size := ⟨_, rfl⟩
  rw [← hN] at hc ⊢
  have HN := Lib.hid hN
  generalize w.alloc (.cells #[.int .u8 24, .int .u8 x, .int .u8 y, .int .u8 z] 24) = w1 at *
  clear hN hc
  have hl1 := HL1.out
  rw [← HN.out] at hl1
  have hS0 : (fun w' : World => w'.heap[NI]? = some (.cells #[.int .u8 24, .int .u8 x, .int .u8 y, .int .u8 z] 24 (0, 0))) (World.drew w1) := hl1
  have HL1' := Lib.hid hl1
  clear hl1
  refine wp_region_held (S := fun w' : World => w'.heap[NI]? = some (.cells #[.int .u8 24, .int .u8 x, .int .u8 y, .int .u8 z] 24 (0, 0))) (by kernel_rfl) ?_
  change wpAnyH _ _ _ _ _ _ _ _ (World.drew _)
  refine takeH 1 (.pointer (some ⟨NI, 0, none⟩)) (some 28) rfl rfl (by kernel_rfl) (by kernel_rfl) (by kernel_rfl) (fun _ _ _ h => h) (.inl ⟨by kernel_rfl, fun w _ => by go_simp⟩) hS0 ?_
  refine takeH 2 (.int .u8 24) (some 29) rfl rfl (by kernel_rfl) (by kernel_rfl) (by kernel_rfl) (fun _ _ _ h => h) (.inl ⟨by kernel_rfl, fun w hw => by have hc := rowcell hw; go_simp⟩) hS0 ?_
  refine callH 0 rfl (by kernel_rfl) (by kernel_rfl) (some 27) rfl 22 #[] ?hrun ((refNames_any _).mono ?_)
  case hrun => go_simp
  rintro e w2 ⟨he, hw2⟩
  have hG : w2.heap[w1.heap.size]? = some (.cells nameVals 9) := by rw [← hw2]; exact heap_alloc_last w1.drew _
  have hb2 : Below w1.heap.size w1 w2 := by rw [← hw2]; exact bnext (drewb w1) (bnew w1.drew _)
  have hS2 := bkeep hb2 HL1'.out
  have C5 := rowcell hG
  have hsz : w1.drew.heap.size = w1.heap.size := rfl
  rw [hsz] at he
  obtain ⟨G, hGG⟩ : ∃ G, G = w1.heap.size := ⟨_, rfl⟩
  rw [← hGG] at he C5
  have HB2 := Lib.hid hb2
  clear hw2 hG hb2 hsz hS0 hGG
  refine ⟨_, he, hS2, ?_⟩
  have C6 : w2.cell? ⟨G, 24, none⟩ = some (.string ⟨#[108, 104]⟩) := by rw [C5]; rfl
  clear C5
  refine runH 3 (.pointer (some ⟨G, 24, none⟩)) (some 30) rfl (by kernel_rfl) (by kernel_rfl) rfl (by go_simp) hS2 ?_
  refine runH 4 (.string ⟨#[108, 104]⟩) (some 31) rfl (by kernel_rfl) (by kernel_rfl) rfl (by go_simp) hS2 ?_
  refine runH 5 (.string ⟨#[108, 104]⟩) (some 5) rfl (by kernel_rfl) (by kernel_rfl) rfl (by go_simp) hS2 ?_
  refine wpAnyH_done (by kernel_rfl) ?_ _
  go_simp
  have HL2 := Lib.hid hS2
  have HH2 := Lib.hid (HH.out.keep HB2.out)
  have HBB := Lib.hid (bnext HB1.out HB2.out)
  clear C6 hS2 HL1' he HH HL1 HB1
  have hc := rowcell HL2.out
  have c16 := HH2.out.at_
  rw [← HVA.out] at c16
  have cx := HH2.out.reg x hx
  rw [← HVX.out] at cx
  have cy := HH2.out.reg ym (by omega)
  rw [← HVY.out] at cy
  have cz := HH2.out.reg zm (by omega)
  rw [← HVZ.out] at cz
  go_wp2_with fail
  refine (HS16.out _).mono ?_; rintro e wx ⟨rfl, hwx⟩; subst hwx
  go_wp2_with fail
  refine (HWR.out _).mono ?_; rintro e wx ⟨rfl, hwx⟩; subst hwx
  go_upto_region 5 with fail
  go_quiet (fail)
  go_upto_region 6 with fail
  go_quiet (fail)
  go_upto_region 7 with fail
  go_quiet (fail)
  go_wp2_with fail
  refine (HS8.out _).mono ?_; rintro e w3 ⟨rfl, hw3⟩
  have hb3 : Below w2.heap.size w2 w3 := by rw [← hw3]; exact bdrewN (Below.refl _ _) _
  clear hw3 hc c16 cx cy cz
  have HL3 := Lib.hid (bkeep hb3 HL2.out)
  have HH3 := Lib.hid (HH2.out.keep hb3)
  have HB3 := Lib.hid (bnext HBB.out hb3)
  clear hb3 HL2 HH2 HBB
  go_wp2_with fail
  refine (HWN.out _).mono ?_; rintro e wx ⟨rfl, hwx⟩; subst hwx
  have hc := rowcell HL3.out
  have cmv := HH3.out.mv
  rw [← HLM.out] at cmv
  go_wp2_with fail
  have hld : Calls Try.prog 27 #[.slice A Lm cap, .int .u32 nr, .int .i64 2] w3 fun e w' => e = .returned (.tuple #[.int .u32 0, .int .i64 20]) ∧ w3 = w' := by have h := refLoad_no (w := w3) A Lm cap na 2 (by rw [HLM.out]; exact HH3.out.bw.l4) (by have := HNN.out; omega) (by omega) (by rw [HLM.out, HNA.out]; exact Nat.lt_of_not_le HCND.out); rw [HNN.out] at h; exact h
  refine hld.mono ?_; rintro e wx ⟨rfl, hwx⟩; subst hwx
  clear hld cmv
  go_wp2_with fail
  have HST := Lib.hid (show stepI m s 24 x y z = (s, 20) by show (if (memI m s 24 x ((s.R (y % 16) + near z % 4294967296) % 4294967296).toNat).2 = 0 then _ else _) = _; rw [show memI m s 24 x ((s.R (y % 16) + near z % 4294967296) % 4294967296).toNat = (s, 20) from by unfold memI; rw [show bytesN 24 = 2 from rfl, if_pos (Nat.lt_of_not_le HCND.out)]]; rfl)
  go_ret
  refine ⟨?_, ?_, Chg.of_below (dwS gy gb) HB3.out⟩
  · rw [HST.out]; rfl
  · rw [HST.out]; exact HH3.out
set_option maxRecDepth 100000 in
set_option maxHeartbeats 16000000 in
theorem refStep_25a {w : World} {gy gb N m cap : Nat} {A : Option Addr} {s : Mach} (h : DW w gy gb N m A cap s) (x y z : Nat) (hx : x < 16) (hy : y ≤ 255) (hz : z ≤ 255) (hcnd : ((s.R (y % 16) + near z % 4294967296) % 4294967296).toNat + 2 ≤ 64 * m) :
    Calls Try.prog 29 #[.pointer (some ⟨gy, 0, none⟩), .agg #[.int .u8 25, .int .u8 x, .int .u8 y, .int .u8 z]] w (RefP gy gb N m A cap s 25 x y z w) := by
  have HCND := Lib.hid hcnd
  clear hcnd
  have hb1 := bnew w (.cells #[.int .u8 25, .int .u8 x, .int .u8 y, .int .u8 z] 24)
  have hl1 := heap_alloc_last w (.cells #[.int .u8 25, .int .u8 x, .int .u8 y, .int .u8 z] 24)
  have hh := h.keep hb1
  have hc := rowcell hl1
  obtain ⟨ym, zm, vx, vy, vz, va, nx, wd, sj, q4, far, sn, q8, nr, fym, lym, fzm, lzm, fx, lx, rx, ry, rz, ra, rn, fn2, rw0, fwd, rj, fq4, rf, rsn, fq8, rnr, HYM, HZM, HVX, HVY, HVZ, HNX, HWD, HSJ, HFAR, HSN, HNR, HVA, HS16, HWR, HS8, HWN, HQ4, HQ8, HVX2⟩ := stepPre h x y z hx hy hz
  have HB1 := Lib.hid hb1
  have HL1 := Lib.hid hl1
  have HH := Lib.hid hh
  clear hb1 hl1 hh h
  obtain ⟨na, hna⟩ : ∃ n, n = ((s.R (y % 16) + near z % 4294967296) % 4294967296).toNat := ⟨_, rfl⟩
  have hnn : (na : Int) = nr := by rw [hna, HNR.out, HSN.out, HVY.out, HYM.out]; exact Int.toNat_of_nonneg (by omega)
  have HNA := Lib.hid hna
  have HNN := Lib.hid hnn
  clear hna hnn
  obtain ⟨Lm, hLm⟩ : ∃ L, L = 64 * m := ⟨_, rfl⟩
  have HLM := Lib.hid hLm
  clear hLm
  go_enter Try.func29, Try.ntmps29
  go_upto_region 1 with fail
  obtain ⟨NI, hN⟩ : ∃ N, N = w.heap.size := ⟨_, rfl⟩
  rw [← hN] at hc ⊢
  have HN := Lib.hid hN
  generalize w.alloc (.cells #[.int .u8 25, .int .u8 x, .int .u8 y, .int .u8 z] 24) = w1 at *
  clear hN hc
  have hl1 := HL1.out
  rw [← HN.out] at hl1
  have hS0 : (fun w' : World => w'.heap[NI]? = some (.cells #[.int .u8 25, .int .u8 x, .int .u8 y, .int .u8 z] 24 (0, 0))) (World.drew w1) := hl1
  have HL1' := Lib.hid hl1
  clear hl1
  refine wp_region_held (S := fun w' : World => w'.heap[NI]? = some (.cells #[.int .u8 25, .int .u8 x, .int .u8 y, .int .u8 z] 24 (0, 0))) (by kernel_rfl) ?_
  change wpAnyH _ _ _ _ _ _ _ _ (World.drew _)
  refine takeH 1 (.pointer (some ⟨NI, 0, none⟩)) (some 28) rfl rfl (by kernel_rfl) (by kernel_rfl) (by kernel_rfl) (fun _ _ _ h => h) (.inl ⟨by kernel_rfl, fun w _ => by go_simp⟩) hS0 ?_
  refine takeH 2 (.int .u8 25) (some 29) rfl rfl (by kernel_rfl) (by kernel_rfl) (by kernel_rfl) (fun _ _ _ h => h) (.inl ⟨by kernel_rfl, fun w hw => by have hc := rowcell hw; go_simp⟩) hS0 ?_
  refine callH 0 rfl (by kernel_rfl) (by kernel_rfl) (some 27) rfl 22 #[] ?hrun ((refNames_any _).mono ?_)
  case hrun => go_simp
  rintro e w2 ⟨he, hw2⟩
  have hG : w2.heap[w1.heap.size]? = some (.cells nameVals 9) := by rw [← hw2]; exact heap_alloc_last w1.drew _
  have hb2 : Below w1.heap.size w1 w2 := by rw [← hw2]; exact bnext (drewb w1) (bnew w1.drew _)
  have hS2 := bkeep hb2 HL1'.out
  have C5 := rowcell hG
  have hsz : w1.drew.heap.size = w1.heap.size := rfl
  rw [hsz] at he
  obtain ⟨G, hGG⟩ : ∃ G, G = w1.heap.size := ⟨_, rfl⟩
  rw [← hGG] at he C5
  have HB2 := Lib.hid hb2
  clear hw2 hG hb2 hsz hS0 hGG
  refine ⟨_, he, hS2, ?_⟩
  have C6 : w2.cell? ⟨G, 25, none⟩ = some (.string ⟨#[108, 104, 115]⟩) := by rw [C5]; rfl
  clear C5
  refine runH 3 (.pointer (some ⟨G, 25, none⟩)) (some 30) rfl (by kernel_rfl) (by kernel_rfl) rfl (by go_simp) hS2 ?_
  refine runH 4 (.string ⟨#[108, 104, 115]⟩) (some 31) rfl (by kernel_rfl) (by kernel_rfl) rfl (by go_simp) hS2 ?_
  refine runH 5 (.string ⟨#[108, 104, 115]⟩) (some 5) rfl (by kernel_rfl) (by kernel_rfl) rfl (by go_simp) hS2 ?_
  refine wpAnyH_done (by kernel_rfl) ?_ _
  go_simp
  have HL2 := Lib.hid hS2
  have HH2 := Lib.hid (HH.out.keep HB2.out)
  have HBB := Lib.hid (bnext HB1.out HB2.out)
  clear C6 hS2 HL1' he HH HL1 HB1
  have hc := rowcell HL2.out
  have c16 := HH2.out.at_
  rw [← HVA.out] at c16
  have cx := HH2.out.reg x hx
  rw [← HVX.out] at cx
  have cy := HH2.out.reg ym (by omega)
  rw [← HVY.out] at cy
  have cz := HH2.out.reg zm (by omega)
  rw [← HVZ.out] at cz
  go_wp2_with fail
  refine (HS16.out _).mono ?_; rintro e wx ⟨rfl, hwx⟩; subst hwx
  go_wp2_with fail
  refine (HWR.out _).mono ?_; rintro e wx ⟨rfl, hwx⟩; subst hwx
  go_upto_region 5 with fail
  go_quiet (fail)
  go_upto_region 6 with fail
  go_quiet (fail)
  go_upto_region 7 with fail
  go_quiet (fail)
  go_wp2_with fail
  refine (HS8.out _).mono ?_; rintro e w3 ⟨rfl, hw3⟩
  have hb3 : Below w2.heap.size w2 w3 := by rw [← hw3]; exact bdrewN (Below.refl _ _) _
  clear hw3 hc c16 cx cy cz
  have HL3 := Lib.hid (bkeep hb3 HL2.out)
  have HH3 := Lib.hid (HH2.out.keep hb3)
  have HB3 := Lib.hid (bnext HBB.out hb3)
  clear hb3 HL2 HH2 HBB
  go_wp2_with fail
  refine (HWN.out _).mono ?_; rintro e wx ⟨rfl, hwx⟩; subst hwx
  have hc := rowcell HL3.out
  have cmv := HH3.out.mv
  rw [← HLM.out] at cmv
  go_wp2_with fail
  obtain ⟨n1, hn1⟩ : ∃ n : Int, n = ((ldN s.mem na 2 : Nat) : Int) := ⟨_, rfl⟩
  have bn1 : 0 ≤ n1 ∧ n1 ≤ 4294967295 := by
    have hlt := ldN_lt (mem := s.mem) (at_ := na) 2 (fun i hi => HH3.out.bw.m0 _ (by have := HCND.out; rw [← HNA.out] at this; omega))
    rw [hn1]; omega
  have HN1 := Lib.hid hn1
  clear hn1
  have hld : Calls Try.prog 27 #[.slice A Lm cap, .int .u32 nr, .int .i64 2] w3 fun e w' => e = .returned (.tuple #[.int .u32 n1, .int .i64 0]) ∧ w3 = w' := by have h := refLoad_ok HH3.out.bw cap na 2 HH3.out.cp (by omega) (by omega) (by rw [HNA.out]; exact HCND.out); rw [HNN.out, ← HLM.out, ← HN1.out] at h; exact h
  refine hld.mono ?_; rintro e wx ⟨rfl, hwx⟩; subst hwx
  clear hld cmv
  obtain ⟨sv, hsv⟩ : ∃ k, k = sgI 65536 n1 := ⟨_, rfl⟩
  have HSV := Lib.hid hsv
  have bsv := sgI_le 65536 n1 (by omega)
  rw [← hsv] at bsv
  have HSV8 := Lib.hid (fun w => by have h := refSigned16 n1 bn1.1 bn1.2 w; rw [← hsv] at h; exact h)
  clear hsv
  obtain ⟨ov, hov⟩ : ∃ k, k = sv % 4294967296 := ⟨_, rfl⟩
  have HOV := Lib.hid hov
  have HWA := Lib.hid (fun w => by have h := refWrap_any (sv) (by omega) (by omega) w; rw [show (sv) % 4294967296 = ov from hov.symm] at h; exact h)
  have bov : 0 ≤ ov ∧ ov ≤ 4294967295 := by omega
  clear hov
  go_wp2_with fail
  refine (HSV8.out _).mono ?_; rintro e wx ⟨rfl, hwx⟩; subst hwx
  go_wp2_with fail
  refine (HWA.out _).mono ?_; rintro e wx ⟨rfl, hwx⟩; subst hwx
  go_wp2_with fail
  have hov : 0 ≤ ov ∧ ov ≤ 4294967295 := bov
  have hnv : 0 ≤ nx ∧ nx ≤ 4294967295 := rn
  have HST := Lib.hid (show stepI m s 25 x y z = (setAt (setR s x ov) nx, 0) by show (if (memI m s 25 x ((s.R (y % 16) + near z % 4294967296) % 4294967296).toNat).2 = 0 then _ else _) = _; rw [show memI m s 25 x ((s.R (y % 16) + near z % 4294967296) % 4294967296).toNat = (setR s x (ldI 25 (ldN s.mem ((s.R (y % 16) + near z % 4294967296) % 4294967296).toNat 2)), 0) from by unfold memI; rw [show bytesN 25 = 2 from rfl, if_neg (Nat.not_lt.2 HCND.out), if_neg (by decide)]]; rw [HOV.out, HSV.out, ← sx16_sg, HN1.out, HNA.out, HNX.out]; rfl)
  have hfm : ∀ w, Calls Try.prog 9 #[.int .i64 25] w fun e w' => e = .returned (.int .i64 4) ∧ Below w.heap.size w w' := fun w => by have h := refForm_in 25 (by omega) (by omega) w; rw [show formOf (25 : Int).toNat = 4 from by decide] at h; exact h
  refine (hfm _).mono ?_; rintro e w4 ⟨rfl, hb4⟩
  have HL4 := Lib.hid (bkeep hb4 HL3.out)
  have HH4 := Lib.hid (HH3.out.keep hb4)
  have HC4 := Lib.hid ((Chg.of_below (dwS gy gb) HB3.out).trans (Chg.of_below (dwS gy gb) hb4) (fun _ _ h => h))
  clear hb4 hc hfm
  have hc := rowcell HL4.out
  have c16 := HH4.out.at_
  have fx2 : (x : Int).tmod 16 = x := by rw [Int.tmod_eq_emod_of_nonneg (by omega)]; omega
  have lx0 : (0 : Int) ≤ x := by omega
  have cx := HH4.out.reg x hx
  have fzx : w4.frozen? ⟨gy, x, none⟩ = false := HH4.out.rw.frozen _
  go_upto_region 130 with fail
  refine wp_region_still_tail 8 (by kernel_rfl) (by kernel_rfl) ?_
  simp only [List.take_succ_cons, List.take_zero, List.drop_succ_cons, List.drop_zero]
  change wpStill _ _ (World.drew w4) _ _ _
  iterate 8 still_step
  refine wpStill_nil ?_
  change wpList _ _ _ _ _ (World.drew w4)
  go_upto_region 131 with fail
  have hD5 : DW (World.drew (w4.setCell ⟨gy, x, none⟩ (.int .u32 ov))) gy gb N m A cap (setR s x ov) := (HH4.out.setR x hx _ hov.1 hov.2).keep (drewb _)
  have hC5 : Chg (dwS gy gb) w (World.drew (w4.setCell ⟨gy, x, none⟩ (.int .u32 ov))) := (HC4.out.trans (Chg.of_one (S := dwS gy gb) (one_setCell _ gy x _) (.inl rfl)) (fun _ _ h => h)).trans (Chg.of_below (dwS gy gb) (drewb _)) (fun _ _ h => h)
  generalize World.drew (w4.setCell ⟨gy, x, none⟩ (.int .u32 ov)) = w5 at *
  have HD5 := Lib.hid hD5
  have HC5 := Lib.hid hC5
  clear hD5 hC5 cx fzx hc HH4 HC4 HL4 c16
  have c16 := HD5.out.at_
  have fz16 : w5.frozen? ⟨gy, 16, none⟩ = false := HD5.out.rw.frozen _
  go_wp2_with fail
  go_ret
  refine ⟨?_, ?_, HC5.out.trans (Chg.of_one (S := dwS gy gb) (one_setCell _ gy 16 _) (.inl rfl)) (fun _ _ h => h)⟩
  · rw [HST.out]; rfl
  · rw [HST.out]; exact HD5.out.setAt _ hnv.1 hnv.2
set_option maxRecDepth 100000 in
set_option maxHeartbeats 16000000 in
theorem refStep_25b {w : World} {gy gb N m cap : Nat} {A : Option Addr} {s : Mach} (h : DW w gy gb N m A cap s) (x y z : Nat) (hx : x < 16) (hy : y ≤ 255) (hz : z ≤ 255) (hcnd : ¬ ((s.R (y % 16) + near z % 4294967296) % 4294967296).toNat + 2 ≤ 64 * m) :
    Calls Try.prog 29 #[.pointer (some ⟨gy, 0, none⟩), .agg #[.int .u8 25, .int .u8 x, .int .u8 y, .int .u8 z]] w (RefP gy gb N m A cap s 25 x y z w) := by
  have HCND := Lib.hid hcnd
  clear hcnd
  have hb1 := bnew w (.cells #[.int .u8 25, .int .u8 x, .int .u8 y, .int .u8 z] 24)
  have hl1 := heap_alloc_last w (.cells #[.int .u8 25, .int .u8 x, .int .u8 y, .int .u8 z] 24)
  have hh := h.keep hb1
  have hc := rowcell hl1
  obtain ⟨ym, zm, vx, vy, vz, va, nx, wd, sj, q4, far, sn, q8, nr, fym, lym, fzm, lzm, fx, lx, rx, ry, rz, ra, rn, fn2, rw0, fwd, rj, fq4, rf, rsn, fq8, rnr, HYM, HZM, HVX, HVY, HVZ, HNX, HWD, HSJ, HFAR, HSN, HNR, HVA, HS16, HWR, HS8, HWN, HQ4, HQ8, HVX2⟩ := stepPre h x y z hx hy hz
  have HB1 := Lib.hid hb1
  have HL1 := Lib.hid hl1
  have HH := Lib.hid hh
  clear hb1 hl1 hh h
  obtain ⟨na, hna⟩ : ∃ n, n = ((s.R (y % 16) + near z % 4294967296) % 4294967296).toNat := ⟨_, rfl⟩
  have hnn : (na : Int) = nr := by rw [hna, HNR.out, HSN.out, HVY.out, HYM.out]; exact Int.toNat_of_nonneg (by omega)
  have HNA := Lib.hid hna
  have HNN := Lib.hid hnn
  clear hna hnn
  obtain ⟨Lm, hLm⟩ : ∃ L, L = 64 * m := ⟨_, rfl⟩
  have HLM := Lib.hid hLm
  clear hLm
  go_enter Try.func29, Try.ntmps29
  go_upto_region 1 with fail
  obtain ⟨NI, hN⟩ : ∃ N, N = w.heap.size := ⟨_, rfl⟩
  rw [← hN] at hc ⊢
  have HN := Lib.hid hN
  generalize w.alloc (.cells #[.int .u8 25, .int .u8 x, .int .u8 y, .int .u8 z] 24) = w1 at *
  clear hN hc
  have hl1 := HL1.out
  rw [← HN.out] at hl1
  have hS0 : (fun w' : World => w'.heap[NI]? = some (.cells #[.int .u8 25, .int .u8 x, .int .u8 y, .int .u8 z] 24 (0, 0))) (World.drew w1) := hl1
  have HL1' := Lib.hid hl1
  clear hl1
  refine wp_region_held (S := fun w' : World => w'.heap[NI]? = some (.cells #[.int .u8 25, .int .u8 x, .int .u8 y, .int .u8 z] 24 (0, 0))) (by kernel_rfl) ?_
  change wpAnyH _ _ _ _ _ _ _ _ (World.drew _)
  refine takeH 1 (.pointer (some ⟨NI, 0, none⟩)) (some 28) rfl rfl (by kernel_rfl) (by kernel_rfl) (by kernel_rfl) (fun _ _ _ h => h) (.inl ⟨by kernel_rfl, fun w _ => by go_simp⟩) hS0 ?_
  refine takeH 2 (.int .u8 25) (some 29) rfl rfl (by kernel_rfl) (by kernel_rfl) (by kernel_rfl) (fun _ _ _ h => h) (.inl ⟨by kernel_rfl, fun w hw => by have hc := rowcell hw; go_simp⟩) hS0 ?_
  refine callH 0 rfl (by kernel_rfl) (by kernel_rfl) (some 27) rfl 22 #[] ?hrun ((refNames_any _).mono ?_)
  case hrun => go_simp
  rintro e w2 ⟨he, hw2⟩
  have hG : w2.heap[w1.heap.size]? = some (.cells nameVals 9) := by rw [← hw2]; exact heap_alloc_last w1.drew _
  have hb2 : Below w1.heap.size w1 w2 := by rw [← hw2]; exact bnext (drewb w1) (bnew w1.drew _)
  have hS2 := bkeep hb2 HL1'.out
  have C5 := rowcell hG
  have hsz : w1.drew.heap.size = w1.heap.size := rfl
  rw [hsz] at he
  obtain ⟨G, hGG⟩ : ∃ G, G = w1.heap.size := ⟨_, rfl⟩
  rw [← hGG] at he C5
  have HB2 := Lib.hid hb2
  clear hw2 hG hb2 hsz hS0 hGG
  refine ⟨_, he, hS2, ?_⟩
  have C6 : w2.cell? ⟨G, 25, none⟩ = some (.string ⟨#[108, 104, 115]⟩) := by rw [C5]; rfl
  clear C5
  refine runH 3 (.pointer (some ⟨G, 25, none⟩)) (some 30) rfl (by kernel_rfl) (by kernel_rfl) rfl (by go_simp) hS2 ?_
  refine runH 4 (.string ⟨#[108, 104, 115]⟩) (some 31) rfl (by kernel_rfl) (by kernel_rfl) rfl (by go_simp) hS2 ?_
  refine runH 5 (.string ⟨#[108, 104, 115]⟩) (some 5) rfl (by kernel_rfl) (by kernel_rfl) rfl (by go_simp) hS2 ?_
  refine wpAnyH_done (by kernel_rfl) ?_ _
  go_simp
  have HL2 := Lib.hid hS2
  have HH2 := Lib.hid (HH.out.keep HB2.out)
  have HBB := Lib.hid (bnext HB1.out HB2.out)
  clear C6 hS2 HL1' he HH HL1 HB1
  have hc := rowcell HL2.out
  have c16 := HH2.out.at_
  rw [← HVA.out] at c16
  have cx := HH2.out.reg x hx
  rw [← HVX.out] at cx
  have cy := HH2.out.reg ym (by omega)
  rw [← HVY.out] at cy
  have cz := HH2.out.reg zm (by omega)
  rw [← HVZ.out] at cz
  go_wp2_with fail
  refine (HS16.out _).mono ?_; rintro e wx ⟨rfl, hwx⟩; subst hwx
  go_wp2_with fail
  refine (HWR.out _).mono ?_; rintro e wx ⟨rfl, hwx⟩; subst hwx
  go_upto_region 5 with fail
  go_quiet (fail)
  go_upto_region 6 with fail
  go_quiet (fail)
  go_upto_region 7 with fail
  go_quiet (fail)
  go_wp2_with fail
  refine (HS8.out _).mono ?_; rintro e w3 ⟨rfl, hw3⟩
  have hb3 : Below w2.heap.size w2 w3 := by rw [← hw3]; exact bdrewN (Below.refl _ _) _
  clear hw3 hc c16 cx cy cz
  have HL3 := Lib.hid (bkeep hb3 HL2.out)
  have HH3 := Lib.hid (HH2.out.keep hb3)
  have HB3 := Lib.hid (bnext HBB.out hb3)
  clear hb3 HL2 HH2 HBB
  go_wp2_with fail
  refine (HWN.out _).mono ?_; rintro e wx ⟨rfl, hwx⟩; subst hwx
  have hc := rowcell HL3.out
  have cmv := HH3.out.mv
  rw [← HLM.out] at cmv
  go_wp2_with fail
  have hld : Calls Try.prog 27 #[.slice A Lm cap, .int .u32 nr, .int .i64 2] w3 fun e w' => e = .returned (.tuple #[.int .u32 0, .int .i64 20]) ∧ w3 = w' := by have h := refLoad_no (w := w3) A Lm cap na 2 (by rw [HLM.out]; exact HH3.out.bw.l4) (by have := HNN.out; omega) (by omega) (by rw [HLM.out, HNA.out]; exact Nat.lt_of_not_le HCND.out); rw [HNN.out] at h; exact h
  refine hld.mono ?_; rintro e wx ⟨rfl, hwx⟩; subst hwx
  clear hld cmv
  go_wp2_with fail
  have HST := Lib.hid (show stepI m s 25 x y z = (s, 20) by show (if (memI m s 25 x ((s.R (y % 16) + near z % 4294967296) % 4294967296).toNat).2 = 0 then _ else _) = _; rw [show memI m s 25 x ((s.R (y % 16) + near z % 4294967296) % 4294967296).toNat = (s, 20) from by unfold memI; rw [show bytesN 25 = 2 from rfl, if_pos (Nat.lt_of_not_le HCND.out)]]; rfl)
  go_ret
  refine ⟨?_, ?_, Chg.of_below (dwS gy gb) HB3.out⟩
  · rw [HST.out]; rfl
  · rw [HST.out]; exact HH3.out
set_option maxRecDepth 100000 in
set_option maxHeartbeats 16000000 in
theorem refStep_26a {w : World} {gy gb N m cap : Nat} {A : Option Addr} {s : Mach} (h : DW w gy gb N m A cap s) (x y z : Nat) (hx : x < 16) (hy : y ≤ 255) (hz : z ≤ 255) (hcnd : ((s.R (y % 16) + near z % 4294967296) % 4294967296).toNat + 4 ≤ 64 * m) :
    Calls Try.prog 29 #[.pointer (some ⟨gy, 0, none⟩), .agg #[.int .u8 26, .int .u8 x, .int .u8 y, .int .u8 z]] w (RefP gy gb N m A cap s 26 x y z w) := by
  have HCND := Lib.hid hcnd
  clear hcnd
  have hb1 := bnew w (.cells #[.int .u8 26, .int .u8 x, .int .u8 y, .int .u8 z] 24)
  have hl1 := heap_alloc_last w (.cells #[.int .u8 26, .int .u8 x, .int .u8 y, .int .u8 z] 24)
  have hh := h.keep hb1
  have hc := rowcell hl1
  obtain ⟨ym, zm, vx, vy, vz, va, nx, wd, sj, q4, far, sn, q8, nr, fym, lym, fzm, lzm, fx, lx, rx, ry, rz, ra, rn, fn2, rw0, fwd, rj, fq4, rf, rsn, fq8, rnr, HYM, HZM, HVX, HVY, HVZ, HNX, HWD, HSJ, HFAR, HSN, HNR, HVA, HS16, HWR, HS8, HWN, HQ4, HQ8, HVX2⟩ := stepPre h x y z hx hy hz
  have HB1 := Lib.hid hb1
  have HL1 := Lib.hid hl1
  have HH := Lib.hid hh
  clear hb1 hl1 hh h
  obtain ⟨na, hna⟩ : ∃ n, n = ((s.R (y % 16) + near z % 4294967296) % 4294967296).toNat := ⟨_, rfl⟩
  have hnn : (na : Int) = nr := by rw [hna, HNR.out, HSN.out, HVY.out, HYM.out]; exact Int.toNat_of_nonneg (by omega)
  have HNA := Lib.hid hna
  have HNN := Lib.hid hnn
  clear hna hnn
  obtain ⟨Lm, hLm⟩ : ∃ L, L = 64 * m := ⟨_, rfl⟩
  have HLM := Lib.hid hLm
  clear hLm
  go_enter Try.func29, Try.ntmps29
  go_upto_region 1 with fail
  obtain ⟨NI, hN⟩ : ∃ N, N = w.heap.size := ⟨_, rfl⟩
  rw [← hN] at hc ⊢
  have HN := Lib.hid hN
  generalize w.alloc (.cells #[.int .u8 26, .int .u8 x, .int .u8 y, .int .u8 z] 24) = w1 at *
  clear hN hc
  have hl1 := HL1.out
  rw [← HN.out] at hl1
  have hS0 : (fun w' : World => w'.heap[NI]? = some (.cells #[.int .u8 26, .int .u8 x, .int .u8 y, .int .u8 z] 24 (0, 0))) (World.drew w1) := hl1
  have HL1' := Lib.hid hl1
  clear hl1
  refine wp_region_held (S := fun w' : World => w'.heap[NI]? = some (.cells #[.int .u8 26, .int .u8 x, .int .u8 y, .int .u8 z] 24 (0, 0))) (by kernel_rfl) ?_
  change wpAnyH _ _ _ _ _ _ _ _ (World.drew _)
  refine takeH 1 (.pointer (some ⟨NI, 0, none⟩)) (some 28) rfl rfl (by kernel_rfl) (by kernel_rfl) (by kernel_rfl) (fun _ _ _ h => h) (.inl ⟨by kernel_rfl, fun w _ => by go_simp⟩) hS0 ?_
  refine takeH 2 (.int .u8 26) (some 29) rfl rfl (by kernel_rfl) (by kernel_rfl) (by kernel_rfl) (fun _ _ _ h => h) (.inl ⟨by kernel_rfl, fun w hw => by have hc := rowcell hw; go_simp⟩) hS0 ?_
  refine callH 0 rfl (by kernel_rfl) (by kernel_rfl) (some 27) rfl 22 #[] ?hrun ((refNames_any _).mono ?_)
  case hrun => go_simp
  rintro e w2 ⟨he, hw2⟩
  have hG : w2.heap[w1.heap.size]? = some (.cells nameVals 9) := by rw [← hw2]; exact heap_alloc_last w1.drew _
  have hb2 : Below w1.heap.size w1 w2 := by rw [← hw2]; exact bnext (drewb w1) (bnew w1.drew _)
  have hS2 := bkeep hb2 HL1'.out
  have C5 := rowcell hG
  have hsz : w1.drew.heap.size = w1.heap.size := rfl
  rw [hsz] at he
  obtain ⟨G, hGG⟩ : ∃ G, G = w1.heap.size := ⟨_, rfl⟩
  rw [← hGG] at he C5
  have HB2 := Lib.hid hb2
  clear hw2 hG hb2 hsz hS0 hGG
  refine ⟨_, he, hS2, ?_⟩
  have C6 : w2.cell? ⟨G, 26, none⟩ = some (.string ⟨#[108, 119]⟩) := by rw [C5]; rfl
  clear C5
  refine runH 3 (.pointer (some ⟨G, 26, none⟩)) (some 30) rfl (by kernel_rfl) (by kernel_rfl) rfl (by go_simp) hS2 ?_
  refine runH 4 (.string ⟨#[108, 119]⟩) (some 31) rfl (by kernel_rfl) (by kernel_rfl) rfl (by go_simp) hS2 ?_
  refine runH 5 (.string ⟨#[108, 119]⟩) (some 5) rfl (by kernel_rfl) (by kernel_rfl) rfl (by go_simp) hS2 ?_
  refine wpAnyH_done (by kernel_rfl) ?_ _
  go_simp
  have HL2 := Lib.hid hS2
  have HH2 := Lib.hid (HH.out.keep HB2.out)
  have HBB := Lib.hid (bnext HB1.out HB2.out)
  clear C6 hS2 HL1' he HH HL1 HB1
  have hc := rowcell HL2.out
  have c16 := HH2.out.at_
  rw [← HVA.out] at c16
  have cx := HH2.out.reg x hx
  rw [← HVX.out] at cx
  have cy := HH2.out.reg ym (by omega)
  rw [← HVY.out] at cy
  have cz := HH2.out.reg zm (by omega)
  rw [← HVZ.out] at cz
  go_wp2_with fail
  refine (HS16.out _).mono ?_; rintro e wx ⟨rfl, hwx⟩; subst hwx
  go_wp2_with fail
  refine (HWR.out _).mono ?_; rintro e wx ⟨rfl, hwx⟩; subst hwx
  go_upto_region 5 with fail
  go_quiet (fail)
  go_upto_region 6 with fail
  go_quiet (fail)
  go_upto_region 7 with fail
  go_quiet (fail)
  go_wp2_with fail
  refine (HS8.out _).mono ?_; rintro e w3 ⟨rfl, hw3⟩
  have hb3 : Below w2.heap.size w2 w3 := by rw [← hw3]; exact bdrewN (Below.refl _ _) _
  clear hw3 hc c16 cx cy cz
  have HL3 := Lib.hid (bkeep hb3 HL2.out)
  have HH3 := Lib.hid (HH2.out.keep hb3)
  have HB3 := Lib.hid (bnext HBB.out hb3)
  clear hb3 HL2 HH2 HBB
  go_wp2_with fail
  refine (HWN.out _).mono ?_; rintro e wx ⟨rfl, hwx⟩; subst hwx
  have hc := rowcell HL3.out
  have cmv := HH3.out.mv
  rw [← HLM.out] at cmv
  go_wp2_with fail
  obtain ⟨n1, hn1⟩ : ∃ n : Int, n = ((ldN s.mem na 4 : Nat) : Int) := ⟨_, rfl⟩
  have bn1 : 0 ≤ n1 ∧ n1 ≤ 4294967295 := by
    have hlt := ldN_lt (mem := s.mem) (at_ := na) 4 (fun i hi => HH3.out.bw.m0 _ (by have := HCND.out; rw [← HNA.out] at this; omega))
    rw [hn1]; omega
  have HN1 := Lib.hid hn1
  clear hn1
  have hld : Calls Try.prog 27 #[.slice A Lm cap, .int .u32 nr, .int .i64 4] w3 fun e w' => e = .returned (.tuple #[.int .u32 n1, .int .i64 0]) ∧ w3 = w' := by have h := refLoad_ok HH3.out.bw cap na 4 HH3.out.cp (by omega) (by omega) (by rw [HNA.out]; exact HCND.out); rw [HNN.out, ← HLM.out, ← HN1.out] at h; exact h
  refine hld.mono ?_; rintro e wx ⟨rfl, hwx⟩; subst hwx
  clear hld cmv
  go_wp2_with fail
  have hov : 0 ≤ n1 ∧ n1 ≤ 4294967295 := bn1
  have hnv : 0 ≤ nx ∧ nx ≤ 4294967295 := rn
  have HST := Lib.hid (show stepI m s 26 x y z = (setAt (setR s x n1) nx, 0) by show (if (memI m s 26 x ((s.R (y % 16) + near z % 4294967296) % 4294967296).toNat).2 = 0 then _ else _) = _; rw [show memI m s 26 x ((s.R (y % 16) + near z % 4294967296) % 4294967296).toNat = (setR s x (ldI 26 (ldN s.mem ((s.R (y % 16) + near z % 4294967296) % 4294967296).toNat 4)), 0) from by unfold memI; rw [show bytesN 26 = 4 from rfl, if_neg (Nat.not_lt.2 HCND.out), if_neg (by decide)]]; rw [HN1.out, HNA.out, HNX.out]; rfl)
  have hfm : ∀ w, Calls Try.prog 9 #[.int .i64 26] w fun e w' => e = .returned (.int .i64 4) ∧ Below w.heap.size w w' := fun w => by have h := refForm_in 26 (by omega) (by omega) w; rw [show formOf (26 : Int).toNat = 4 from by decide] at h; exact h
  refine (hfm _).mono ?_; rintro e w4 ⟨rfl, hb4⟩
  have HL4 := Lib.hid (bkeep hb4 HL3.out)
  have HH4 := Lib.hid (HH3.out.keep hb4)
  have HC4 := Lib.hid ((Chg.of_below (dwS gy gb) HB3.out).trans (Chg.of_below (dwS gy gb) hb4) (fun _ _ h => h))
  clear hb4 hc hfm
  have hc := rowcell HL4.out
  have c16 := HH4.out.at_
  have fx2 : (x : Int).tmod 16 = x := by rw [Int.tmod_eq_emod_of_nonneg (by omega)]; omega
  have lx0 : (0 : Int) ≤ x := by omega
  have cx := HH4.out.reg x hx
  have fzx : w4.frozen? ⟨gy, x, none⟩ = false := HH4.out.rw.frozen _
  go_upto_region 130 with fail
  refine wp_region_still_tail 8 (by kernel_rfl) (by kernel_rfl) ?_
  simp only [List.take_succ_cons, List.take_zero, List.drop_succ_cons, List.drop_zero]
  change wpStill _ _ (World.drew w4) _ _ _
  iterate 8 still_step
  refine wpStill_nil ?_
  change wpList _ _ _ _ _ (World.drew w4)
  go_upto_region 131 with fail
  have hD5 : DW (World.drew (w4.setCell ⟨gy, x, none⟩ (.int .u32 n1))) gy gb N m A cap (setR s x n1) := (HH4.out.setR x hx _ hov.1 hov.2).keep (drewb _)
  have hC5 : Chg (dwS gy gb) w (World.drew (w4.setCell ⟨gy, x, none⟩ (.int .u32 n1))) := (HC4.out.trans (Chg.of_one (S := dwS gy gb) (one_setCell _ gy x _) (.inl rfl)) (fun _ _ h => h)).trans (Chg.of_below (dwS gy gb) (drewb _)) (fun _ _ h => h)
  generalize World.drew (w4.setCell ⟨gy, x, none⟩ (.int .u32 n1)) = w5 at *
  have HD5 := Lib.hid hD5
  have HC5 := Lib.hid hC5
  clear hD5 hC5 cx fzx hc HH4 HC4 HL4 c16
  have c16 := HD5.out.at_
  have fz16 : w5.frozen? ⟨gy, 16, none⟩ = false := HD5.out.rw.frozen _
  go_wp2_with fail
  go_ret
  refine ⟨?_, ?_, HC5.out.trans (Chg.of_one (S := dwS gy gb) (one_setCell _ gy 16 _) (.inl rfl)) (fun _ _ h => h)⟩
  · rw [HST.out]; rfl
  · rw [HST.out]; exact HD5.out.setAt _ hnv.1 hnv.2
set_option maxRecDepth 100000 in
set_option maxHeartbeats 16000000 in
theorem refStep_26b {w : World} {gy gb N m cap : Nat} {A : Option Addr} {s : Mach} (h : DW w gy gb N m A cap s) (x y z : Nat) (hx : x < 16) (hy : y ≤ 255) (hz : z ≤ 255) (hcnd : ¬ ((s.R (y % 16) + near z % 4294967296) % 4294967296).toNat + 4 ≤ 64 * m) :
    Calls Try.prog 29 #[.pointer (some ⟨gy, 0, none⟩), .agg #[.int .u8 26, .int .u8 x, .int .u8 y, .int .u8 z]] w (RefP gy gb N m A cap s 26 x y z w) := by
  have HCND := Lib.hid hcnd
  clear hcnd
  have hb1 := bnew w (.cells #[.int .u8 26, .int .u8 x, .int .u8 y, .int .u8 z] 24)
  have hl1 := heap_alloc_last w (.cells #[.int .u8 26, .int .u8 x, .int .u8 y, .int .u8 z] 24)
  have hh := h.keep hb1
  have hc := rowcell hl1
  obtain ⟨ym, zm, vx, vy, vz, va, nx, wd, sj, q4, far, sn, q8, nr, fym, lym, fzm, lzm, fx, lx, rx, ry, rz, ra, rn, fn2, rw0, fwd, rj, fq4, rf, rsn, fq8, rnr, HYM, HZM, HVX, HVY, HVZ, HNX, HWD, HSJ, HFAR, HSN, HNR, HVA, HS16, HWR, HS8, HWN, HQ4, HQ8, HVX2⟩ := stepPre h x y z hx hy hz
  have HB1 := Lib.hid hb1
  have HL1 := Lib.hid hl1
  have HH := Lib.hid hh
  clear hb1 hl1 hh h
  obtain ⟨na, hna⟩ : ∃ n, n = ((s.R (y % 16) + near z % 4294967296) % 4294967296).toNat := ⟨_, rfl⟩
  have hnn : (na : Int) = nr := by rw [hna, HNR.out, HSN.out, HVY.out, HYM.out]; exact Int.toNat_of_nonneg (by omega)
  have HNA := Lib.hid hna
  have HNN := Lib.hid hnn
  clear hna hnn
  obtain ⟨Lm, hLm⟩ : ∃ L, L = 64 * m := ⟨_, rfl⟩
  have HLM := Lib.hid hLm
  clear hLm
  go_enter Try.func29, Try.ntmps29
  go_upto_region 1 with fail
  obtain ⟨NI, hN⟩ : ∃ N, N = w.heap.size := ⟨_, rfl⟩
  rw [← hN] at hc ⊢
  have HN := Lib.hid hN
  generalize w.alloc (.cells #[.int .u8 26, .int .u8 x, .int .u8 y, .int .u8 z] 24) = w1 at *
  clear hN hc
  have hl1 := HL1.out
  rw [← HN.out] at hl1
  have hS0 : (fun w' : World => w'.heap[NI]? = some (.cells #[.int .u8 26, .int .u8 x, .int .u8 y, .int .u8 z] 24 (0, 0))) (World.drew w1) := hl1
  have HL1' := Lib.hid hl1
  clear hl1
  refine wp_region_held (S := fun w' : World => w'.heap[NI]? = some (.cells #[.int .u8 26, .int .u8 x, .int .u8 y, .int .u8 z] 24 (0, 0))) (by kernel_rfl) ?_
  change wpAnyH _ _ _ _ _ _ _ _ (World.drew _)
  refine takeH 1 (.pointer (some ⟨NI, 0, none⟩)) (some 28) rfl rfl (by kernel_rfl) (by kernel_rfl) (by kernel_rfl) (fun _ _ _ h => h) (.inl ⟨by kernel_rfl, fun w _ => by go_simp⟩) hS0 ?_
  refine takeH 2 (.int .u8 26) (some 29) rfl rfl (by kernel_rfl) (by kernel_rfl) (by kernel_rfl) (fun _ _ _ h => h) (.inl ⟨by kernel_rfl, fun w hw => by have hc := rowcell hw; go_simp⟩) hS0 ?_
  refine callH 0 rfl (by kernel_rfl) (by kernel_rfl) (some 27) rfl 22 #[] ?hrun ((refNames_any _).mono ?_)
  case hrun => go_simp
  rintro e w2 ⟨he, hw2⟩
  have hG : w2.heap[w1.heap.size]? = some (.cells nameVals 9) := by rw [← hw2]; exact heap_alloc_last w1.drew _
  have hb2 : Below w1.heap.size w1 w2 := by rw [← hw2]; exact bnext (drewb w1) (bnew w1.drew _)
  have hS2 := bkeep hb2 HL1'.out
  have C5 := rowcell hG
  have hsz : w1.drew.heap.size = w1.heap.size := rfl
  rw [hsz] at he
  obtain ⟨G, hGG⟩ : ∃ G, G = w1.heap.size := ⟨_, rfl⟩
  rw [← hGG] at he C5
  have HB2 := Lib.hid hb2
  clear hw2 hG hb2 hsz hS0 hGG
  refine ⟨_, he, hS2, ?_⟩
  have C6 : w2.cell? ⟨G, 26, none⟩ = some (.string ⟨#[108, 119]⟩) := by rw [C5]; rfl
  clear C5
  refine runH 3 (.pointer (some ⟨G, 26, none⟩)) (some 30) rfl (by kernel_rfl) (by kernel_rfl) rfl (by go_simp) hS2 ?_
  refine runH 4 (.string ⟨#[108, 119]⟩) (some 31) rfl (by kernel_rfl) (by kernel_rfl) rfl (by go_simp) hS2 ?_
  refine runH 5 (.string ⟨#[108, 119]⟩) (some 5) rfl (by kernel_rfl) (by kernel_rfl) rfl (by go_simp) hS2 ?_
  refine wpAnyH_done (by kernel_rfl) ?_ _
  go_simp
  have HL2 := Lib.hid hS2
  have HH2 := Lib.hid (HH.out.keep HB2.out)
  have HBB := Lib.hid (bnext HB1.out HB2.out)
  clear C6 hS2 HL1' he HH HL1 HB1
  have hc := rowcell HL2.out
  have c16 := HH2.out.at_
  rw [← HVA.out] at c16
  have cx := HH2.out.reg x hx
  rw [← HVX.out] at cx
  have cy := HH2.out.reg ym (by omega)
  rw [← HVY.out] at cy
  have cz := HH2.out.reg zm (by omega)
  rw [← HVZ.out] at cz
  go_wp2_with fail
  refine (HS16.out _).mono ?_; rintro e wx ⟨rfl, hwx⟩; subst hwx
  go_wp2_with fail
  refine (HWR.out _).mono ?_; rintro e wx ⟨rfl, hwx⟩; subst hwx
  go_upto_region 5 with fail
  go_quiet (fail)
  go_upto_region 6 with fail
  go_quiet (fail)
  go_upto_region 7 with fail
  go_quiet (fail)
  go_wp2_with fail
  refine (HS8.out _).mono ?_; rintro e w3 ⟨rfl, hw3⟩
  have hb3 : Below w2.heap.size w2 w3 := by rw [← hw3]; exact bdrewN (Below.refl _ _) _
  clear hw3 hc c16 cx cy cz
  have HL3 := Lib.hid (bkeep hb3 HL2.out)
  have HH3 := Lib.hid (HH2.out.keep hb3)
  have HB3 := Lib.hid (bnext HBB.out hb3)
  clear hb3 HL2 HH2 HBB
  go_wp2_with fail
  refine (HWN.out _).mono ?_; rintro e wx ⟨rfl, hwx⟩; subst hwx
  have hc := rowcell HL3.out
  have cmv := HH3.out.mv
  rw [← HLM.out] at cmv
  go_wp2_with fail
  have hld : Calls Try.prog 27 #[.slice A Lm cap, .int .u32 nr, .int .i64 4] w3 fun e w' => e = .returned (.tuple #[.int .u32 0, .int .i64 20]) ∧ w3 = w' := by have h := refLoad_no (w := w3) A Lm cap na 4 (by rw [HLM.out]; exact HH3.out.bw.l4) (by have := HNN.out; omega) (by omega) (by rw [HLM.out, HNA.out]; exact Nat.lt_of_not_le HCND.out); rw [HNN.out] at h; exact h
  refine hld.mono ?_; rintro e wx ⟨rfl, hwx⟩; subst hwx
  clear hld cmv
  go_wp2_with fail
  have HST := Lib.hid (show stepI m s 26 x y z = (s, 20) by show (if (memI m s 26 x ((s.R (y % 16) + near z % 4294967296) % 4294967296).toNat).2 = 0 then _ else _) = _; rw [show memI m s 26 x ((s.R (y % 16) + near z % 4294967296) % 4294967296).toNat = (s, 20) from by unfold memI; rw [show bytesN 26 = 4 from rfl, if_pos (Nat.lt_of_not_le HCND.out)]]; rfl)
  go_ret
  refine ⟨?_, ?_, Chg.of_below (dwS gy gb) HB3.out⟩
  · rw [HST.out]; rfl
  · rw [HST.out]; exact HH3.out
set_option maxRecDepth 100000 in
set_option maxHeartbeats 16000000 in
theorem refStep_27a {w : World} {gy gb N m cap : Nat} {A : Option Addr} {s : Mach} (h : DW w gy gb N m A cap s) (x y z : Nat) (hx : x < 16) (hy : y ≤ 255) (hz : z ≤ 255) (hcnd : ((s.R (y % 16) + near z % 4294967296) % 4294967296).toNat + 1 ≤ 64 * m) :
    Calls Try.prog 29 #[.pointer (some ⟨gy, 0, none⟩), .agg #[.int .u8 27, .int .u8 x, .int .u8 y, .int .u8 z]] w (RefP gy gb N m A cap s 27 x y z w) := by
  have HCND := Lib.hid hcnd
  clear hcnd
  have hb1 := bnew w (.cells #[.int .u8 27, .int .u8 x, .int .u8 y, .int .u8 z] 24)
  have hl1 := heap_alloc_last w (.cells #[.int .u8 27, .int .u8 x, .int .u8 y, .int .u8 z] 24)
  have hh := h.keep hb1
  have hc := rowcell hl1
  obtain ⟨ym, zm, vx, vy, vz, va, nx, wd, sj, q4, far, sn, q8, nr, fym, lym, fzm, lzm, fx, lx, rx, ry, rz, ra, rn, fn2, rw0, fwd, rj, fq4, rf, rsn, fq8, rnr, HYM, HZM, HVX, HVY, HVZ, HNX, HWD, HSJ, HFAR, HSN, HNR, HVA, HS16, HWR, HS8, HWN, HQ4, HQ8, HVX2⟩ := stepPre h x y z hx hy hz
  have HB1 := Lib.hid hb1
  have HL1 := Lib.hid hl1
  have HH := Lib.hid hh
  clear hb1 hl1 hh h
  obtain ⟨na, hna⟩ : ∃ n, n = ((s.R (y % 16) + near z % 4294967296) % 4294967296).toNat := ⟨_, rfl⟩
  have hnn : (na : Int) = nr := by rw [hna, HNR.out, HSN.out, HVY.out, HYM.out]; exact Int.toNat_of_nonneg (by omega)
  have HNA := Lib.hid hna
  have HNN := Lib.hid hnn
  clear hna hnn
  obtain ⟨Lm, hLm⟩ : ∃ L, L = 64 * m := ⟨_, rfl⟩
  have HLM := Lib.hid hLm
  clear hLm
  have hvn : ((vx.toNat : Nat) : Int) = vx := Int.toNat_of_nonneg rx.1
  have HVN := Lib.hid hvn
  clear hvn
  go_enter Try.func29, Try.ntmps29
  go_upto_region 1 with fail
  obtain ⟨NI, hN⟩ : ∃ N, N = w.heap.size := ⟨_, rfl⟩
  rw [← hN] at hc ⊢
  have HN := Lib.hid hN
  generalize w.alloc (.cells #[.int .u8 27, .int .u8 x, .int .u8 y, .int .u8 z] 24) = w1 at *
  clear hN hc
  have hl1 := HL1.out
  rw [← HN.out] at hl1
  have hS0 : (fun w' : World => w'.heap[NI]? = some (.cells #[.int .u8 27, .int .u8 x, .int .u8 y, .int .u8 z] 24 (0, 0))) (World.drew w1) := hl1
  have HL1' := Lib.hid hl1
  clear hl1
  refine wp_region_held (S := fun w' : World => w'.heap[NI]? = some (.cells #[.int .u8 27, .int .u8 x, .int .u8 y, .int .u8 z] 24 (0, 0))) (by kernel_rfl) ?_
  change wpAnyH _ _ _ _ _ _ _ _ (World.drew _)
  refine takeH 1 (.pointer (some ⟨NI, 0, none⟩)) (some 28) rfl rfl (by kernel_rfl) (by kernel_rfl) (by kernel_rfl) (fun _ _ _ h => h) (.inl ⟨by kernel_rfl, fun w _ => by go_simp⟩) hS0 ?_
  refine takeH 2 (.int .u8 27) (some 29) rfl rfl (by kernel_rfl) (by kernel_rfl) (by kernel_rfl) (fun _ _ _ h => h) (.inl ⟨by kernel_rfl, fun w hw => by have hc := rowcell hw; go_simp⟩) hS0 ?_
  refine callH 0 rfl (by kernel_rfl) (by kernel_rfl) (some 27) rfl 22 #[] ?hrun ((refNames_any _).mono ?_)
  case hrun => go_simp
  rintro e w2 ⟨he, hw2⟩
  have hG : w2.heap[w1.heap.size]? = some (.cells nameVals 9) := by rw [← hw2]; exact heap_alloc_last w1.drew _
  have hb2 : Below w1.heap.size w1 w2 := by rw [← hw2]; exact bnext (drewb w1) (bnew w1.drew _)
  have hS2 := bkeep hb2 HL1'.out
  have C5 := rowcell hG
  have hsz : w1.drew.heap.size = w1.heap.size := rfl
  rw [hsz] at he
  obtain ⟨G, hGG⟩ : ∃ G, G = w1.heap.size := ⟨_, rfl⟩
  rw [← hGG] at he C5
  have HB2 := Lib.hid hb2
  clear hw2 hG hb2 hsz hS0 hGG
  refine ⟨_, he, hS2, ?_⟩
  have C6 : w2.cell? ⟨G, 27, none⟩ = some (.string ⟨#[115, 98]⟩) := by rw [C5]; rfl
  clear C5
  refine runH 3 (.pointer (some ⟨G, 27, none⟩)) (some 30) rfl (by kernel_rfl) (by kernel_rfl) rfl (by go_simp) hS2 ?_
  refine runH 4 (.string ⟨#[115, 98]⟩) (some 31) rfl (by kernel_rfl) (by kernel_rfl) rfl (by go_simp) hS2 ?_
  refine runH 5 (.string ⟨#[115, 98]⟩) (some 5) rfl (by kernel_rfl) (by kernel_rfl) rfl (by go_simp) hS2 ?_
  refine wpAnyH_done (by kernel_rfl) ?_ _
  go_simp
  have HL2 := Lib.hid hS2
  have HH2 := Lib.hid (HH.out.keep HB2.out)
  have HBB := Lib.hid (bnext HB1.out HB2.out)
  clear C6 hS2 HL1' he HH HL1 HB1
  have hc := rowcell HL2.out
  have c16 := HH2.out.at_
  rw [← HVA.out] at c16
  have cx := HH2.out.reg x hx
  rw [← HVX.out] at cx
  have cy := HH2.out.reg ym (by omega)
  rw [← HVY.out] at cy
  have cz := HH2.out.reg zm (by omega)
  rw [← HVZ.out] at cz
  go_wp2_with fail
  refine (HS16.out _).mono ?_; rintro e wx ⟨rfl, hwx⟩; subst hwx
  go_wp2_with fail
  refine (HWR.out _).mono ?_; rintro e wx ⟨rfl, hwx⟩; subst hwx
  go_upto_region 5 with fail
  go_quiet (fail)
  go_upto_region 6 with fail
  go_quiet (fail)
  go_upto_region 7 with fail
  go_quiet (fail)
  go_wp2_with fail
  refine (HS8.out _).mono ?_; rintro e w3 ⟨rfl, hw3⟩
  have hb3 : Below w2.heap.size w2 w3 := by rw [← hw3]; exact bdrewN (Below.refl _ _) _
  clear hw3 hc c16 cx cy cz
  have HL3 := Lib.hid (bkeep hb3 HL2.out)
  have HH3 := Lib.hid (HH2.out.keep hb3)
  have HB3 := Lib.hid (bnext HBB.out hb3)
  clear hb3 HL2 HH2 HBB
  go_wp2_with fail
  refine (HWN.out _).mono ?_; rintro e wx ⟨rfl, hwx⟩; subst hwx
  have hc := rowcell HL3.out
  have cmv := HH3.out.mv
  rw [← HLM.out] at cmv
  go_wp2_with fail
  have hld : Calls Try.prog 48 #[.slice A Lm cap, .int .u32 nr, .int .i64 1, .int .u32 vx] w3 fun e w' => e = .returned (.int .i64 0) ∧ BW w' gb N (64 * m) A (stN s.mem na 1 vx.toNat) ∧ Chg (fun x => x = gb) w3 w' := by have h := refStore_ok HH3.out.bw cap na 1 vx.toNat HH3.out.cp (by omega) (by omega) (by rw [HNA.out]; exact HCND.out) (by omega); rw [HNN.out, HVN.out] at h; rw [HLM.out]; exact h
  refine hld.mono ?_; rintro e w3s ⟨rfl, hbw, hch⟩
  have hls := hch.blk HL3.out (fun e => by obtain ⟨_, f, hr, _⟩ := HH3.out.bw.row (by have := HCND.out; omega); exact ne_ty HL3.out (rowIs_arr hr) (by decide) e)
  have hhs := HH3.out.mem hbw hch
  rw [HVX.out, HNA.out] at hhs
  have hcs := (Chg.of_below (dwS gy gb) HB3.out).trans (hch.mono (T := dwS gy gb) (fun k _ e => .inr e)) (fun _ _ h => h)
  have HLS := Lib.hid hls
  have HHS := Lib.hid hhs
  have HCS := Lib.hid hcs
  clear hls hhs hcs hbw hch hld cmv hc
  have hc := rowcell HLS.out
  go_wp2_with fail
  have hov : 0 ≤ vx ∧ vx ≤ 4294967295 := rx
  have hnv : 0 ≤ nx ∧ nx ≤ 4294967295 := rn
  have HST := Lib.hid (show stepI m s 27 x y z = (setAt (setR (⟨s.R, s.at_, stN s.mem ((s.R (y % 16) + near z % 4294967296) % 4294967296).toNat 1 (s.R x).toNat⟩ : Mach) x vx) nx, 0) by rw [show setR (⟨s.R, s.at_, stN s.mem ((s.R (y % 16) + near z % 4294967296) % 4294967296).toNat 1 (s.R x).toNat⟩ : Mach) x vx = ⟨s.R, s.at_, stN s.mem ((s.R (y % 16) + near z % 4294967296) % 4294967296).toNat 1 (s.R x).toNat⟩ from by rw [HVX.out]; exact setR_same (⟨s.R, s.at_, stN s.mem ((s.R (y % 16) + near z % 4294967296) % 4294967296).toNat 1 (s.R x).toNat⟩ : Mach) x]; show (if (memI m s 27 x ((s.R (y % 16) + near z % 4294967296) % 4294967296).toNat).2 = 0 then _ else _) = _; rw [show memI m s 27 x ((s.R (y % 16) + near z % 4294967296) % 4294967296).toNat = (⟨s.R, s.at_, stN s.mem ((s.R (y % 16) + near z % 4294967296) % 4294967296).toNat 1 (s.R x).toNat⟩, 0) from by unfold memI; rw [show bytesN 27 = 1 from rfl, if_neg (Nat.not_lt.2 HCND.out), if_pos (by decide)]]; rw [HNX.out]; rfl)
  have hfm : ∀ w, Calls Try.prog 9 #[.int .i64 27] w fun e w' => e = .returned (.int .i64 4) ∧ Below w.heap.size w w' := fun w => by have h := refForm_in 27 (by omega) (by omega) w; rw [show formOf (27 : Int).toNat = 4 from by decide] at h; exact h
  refine (hfm _).mono ?_; rintro e w4 ⟨rfl, hb4⟩
  have HL4 := Lib.hid (bkeep hb4 HLS.out)
  have HH4 := Lib.hid (HHS.out.keep hb4)
  have HC4 := Lib.hid (HCS.out.trans (Chg.of_below (dwS gy gb) hb4) (fun _ _ h => h))
  clear hb4 hc hfm
  have hc := rowcell HL4.out
  have c16 := HH4.out.at_
  have fx2 : (x : Int).tmod 16 = x := by rw [Int.tmod_eq_emod_of_nonneg (by omega)]; omega
  have lx0 : (0 : Int) ≤ x := by omega
  have cx := HH4.out.reg x hx
  have fzx : w4.frozen? ⟨gy, x, none⟩ = false := HH4.out.rw.frozen _
  go_upto_region 130 with fail
  refine wp_region_still_tail 8 (by kernel_rfl) (by kernel_rfl) ?_
  simp only [List.take_succ_cons, List.take_zero, List.drop_succ_cons, List.drop_zero]
  change wpStill _ _ (World.drew w4) _ _ _
  iterate 8 still_step
  refine wpStill_nil ?_
  change wpList _ _ _ _ _ (World.drew w4)
  go_upto_region 131 with fail
  have hD5 : DW (World.drew (w4.setCell ⟨gy, x, none⟩ (.int .u32 vx))) gy gb N m A cap (setR (⟨s.R, s.at_, stN s.mem ((s.R (y % 16) + near z % 4294967296) % 4294967296).toNat 1 (s.R x).toNat⟩ : Mach) x vx) := (HH4.out.setR x hx _ hov.1 hov.2).keep (drewb _)
  have hC5 : Chg (dwS gy gb) w (World.drew (w4.setCell ⟨gy, x, none⟩ (.int .u32 vx))) := (HC4.out.trans (Chg.of_one (S := dwS gy gb) (one_setCell _ gy x _) (.inl rfl)) (fun _ _ h => h)).trans (Chg.of_below (dwS gy gb) (drewb _)) (fun _ _ h => h)
  generalize World.drew (w4.setCell ⟨gy, x, none⟩ (.int .u32 vx)) = w5 at *
  have HD5 := Lib.hid hD5
  have HC5 := Lib.hid hC5
  clear hD5 hC5 cx fzx hc HH4 HC4 HL4 c16
  have c16 := HD5.out.at_
  have fz16 : w5.frozen? ⟨gy, 16, none⟩ = false := HD5.out.rw.frozen _
  go_wp2_with fail
  go_ret
  refine ⟨?_, ?_, HC5.out.trans (Chg.of_one (S := dwS gy gb) (one_setCell _ gy 16 _) (.inl rfl)) (fun _ _ h => h)⟩
  · rw [HST.out]; rfl
  · rw [HST.out]; exact HD5.out.setAt _ hnv.1 hnv.2
set_option maxRecDepth 100000 in
set_option maxHeartbeats 16000000 in
theorem refStep_27b {w : World} {gy gb N m cap : Nat} {A : Option Addr} {s : Mach} (h : DW w gy gb N m A cap s) (x y z : Nat) (hx : x < 16) (hy : y ≤ 255) (hz : z ≤ 255) (hcnd : ¬ ((s.R (y % 16) + near z % 4294967296) % 4294967296).toNat + 1 ≤ 64 * m) :
    Calls Try.prog 29 #[.pointer (some ⟨gy, 0, none⟩), .agg #[.int .u8 27, .int .u8 x, .int .u8 y, .int .u8 z]] w (RefP gy gb N m A cap s 27 x y z w) := by
  have HCND := Lib.hid hcnd
  clear hcnd
  have hb1 := bnew w (.cells #[.int .u8 27, .int .u8 x, .int .u8 y, .int .u8 z] 24)
  have hl1 := heap_alloc_last w (.cells #[.int .u8 27, .int .u8 x, .int .u8 y, .int .u8 z] 24)
  have hh := h.keep hb1
  have hc := rowcell hl1
  obtain ⟨ym, zm, vx, vy, vz, va, nx, wd, sj, q4, far, sn, q8, nr, fym, lym, fzm, lzm, fx, lx, rx, ry, rz, ra, rn, fn2, rw0, fwd, rj, fq4, rf, rsn, fq8, rnr, HYM, HZM, HVX, HVY, HVZ, HNX, HWD, HSJ, HFAR, HSN, HNR, HVA, HS16, HWR, HS8, HWN, HQ4, HQ8, HVX2⟩ := stepPre h x y z hx hy hz
  have HB1 := Lib.hid hb1
  have HL1 := Lib.hid hl1
  have HH := Lib.hid hh
  clear hb1 hl1 hh h
  obtain ⟨na, hna⟩ : ∃ n, n = ((s.R (y % 16) + near z % 4294967296) % 4294967296).toNat := ⟨_, rfl⟩
  have hnn : (na : Int) = nr := by rw [hna, HNR.out, HSN.out, HVY.out, HYM.out]; exact Int.toNat_of_nonneg (by omega)
  have HNA := Lib.hid hna
  have HNN := Lib.hid hnn
  clear hna hnn
  obtain ⟨Lm, hLm⟩ : ∃ L, L = 64 * m := ⟨_, rfl⟩
  have HLM := Lib.hid hLm
  clear hLm
  have hvn : ((vx.toNat : Nat) : Int) = vx := Int.toNat_of_nonneg rx.1
  have HVN := Lib.hid hvn
  clear hvn
  go_enter Try.func29, Try.ntmps29
  go_upto_region 1 with fail
  obtain ⟨NI, hN⟩ : ∃ N, N = w.heap.size := ⟨_, rfl⟩
  rw [← hN] at hc ⊢
  have HN := Lib.hid hN
  generalize w.alloc (.cells #[.int .u8 27, .int .u8 x, .int .u8 y, .int .u8 z] 24) = w1 at *
  clear hN hc
  have hl1 := HL1.out
  rw [← HN.out] at hl1
  have hS0 : (fun w' : World => w'.heap[NI]? = some (.cells #[.int .u8 27, .int .u8 x, .int .u8 y, .int .u8 z] 24 (0, 0))) (World.drew w1) := hl1
  have HL1' := Lib.hid hl1
  clear hl1
  refine wp_region_held (S := fun w' : World => w'.heap[NI]? = some (.cells #[.int .u8 27, .int .u8 x, .int .u8 y, .int .u8 z] 24 (0, 0))) (by kernel_rfl) ?_
  change wpAnyH _ _ _ _ _ _ _ _ (World.drew _)
  refine takeH 1 (.pointer (some ⟨NI, 0, none⟩)) (some 28) rfl rfl (by kernel_rfl) (by kernel_rfl) (by kernel_rfl) (fun _ _ _ h => h) (.inl ⟨by kernel_rfl, fun w _ => by go_simp⟩) hS0 ?_
  refine takeH 2 (.int .u8 27) (some 29) rfl rfl (by kernel_rfl) (by kernel_rfl) (by kernel_rfl) (fun _ _ _ h => h) (.inl ⟨by kernel_rfl, fun w hw => by have hc := rowcell hw; go_simp⟩) hS0 ?_
  refine callH 0 rfl (by kernel_rfl) (by kernel_rfl) (some 27) rfl 22 #[] ?hrun ((refNames_any _).mono ?_)
  case hrun => go_simp
  rintro e w2 ⟨he, hw2⟩
  have hG : w2.heap[w1.heap.size]? = some (.cells nameVals 9) := by rw [← hw2]; exact heap_alloc_last w1.drew _
  have hb2 : Below w1.heap.size w1 w2 := by rw [← hw2]; exact bnext (drewb w1) (bnew w1.drew _)
  have hS2 := bkeep hb2 HL1'.out
  have C5 := rowcell hG
  have hsz : w1.drew.heap.size = w1.heap.size := rfl
  rw [hsz] at he
  obtain ⟨G, hGG⟩ : ∃ G, G = w1.heap.size := ⟨_, rfl⟩
  rw [← hGG] at he C5
  have HB2 := Lib.hid hb2
  clear hw2 hG hb2 hsz hS0 hGG
  refine ⟨_, he, hS2, ?_⟩
  have C6 : w2.cell? ⟨G, 27, none⟩ = some (.string ⟨#[115, 98]⟩) := by rw [C5]; rfl
  clear C5
  refine runH 3 (.pointer (some ⟨G, 27, none⟩)) (some 30) rfl (by kernel_rfl) (by kernel_rfl) rfl (by go_simp) hS2 ?_
  refine runH 4 (.string ⟨#[115, 98]⟩) (some 31) rfl (by kernel_rfl) (by kernel_rfl) rfl (by go_simp) hS2 ?_
  refine runH 5 (.string ⟨#[115, 98]⟩) (some 5) rfl (by kernel_rfl) (by kernel_rfl) rfl (by go_simp) hS2 ?_
  refine wpAnyH_done (by kernel_rfl) ?_ _
  go_simp
  have HL2 := Lib.hid hS2
  have HH2 := Lib.hid (HH.out.keep HB2.out)
  have HBB := Lib.hid (bnext HB1.out HB2.out)
  clear C6 hS2 HL1' he HH HL1 HB1
  have hc := rowcell HL2.out
  have c16 := HH2.out.at_
  rw [← HVA.out] at c16
  have cx := HH2.out.reg x hx
  rw [← HVX.out] at cx
  have cy := HH2.out.reg ym (by omega)
  rw [← HVY.out] at cy
  have cz := HH2.out.reg zm (by omega)
  rw [← HVZ.out] at cz
  go_wp2_with fail
  refine (HS16.out _).mono ?_; rintro e wx ⟨rfl, hwx⟩; subst hwx
  go_wp2_with fail
  refine (HWR.out _).mono ?_; rintro e wx ⟨rfl, hwx⟩; subst hwx
  go_upto_region 5 with fail
  go_quiet (fail)
  go_upto_region 6 with fail
  go_quiet (fail)
  go_upto_region 7 with fail
  go_quiet (fail)
  go_wp2_with fail
  refine (HS8.out _).mono ?_; rintro e w3 ⟨rfl, hw3⟩
  have hb3 : Below w2.heap.size w2 w3 := by rw [← hw3]; exact bdrewN (Below.refl _ _) _
  clear hw3 hc c16 cx cy cz
  have HL3 := Lib.hid (bkeep hb3 HL2.out)
  have HH3 := Lib.hid (HH2.out.keep hb3)
  have HB3 := Lib.hid (bnext HBB.out hb3)
  clear hb3 HL2 HH2 HBB
  go_wp2_with fail
  refine (HWN.out _).mono ?_; rintro e wx ⟨rfl, hwx⟩; subst hwx
  have hc := rowcell HL3.out
  have cmv := HH3.out.mv
  rw [← HLM.out] at cmv
  go_wp2_with fail
  have hld : Calls Try.prog 48 #[.slice A Lm cap, .int .u32 nr, .int .i64 1, .int .u32 vx] w3 fun e w' => e = .returned (.int .i64 20) ∧ w3 = w' := by have h := refStore_no (w := w3) A Lm cap na 1 vx (by rw [HLM.out]; exact HH3.out.bw.l4) (by have := HNN.out; omega) (by omega) (by rw [HLM.out, HNA.out]; exact Nat.lt_of_not_le HCND.out); rw [HNN.out] at h; exact h
  refine hld.mono ?_; rintro e wx ⟨rfl, hwx⟩; subst hwx
  clear hld cmv
  go_wp2_with fail
  have HST := Lib.hid (show stepI m s 27 x y z = (s, 20) by show (if (memI m s 27 x ((s.R (y % 16) + near z % 4294967296) % 4294967296).toNat).2 = 0 then _ else _) = _; rw [show memI m s 27 x ((s.R (y % 16) + near z % 4294967296) % 4294967296).toNat = (s, 20) from by unfold memI; rw [show bytesN 27 = 1 from rfl, if_pos (Nat.lt_of_not_le HCND.out)]]; rfl)
  go_ret
  refine ⟨?_, ?_, Chg.of_below (dwS gy gb) HB3.out⟩
  · rw [HST.out]; rfl
  · rw [HST.out]; exact HH3.out
set_option maxRecDepth 100000 in
set_option maxHeartbeats 16000000 in
theorem refStep_28a {w : World} {gy gb N m cap : Nat} {A : Option Addr} {s : Mach} (h : DW w gy gb N m A cap s) (x y z : Nat) (hx : x < 16) (hy : y ≤ 255) (hz : z ≤ 255) (hcnd : ((s.R (y % 16) + near z % 4294967296) % 4294967296).toNat + 2 ≤ 64 * m) :
    Calls Try.prog 29 #[.pointer (some ⟨gy, 0, none⟩), .agg #[.int .u8 28, .int .u8 x, .int .u8 y, .int .u8 z]] w (RefP gy gb N m A cap s 28 x y z w) := by
  have HCND := Lib.hid hcnd
  clear hcnd
  have hb1 := bnew w (.cells #[.int .u8 28, .int .u8 x, .int .u8 y, .int .u8 z] 24)
  have hl1 := heap_alloc_last w (.cells #[.int .u8 28, .int .u8 x, .int .u8 y, .int .u8 z] 24)
  have hh := h.keep hb1
  have hc := rowcell hl1
  obtain ⟨ym, zm, vx, vy, vz, va, nx, wd, sj, q4, far, sn, q8, nr, fym, lym, fzm, lzm, fx, lx, rx, ry, rz, ra, rn, fn2, rw0, fwd, rj, fq4, rf, rsn, fq8, rnr, HYM, HZM, HVX, HVY, HVZ, HNX, HWD, HSJ, HFAR, HSN, HNR, HVA, HS16, HWR, HS8, HWN, HQ4, HQ8, HVX2⟩ := stepPre h x y z hx hy hz
  have HB1 := Lib.hid hb1
  have HL1 := Lib.hid hl1
  have HH := Lib.hid hh
  clear hb1 hl1 hh h
  obtain ⟨na, hna⟩ : ∃ n, n = ((s.R (y % 16) + near z % 4294967296) % 4294967296).toNat := ⟨_, rfl⟩
  have hnn : (na : Int) = nr := by rw [hna, HNR.out, HSN.out, HVY.out, HYM.out]; exact Int.toNat_of_nonneg (by omega)
  have HNA := Lib.hid hna
  have HNN := Lib.hid hnn
  clear hna hnn
  obtain ⟨Lm, hLm⟩ : ∃ L, L = 64 * m := ⟨_, rfl⟩
  have HLM := Lib.hid hLm
  clear hLm
  have hvn : ((vx.toNat : Nat) : Int) = vx := Int.toNat_of_nonneg rx.1
  have HVN := Lib.hid hvn
  clear hvn
  go_enter Try.func29, Try.ntmps29
  go_upto_region 1 with fail
  obtain ⟨NI, hN⟩ : ∃ N, N = w.heap.size := ⟨_, rfl⟩
  rw [← hN] at hc ⊢
  have HN := Lib.hid hN
  generalize w.alloc (.cells #[.int .u8 28, .int .u8 x, .int .u8 y, .int .u8 z] 24) = w1 at *
  clear hN hc
  have hl1 := HL1.out
  rw [← HN.out] at hl1
  have hS0 : (fun w' : World => w'.heap[NI]? = some (.cells #[.int .u8 28, .int .u8 x, .int .u8 y, .int .u8 z] 24 (0, 0))) (World.drew w1) := hl1
  have HL1' := Lib.hid hl1
  clear hl1
  refine wp_region_held (S := fun w' : World => w'.heap[NI]? = some (.cells #[.int .u8 28, .int .u8 x, .int .u8 y, .int .u8 z] 24 (0, 0))) (by kernel_rfl) ?_
  change wpAnyH _ _ _ _ _ _ _ _ (World.drew _)
  refine takeH 1 (.pointer (some ⟨NI, 0, none⟩)) (some 28) rfl rfl (by kernel_rfl) (by kernel_rfl) (by kernel_rfl) (fun _ _ _ h => h) (.inl ⟨by kernel_rfl, fun w _ => by go_simp⟩) hS0 ?_
  refine takeH 2 (.int .u8 28) (some 29) rfl rfl (by kernel_rfl) (by kernel_rfl) (by kernel_rfl) (fun _ _ _ h => h) (.inl ⟨by kernel_rfl, fun w hw => by have hc := rowcell hw; go_simp⟩) hS0 ?_
  refine callH 0 rfl (by kernel_rfl) (by kernel_rfl) (some 27) rfl 22 #[] ?hrun ((refNames_any _).mono ?_)
  case hrun => go_simp
  rintro e w2 ⟨he, hw2⟩
  have hG : w2.heap[w1.heap.size]? = some (.cells nameVals 9) := by rw [← hw2]; exact heap_alloc_last w1.drew _
  have hb2 : Below w1.heap.size w1 w2 := by rw [← hw2]; exact bnext (drewb w1) (bnew w1.drew _)
  have hS2 := bkeep hb2 HL1'.out
  have C5 := rowcell hG
  have hsz : w1.drew.heap.size = w1.heap.size := rfl
  rw [hsz] at he
  obtain ⟨G, hGG⟩ : ∃ G, G = w1.heap.size := ⟨_, rfl⟩
  rw [← hGG] at he C5
  have HB2 := Lib.hid hb2
  clear hw2 hG hb2 hsz hS0 hGG
  refine ⟨_, he, hS2, ?_⟩
  have C6 : w2.cell? ⟨G, 28, none⟩ = some (.string ⟨#[115, 104]⟩) := by rw [C5]; rfl
  clear C5
  refine runH 3 (.pointer (some ⟨G, 28, none⟩)) (some 30) rfl (by kernel_rfl) (by kernel_rfl) rfl (by go_simp) hS2 ?_
  refine runH 4 (.string ⟨#[115, 104]⟩) (some 31) rfl (by kernel_rfl) (by kernel_rfl) rfl (by go_simp) hS2 ?_
  refine runH 5 (.string ⟨#[115, 104]⟩) (some 5) rfl (by kernel_rfl) (by kernel_rfl) rfl (by go_simp) hS2 ?_
  refine wpAnyH_done (by kernel_rfl) ?_ _
  go_simp
  have HL2 := Lib.hid hS2
  have HH2 := Lib.hid (HH.out.keep HB2.out)
  have HBB := Lib.hid (bnext HB1.out HB2.out)
  clear C6 hS2 HL1' he HH HL1 HB1
  have hc := rowcell HL2.out
  have c16 := HH2.out.at_
  rw [← HVA.out] at c16
  have cx := HH2.out.reg x hx
  rw [← HVX.out] at cx
  have cy := HH2.out.reg ym (by omega)
  rw [← HVY.out] at cy
  have cz := HH2.out.reg zm (by omega)
  rw [← HVZ.out] at cz
  go_wp2_with fail
  refine (HS16.out _).mono ?_; rintro e wx ⟨rfl, hwx⟩; subst hwx
  go_wp2_with fail
  refine (HWR.out _).mono ?_; rintro e wx ⟨rfl, hwx⟩; subst hwx
  go_upto_region 5 with fail
  go_quiet (fail)
  go_upto_region 6 with fail
  go_quiet (fail)
  go_upto_region 7 with fail
  go_quiet (fail)
  go_wp2_with fail
  refine (HS8.out _).mono ?_; rintro e w3 ⟨rfl, hw3⟩
  have hb3 : Below w2.heap.size w2 w3 := by rw [← hw3]; exact bdrewN (Below.refl _ _) _
  clear hw3 hc c16 cx cy cz
  have HL3 := Lib.hid (bkeep hb3 HL2.out)
  have HH3 := Lib.hid (HH2.out.keep hb3)
  have HB3 := Lib.hid (bnext HBB.out hb3)
  clear hb3 HL2 HH2 HBB
  go_wp2_with fail
  refine (HWN.out _).mono ?_; rintro e wx ⟨rfl, hwx⟩; subst hwx
  have hc := rowcell HL3.out
  have cmv := HH3.out.mv
  rw [← HLM.out] at cmv
  go_wp2_with fail
  have hld : Calls Try.prog 48 #[.slice A Lm cap, .int .u32 nr, .int .i64 2, .int .u32 vx] w3 fun e w' => e = .returned (.int .i64 0) ∧ BW w' gb N (64 * m) A (stN s.mem na 2 vx.toNat) ∧ Chg (fun x => x = gb) w3 w' := by have h := refStore_ok HH3.out.bw cap na 2 vx.toNat HH3.out.cp (by omega) (by omega) (by rw [HNA.out]; exact HCND.out) (by omega); rw [HNN.out, HVN.out] at h; rw [HLM.out]; exact h
  refine hld.mono ?_; rintro e w3s ⟨rfl, hbw, hch⟩
  have hls := hch.blk HL3.out (fun e => by obtain ⟨_, f, hr, _⟩ := HH3.out.bw.row (by have := HCND.out; omega); exact ne_ty HL3.out (rowIs_arr hr) (by decide) e)
  have hhs := HH3.out.mem hbw hch
  rw [HVX.out, HNA.out] at hhs
  have hcs := (Chg.of_below (dwS gy gb) HB3.out).trans (hch.mono (T := dwS gy gb) (fun k _ e => .inr e)) (fun _ _ h => h)
  have HLS := Lib.hid hls
  have HHS := Lib.hid hhs
  have HCS := Lib.hid hcs
  clear hls hhs hcs hbw hch hld cmv hc
  have hc := rowcell HLS.out
  go_wp2_with fail
  have hov : 0 ≤ vx ∧ vx ≤ 4294967295 := rx
  have hnv : 0 ≤ nx ∧ nx ≤ 4294967295 := rn
  have HST := Lib.hid (show stepI m s 28 x y z = (setAt (setR (⟨s.R, s.at_, stN s.mem ((s.R (y % 16) + near z % 4294967296) % 4294967296).toNat 2 (s.R x).toNat⟩ : Mach) x vx) nx, 0) by rw [show setR (⟨s.R, s.at_, stN s.mem ((s.R (y % 16) + near z % 4294967296) % 4294967296).toNat 2 (s.R x).toNat⟩ : Mach) x vx = ⟨s.R, s.at_, stN s.mem ((s.R (y % 16) + near z % 4294967296) % 4294967296).toNat 2 (s.R x).toNat⟩ from by rw [HVX.out]; exact setR_same (⟨s.R, s.at_, stN s.mem ((s.R (y % 16) + near z % 4294967296) % 4294967296).toNat 2 (s.R x).toNat⟩ : Mach) x]; show (if (memI m s 28 x ((s.R (y % 16) + near z % 4294967296) % 4294967296).toNat).2 = 0 then _ else _) = _; rw [show memI m s 28 x ((s.R (y % 16) + near z % 4294967296) % 4294967296).toNat = (⟨s.R, s.at_, stN s.mem ((s.R (y % 16) + near z % 4294967296) % 4294967296).toNat 2 (s.R x).toNat⟩, 0) from by unfold memI; rw [show bytesN 28 = 2 from rfl, if_neg (Nat.not_lt.2 HCND.out), if_pos (by decide)]]; rw [HNX.out]; rfl)
  have hfm : ∀ w, Calls Try.prog 9 #[.int .i64 28] w fun e w' => e = .returned (.int .i64 4) ∧ Below w.heap.size w w' := fun w => by have h := refForm_in 28 (by omega) (by omega) w; rw [show formOf (28 : Int).toNat = 4 from by decide] at h; exact h
  refine (hfm _).mono ?_; rintro e w4 ⟨rfl, hb4⟩
  have HL4 := Lib.hid (bkeep hb4 HLS.out)
  have HH4 := Lib.hid (HHS.out.keep hb4)
  have HC4 := Lib.hid (HCS.out.trans (Chg.of_below (dwS gy gb) hb4) (fun _ _ h => h))
  clear hb4 hc hfm
  have hc := rowcell HL4.out
  have c16 := HH4.out.at_
  have fx2 : (x : Int).tmod 16 = x := by rw [Int.tmod_eq_emod_of_nonneg (by omega)]; omega
  have lx0 : (0 : Int) ≤ x := by omega
  have cx := HH4.out.reg x hx
  have fzx : w4.frozen? ⟨gy, x, none⟩ = false := HH4.out.rw.frozen _
  go_upto_region 130 with fail
  refine wp_region_still_tail 8 (by kernel_rfl) (by kernel_rfl) ?_
  simp only [List.take_succ_cons, List.take_zero, List.drop_succ_cons, List.drop_zero]
  change wpStill _ _ (World.drew w4) _ _ _
  iterate 8 still_step
  refine wpStill_nil ?_
  change wpList _ _ _ _ _ (World.drew w4)
  go_upto_region 131 with fail
  have hD5 : DW (World.drew (w4.setCell ⟨gy, x, none⟩ (.int .u32 vx))) gy gb N m A cap (setR (⟨s.R, s.at_, stN s.mem ((s.R (y % 16) + near z % 4294967296) % 4294967296).toNat 2 (s.R x).toNat⟩ : Mach) x vx) := (HH4.out.setR x hx _ hov.1 hov.2).keep (drewb _)
  have hC5 : Chg (dwS gy gb) w (World.drew (w4.setCell ⟨gy, x, none⟩ (.int .u32 vx))) := (HC4.out.trans (Chg.of_one (S := dwS gy gb) (one_setCell _ gy x _) (.inl rfl)) (fun _ _ h => h)).trans (Chg.of_below (dwS gy gb) (drewb _)) (fun _ _ h => h)
  generalize World.drew (w4.setCell ⟨gy, x, none⟩ (.int .u32 vx)) = w5 at *
  have HD5 := Lib.hid hD5
  have HC5 := Lib.hid hC5
  clear hD5 hC5 cx fzx hc HH4 HC4 HL4 c16
  have c16 := HD5.out.at_
  have fz16 : w5.frozen? ⟨gy, 16, none⟩ = false := HD5.out.rw.frozen _
  go_wp2_with fail
  go_ret
  refine ⟨?_, ?_, HC5.out.trans (Chg.of_one (S := dwS gy gb) (one_setCell _ gy 16 _) (.inl rfl)) (fun _ _ h => h)⟩
  · rw [HST.out]; rfl
  · rw [HST.out]; exact HD5.out.setAt _ hnv.1 hnv.2
set_option maxRecDepth 100000 in
set_option maxHeartbeats 16000000 in
theorem refStep_28b {w : World} {gy gb N m cap : Nat} {A : Option Addr} {s : Mach} (h : DW w gy gb N m A cap s) (x y z : Nat) (hx : x < 16) (hy : y ≤ 255) (hz : z ≤ 255) (hcnd : ¬ ((s.R (y % 16) + near z % 4294967296) % 4294967296).toNat + 2 ≤ 64 * m) :
    Calls Try.prog 29 #[.pointer (some ⟨gy, 0, none⟩), .agg #[.int .u8 28, .int .u8 x, .int .u8 y, .int .u8 z]] w (RefP gy gb N m A cap s 28 x y z w) := by
  have HCND := Lib.hid hcnd
  clear hcnd
  have hb1 := bnew w (.cells #[.int .u8 28, .int .u8 x, .int .u8 y, .int .u8 z] 24)
  have hl1 := heap_alloc_last w (.cells #[.int .u8 28, .int .u8 x, .int .u8 y, .int .u8 z] 24)
  have hh := h.keep hb1
  have hc := rowcell hl1
  obtain ⟨ym, zm, vx, vy, vz, va, nx, wd, sj, q4, far, sn, q8, nr, fym, lym, fzm, lzm, fx, lx, rx, ry, rz, ra, rn, fn2, rw0, fwd, rj, fq4, rf, rsn, fq8, rnr, HYM, HZM, HVX, HVY, HVZ, HNX, HWD, HSJ, HFAR, HSN, HNR, HVA, HS16, HWR, HS8, HWN, HQ4, HQ8, HVX2⟩ := stepPre h x y z hx hy hz
  have HB1 := Lib.hid hb1
  have HL1 := Lib.hid hl1
  have HH := Lib.hid hh
  clear hb1 hl1 hh h
  obtain ⟨na, hna⟩ : ∃ n, n = ((s.R (y % 16) + near z % 4294967296) % 4294967296).toNat := ⟨_, rfl⟩
  have hnn : (na : Int) = nr := by rw [hna, HNR.out, HSN.out, HVY.out, HYM.out]; exact Int.toNat_of_nonneg (by omega)
  have HNA := Lib.hid hna
  have HNN := Lib.hid hnn
  clear hna hnn
  obtain ⟨Lm, hLm⟩ : ∃ L, L = 64 * m := ⟨_, rfl⟩
  have HLM := Lib.hid hLm
  clear hLm
  have hvn : ((vx.toNat : Nat) : Int) = vx := Int.toNat_of_nonneg rx.1
  have HVN := Lib.hid hvn
  clear hvn
  go_enter Try.func29, Try.ntmps29
  go_upto_region 1 with fail
  obtain ⟨NI, hN⟩ : ∃ N, N = w.heap.size := ⟨_, rfl⟩
  rw [← hN] at hc ⊢
  have HN := Lib.hid hN
  generalize w.alloc (.cells #[.int .u8 28, .int .u8 x, .int .u8 y, .int .u8 z] 24) = w1 at *
  clear hN hc
  have hl1 := HL1.out
  rw [← HN.out] at hl1
  have hS0 : (fun w' : World => w'.heap[NI]? = some (.cells #[.int .u8 28, .int .u8 x, .int .u8 y, .int .u8 z] 24 (0, 0))) (World.drew w1) := hl1
  have HL1' := Lib.hid hl1
  clear hl1
  refine wp_region_held (S := fun w' : World => w'.heap[NI]? = some (.cells #[.int .u8 28, .int .u8 x, .int .u8 y, .int .u8 z] 24 (0, 0))) (by kernel_rfl) ?_
  change wpAnyH _ _ _ _ _ _ _ _ (World.drew _)
  refine takeH 1 (.pointer (some ⟨NI, 0, none⟩)) (some 28) rfl rfl (by kernel_rfl) (by kernel_rfl) (by kernel_rfl) (fun _ _ _ h => h) (.inl ⟨by kernel_rfl, fun w _ => by go_simp⟩) hS0 ?_
  refine takeH 2 (.int .u8 28) (some 29) rfl rfl (by kernel_rfl) (by kernel_rfl) (by kernel_rfl) (fun _ _ _ h => h) (.inl ⟨by kernel_rfl, fun w hw => by have hc := rowcell hw; go_simp⟩) hS0 ?_
  refine callH 0 rfl (by kernel_rfl) (by kernel_rfl) (some 27) rfl 22 #[] ?hrun ((refNames_any _).mono ?_)
  case hrun => go_simp
  rintro e w2 ⟨he, hw2⟩
  have hG : w2.heap[w1.heap.size]? = some (.cells nameVals 9) := by rw [← hw2]; exact heap_alloc_last w1.drew _
  have hb2 : Below w1.heap.size w1 w2 := by rw [← hw2]; exact bnext (drewb w1) (bnew w1.drew _)
  have hS2 := bkeep hb2 HL1'.out
  have C5 := rowcell hG
  have hsz : w1.drew.heap.size = w1.heap.size := rfl
  rw [hsz] at he
  obtain ⟨G, hGG⟩ : ∃ G, G = w1.heap.size := ⟨_, rfl⟩
  rw [← hGG] at he C5
  have HB2 := Lib.hid hb2
  clear hw2 hG hb2 hsz hS0 hGG
  refine ⟨_, he, hS2, ?_⟩
  have C6 : w2.cell? ⟨G, 28, none⟩ = some (.string ⟨#[115, 104]⟩) := by rw [C5]; rfl
  clear C5
  refine runH 3 (.pointer (some ⟨G, 28, none⟩)) (some 30) rfl (by kernel_rfl) (by kernel_rfl) rfl (by go_simp) hS2 ?_
  refine runH 4 (.string ⟨#[115, 104]⟩) (some 31) rfl (by kernel_rfl) (by kernel_rfl) rfl (by go_simp) hS2 ?_
  refine runH 5 (.string ⟨#[115, 104]⟩) (some 5) rfl (by kernel_rfl) (by kernel_rfl) rfl (by go_simp) hS2 ?_
  refine wpAnyH_done (by kernel_rfl) ?_ _
  go_simp
  have HL2 := Lib.hid hS2
  have HH2 := Lib.hid (HH.out.keep HB2.out)
  have HBB := Lib.hid (bnext HB1.out HB2.out)
  clear C6 hS2 HL1' he HH HL1 HB1
  have hc := rowcell HL2.out
  have c16 := HH2.out.at_
  rw [← HVA.out] at c16
  have cx := HH2.out.reg x hx
  rw [← HVX.out] at cx
  have cy := HH2.out.reg ym (by omega)
  rw [← HVY.out] at cy
  have cz := HH2.out.reg zm (by omega)
  rw [← HVZ.out] at cz
  go_wp2_with fail
  refine (HS16.out _).mono ?_; rintro e wx ⟨rfl, hwx⟩; subst hwx
  go_wp2_with fail
  refine (HWR.out _).mono ?_; rintro e wx ⟨rfl, hwx⟩; subst hwx
  go_upto_region 5 with fail
  go_quiet (fail)
  go_upto_region 6 with fail
  go_quiet (fail)
  go_upto_region 7 with fail
  go_quiet (fail)
  go_wp2_with fail
  refine (HS8.out _).mono ?_; rintro e w3 ⟨rfl, hw3⟩
  have hb3 : Below w2.heap.size w2 w3 := by rw [← hw3]; exact bdrewN (Below.refl _ _) _
  clear hw3 hc c16 cx cy cz
  have HL3 := Lib.hid (bkeep hb3 HL2.out)
  have HH3 := Lib.hid (HH2.out.keep hb3)
  have HB3 := Lib.hid (bnext HBB.out hb3)
  clear hb3 HL2 HH2 HBB
  go_wp2_with fail
  refine (HWN.out _).mono ?_; rintro e wx ⟨rfl, hwx⟩; subst hwx
  have hc := rowcell HL3.out
  have cmv := HH3.out.mv
  rw [← HLM.out] at cmv
  go_wp2_with fail
  have hld : Calls Try.prog 48 #[.slice A Lm cap, .int .u32 nr, .int .i64 2, .int .u32 vx] w3 fun e w' => e = .returned (.int .i64 20) ∧ w3 = w' := by have h := refStore_no (w := w3) A Lm cap na 2 vx (by rw [HLM.out]; exact HH3.out.bw.l4) (by have := HNN.out; omega) (by omega) (by rw [HLM.out, HNA.out]; exact Nat.lt_of_not_le HCND.out); rw [HNN.out] at h; exact h
  refine hld.mono ?_; rintro e wx ⟨rfl, hwx⟩; subst hwx
  clear hld cmv
  go_wp2_with fail
  have HST := Lib.hid (show stepI m s 28 x y z = (s, 20) by show (if (memI m s 28 x ((s.R (y % 16) + near z % 4294967296) % 4294967296).toNat).2 = 0 then _ else _) = _; rw [show memI m s 28 x ((s.R (y % 16) + near z % 4294967296) % 4294967296).toNat = (s, 20) from by unfold memI; rw [show bytesN 28 = 2 from rfl, if_pos (Nat.lt_of_not_le HCND.out)]]; rfl)
  go_ret
  refine ⟨?_, ?_, Chg.of_below (dwS gy gb) HB3.out⟩
  · rw [HST.out]; rfl
  · rw [HST.out]; exact HH3.out
set_option maxRecDepth 100000 in
set_option maxHeartbeats 16000000 in
theorem refStep_5 {w : World} {gy gb N m cap : Nat} {A : Option Addr} {s : Mach} (h : DW w gy gb N m A cap s) (x y z : Nat) (hx : x < 16) (hy : y ≤ 255) (hz : z ≤ 255) :
    Calls Try.prog 29 #[.pointer (some ⟨gy, 0, none⟩), .agg #[.int .u8 5, .int .u8 x, .int .u8 y, .int .u8 z]] w (RefP gy gb N m A cap s 5 x y z w) := by
  have hb1 := bnew w (.cells #[.int .u8 5, .int .u8 x, .int .u8 y, .int .u8 z] 24)
  have hl1 := heap_alloc_last w (.cells #[.int .u8 5, .int .u8 x, .int .u8 y, .int .u8 z] 24)
  have hh := h.keep hb1
  have hc := rowcell hl1
  obtain ⟨ym, zm, vx, vy, vz, va, nx, wd, sj, q4, far, sn, q8, nr, fym, lym, fzm, lzm, fx, lx, rx, ry, rz, ra, rn, fn2, rw0, fwd, rj, fq4, rf, rsn, fq8, rnr, HYM, HZM, HVX, HVY, HVZ, HNX, HWD, HSJ, HFAR, HSN, HNR, HVA, HS16, HWR, HS8, HWN, HQ4, HQ8, HVX2⟩ := stepPre h x y z hx hy hz
  have HB1 := Lib.hid hb1
  have HL1 := Lib.hid hl1
  have HH := Lib.hid hh
  clear hb1 hl1 hh h
  obtain ⟨ov, hov⟩ : ∃ k, k = (vy + vz) % 4294967296 := ⟨_, rfl⟩
  have HOV := Lib.hid hov
  obtain ⟨qa, hqa⟩ : ∃ k, k = vy + vz := ⟨_, rfl⟩
  have HQA := Lib.hid hqa
  have fqa : vy + vz = qa := hqa.symm
  have HWA := Lib.hid (fun w => by have h := refWrap_any (qa) (by omega) (by omega) w; rw [show (qa) % 4294967296 = ov from by omega] at h; exact h)
  have bov : 0 ≤ ov ∧ ov ≤ 4294967295 := by omega
  clear hov hqa
  go_enter Try.func29, Try.ntmps29
  go_upto_region 1 with fail
  obtain ⟨NI, hN⟩ : ∃ N, N = w.heap.size := ⟨_, rfl⟩
  rw [← hN] at hc ⊢
  have HN := Lib.hid hN
  generalize w.alloc (.cells #[.int .u8 5, .int .u8 x, .int .u8 y, .int .u8 z] 24) = w1 at *
  clear hN hc
  have hl1 := HL1.out
  rw [← HN.out] at hl1
  have hS0 : (fun w' : World => w'.heap[NI]? = some (.cells #[.int .u8 5, .int .u8 x, .int .u8 y, .int .u8 z] 24 (0, 0))) (World.drew w1) := hl1
  have HL1' := Lib.hid hl1
  clear hl1
  refine wp_region_held (S := fun w' : World => w'.heap[NI]? = some (.cells #[.int .u8 5, .int .u8 x, .int .u8 y, .int .u8 z] 24 (0, 0))) (by kernel_rfl) ?_
  change wpAnyH _ _ _ _ _ _ _ _ (World.drew _)
  refine takeH 1 (.pointer (some ⟨NI, 0, none⟩)) (some 28) rfl rfl (by kernel_rfl) (by kernel_rfl) (by kernel_rfl) (fun _ _ _ h => h) (.inl ⟨by kernel_rfl, fun w _ => by go_simp⟩) hS0 ?_
  refine takeH 2 (.int .u8 5) (some 29) rfl rfl (by kernel_rfl) (by kernel_rfl) (by kernel_rfl) (fun _ _ _ h => h) (.inl ⟨by kernel_rfl, fun w hw => by have hc := rowcell hw; go_simp⟩) hS0 ?_
  refine callH 0 rfl (by kernel_rfl) (by kernel_rfl) (some 27) rfl 22 #[] ?hrun ((refNames_any _).mono ?_)
  case hrun => go_simp
  rintro e w2 ⟨he, hw2⟩
  have hG : w2.heap[w1.heap.size]? = some (.cells nameVals 9) := by rw [← hw2]; exact heap_alloc_last w1.drew _
  have hb2 : Below w1.heap.size w1 w2 := by rw [← hw2]; exact bnext (drewb w1) (bnew w1.drew _)
  have hS2 := bkeep hb2 HL1'.out
  have C5 := rowcell hG
  have hsz : w1.drew.heap.size = w1.heap.size := rfl
  rw [hsz] at he
  obtain ⟨G, hGG⟩ : ∃ G, G = w1.heap.size := ⟨_, rfl⟩
  rw [← hGG] at he C5
  have HB2 := Lib.hid hb2
  clear hw2 hG hb2 hsz hS0 hGG
  refine ⟨_, he, hS2, ?_⟩
  have C6 : w2.cell? ⟨G, 5, none⟩ = some (.string ⟨#[97, 100, 100]⟩) := by rw [C5]; rfl
  clear C5
  refine runH 3 (.pointer (some ⟨G, 5, none⟩)) (some 30) rfl (by kernel_rfl) (by kernel_rfl) rfl (by go_simp) hS2 ?_
  refine runH 4 (.string ⟨#[97, 100, 100]⟩) (some 31) rfl (by kernel_rfl) (by kernel_rfl) rfl (by go_simp) hS2 ?_
  refine runH 5 (.string ⟨#[97, 100, 100]⟩) (some 5) rfl (by kernel_rfl) (by kernel_rfl) rfl (by go_simp) hS2 ?_
  refine wpAnyH_done (by kernel_rfl) ?_ _
  go_simp
  have HL2 := Lib.hid hS2
  have HH2 := Lib.hid (HH.out.keep HB2.out)
  have HBB := Lib.hid (bnext HB1.out HB2.out)
  clear C6 hS2 HL1' he HH HL1 HB1
  have hc := rowcell HL2.out
  have c16 := HH2.out.at_
  rw [← HVA.out] at c16
  have cx := HH2.out.reg x hx
  rw [← HVX.out] at cx
  have cy := HH2.out.reg ym (by omega)
  rw [← HVY.out] at cy
  have cz := HH2.out.reg zm (by omega)
  rw [← HVZ.out] at cz
  go_wp2_with fail
  refine (HS16.out _).mono ?_; rintro e wx ⟨rfl, hwx⟩; subst hwx
  go_wp2_with fail
  refine (HWR.out _).mono ?_; rintro e wx ⟨rfl, hwx⟩; subst hwx
  go_upto_region 5 with fail
  go_quiet (fail)
  go_upto_region 6 with fail
  go_quiet (fail)
  go_upto_region 7 with fail
  go_quiet (fail)
  go_wp2_with fail
  refine (HS8.out _).mono ?_; rintro e w3 ⟨rfl, hw3⟩
  have hb3 : Below w2.heap.size w2 w3 := by rw [← hw3]; exact bdrewN (Below.refl _ _) _
  clear hw3 hc c16 cx cy cz
  have HL3 := Lib.hid (bkeep hb3 HL2.out)
  have HH3 := Lib.hid (HH2.out.keep hb3)
  have HB3 := Lib.hid (bnext HBB.out hb3)
  clear hb3 HL2 HH2 HBB
  go_wp2_with fail
  refine (HWN.out _).mono ?_; rintro e wx ⟨rfl, hwx⟩; subst hwx
  have hc := rowcell HL3.out
  go_wp2_with fail
  refine (HWA.out _).mono ?_; rintro e wx ⟨rfl, hwx⟩; subst hwx
  go_wp2_with fail
  have hov : 0 ≤ ov ∧ ov ≤ 4294967295 := bov
  have hnv : 0 ≤ nx ∧ nx ≤ 4294967295 := rn
  have HST := Lib.hid (show stepI m s 5 x y z = (setAt (setR s x ov) nx, 0) by rw [HOV.out, HVY.out, HVZ.out, HYM.out, HZM.out, HNX.out]; rfl)
  have hfm : ∀ w, Calls Try.prog 9 #[.int .i64 5] w fun e w' => e = .returned (.int .i64 3) ∧ Below w.heap.size w w' := fun w => by have h := refForm_in 5 (by omega) (by omega) w; rw [show formOf (5 : Int).toNat = 3 from by decide] at h; exact h
  refine (hfm _).mono ?_; rintro e w4 ⟨rfl, hb4⟩
  have HL4 := Lib.hid (bkeep hb4 HL3.out)
  have HH4 := Lib.hid (HH3.out.keep hb4)
  have HC4 := Lib.hid ((Chg.of_below (dwS gy gb) HB3.out).trans (Chg.of_below (dwS gy gb) hb4) (fun _ _ h => h))
  clear hb4 hc hfm
  have hc := rowcell HL4.out
  have c16 := HH4.out.at_
  have fx2 : (x : Int).tmod 16 = x := by rw [Int.tmod_eq_emod_of_nonneg (by omega)]; omega
  have lx0 : (0 : Int) ≤ x := by omega
  have cx := HH4.out.reg x hx
  have fzx : w4.frozen? ⟨gy, x, none⟩ = false := HH4.out.rw.frozen _
  go_upto_region 130 with fail
  refine wp_region_still_tail 8 (by kernel_rfl) (by kernel_rfl) ?_
  simp only [List.take_succ_cons, List.take_zero, List.drop_succ_cons, List.drop_zero]
  change wpStill _ _ (World.drew w4) _ _ _
  iterate 8 still_step
  refine wpStill_nil ?_
  change wpList _ _ _ _ _ (World.drew w4)
  go_upto_region 131 with fail
  have hD5 : DW (World.drew (w4.setCell ⟨gy, x, none⟩ (.int .u32 ov))) gy gb N m A cap (setR s x ov) := (HH4.out.setR x hx _ hov.1 hov.2).keep (drewb _)
  have hC5 : Chg (dwS gy gb) w (World.drew (w4.setCell ⟨gy, x, none⟩ (.int .u32 ov))) := (HC4.out.trans (Chg.of_one (S := dwS gy gb) (one_setCell _ gy x _) (.inl rfl)) (fun _ _ h => h)).trans (Chg.of_below (dwS gy gb) (drewb _)) (fun _ _ h => h)
  generalize World.drew (w4.setCell ⟨gy, x, none⟩ (.int .u32 ov)) = w5 at *
  have HD5 := Lib.hid hD5
  have HC5 := Lib.hid hC5
  clear hD5 hC5 cx fzx hc HH4 HC4 HL4 c16
  have c16 := HD5.out.at_
  have fz16 : w5.frozen? ⟨gy, 16, none⟩ = false := HD5.out.rw.frozen _
  go_wp2_with fail
  go_ret
  refine ⟨?_, ?_, HC5.out.trans (Chg.of_one (S := dwS gy gb) (one_setCell _ gy 16 _) (.inl rfl)) (fun _ _ h => h)⟩
  · rw [HST.out]; rfl
  · rw [HST.out]; exact HD5.out.setAt _ hnv.1 hnv.2
set_option maxRecDepth 100000 in
set_option maxHeartbeats 16000000 in
theorem refStep_6 {w : World} {gy gb N m cap : Nat} {A : Option Addr} {s : Mach} (h : DW w gy gb N m A cap s) (x y z : Nat) (hx : x < 16) (hy : y ≤ 255) (hz : z ≤ 255) :
    Calls Try.prog 29 #[.pointer (some ⟨gy, 0, none⟩), .agg #[.int .u8 6, .int .u8 x, .int .u8 y, .int .u8 z]] w (RefP gy gb N m A cap s 6 x y z w) := by
  have hb1 := bnew w (.cells #[.int .u8 6, .int .u8 x, .int .u8 y, .int .u8 z] 24)
  have hl1 := heap_alloc_last w (.cells #[.int .u8 6, .int .u8 x, .int .u8 y, .int .u8 z] 24)
  have hh := h.keep hb1
  have hc := rowcell hl1
  obtain ⟨ym, zm, vx, vy, vz, va, nx, wd, sj, q4, far, sn, q8, nr, fym, lym, fzm, lzm, fx, lx, rx, ry, rz, ra, rn, fn2, rw0, fwd, rj, fq4, rf, rsn, fq8, rnr, HYM, HZM, HVX, HVY, HVZ, HNX, HWD, HSJ, HFAR, HSN, HNR, HVA, HS16, HWR, HS8, HWN, HQ4, HQ8, HVX2⟩ := stepPre h x y z hx hy hz
  have HB1 := Lib.hid hb1
  have HL1 := Lib.hid hl1
  have HH := Lib.hid hh
  clear hb1 hl1 hh h
  obtain ⟨ov, hov⟩ : ∃ k, k = (vy - vz) % 4294967296 := ⟨_, rfl⟩
  have HOV := Lib.hid hov
  obtain ⟨qa, hqa⟩ : ∃ k, k = vy - vz := ⟨_, rfl⟩
  have HQA := Lib.hid hqa
  have fqa : vy - vz = qa := hqa.symm
  have HWA := Lib.hid (fun w => by have h := refWrap_any (qa) (by omega) (by omega) w; rw [show (qa) % 4294967296 = ov from by omega] at h; exact h)
  have bov : 0 ≤ ov ∧ ov ≤ 4294967295 := by omega
  clear hov hqa
  go_enter Try.func29, Try.ntmps29
  go_upto_region 1 with fail
  obtain ⟨NI, hN⟩ : ∃ N, N = w.heap.size := ⟨_, rfl⟩
  rw [← hN] at hc ⊢
  have HN := Lib.hid hN
  generalize w.alloc (.cells #[.int .u8 6, .int .u8 x, .int .u8 y, .int .u8 z] 24) = w1 at *
  clear hN hc
  have hl1 := HL1.out
  rw [← HN.out] at hl1
  have hS0 : (fun w' : World => w'.heap[NI]? = some (.cells #[.int .u8 6, .int .u8 x, .int .u8 y, .int .u8 z] 24 (0, 0))) (World.drew w1) := hl1
  have HL1' := Lib.hid hl1
  clear hl1
  refine wp_region_held (S := fun w' : World => w'.heap[NI]? = some (.cells #[.int .u8 6, .int .u8 x, .int .u8 y, .int .u8 z] 24 (0, 0))) (by kernel_rfl) ?_
  change wpAnyH _ _ _ _ _ _ _ _ (World.drew _)
  refine takeH 1 (.pointer (some ⟨NI, 0, none⟩)) (some 28) rfl rfl (by kernel_rfl) (by kernel_rfl) (by kernel_rfl) (fun _ _ _ h => h) (.inl ⟨by kernel_rfl, fun w _ => by go_simp⟩) hS0 ?_
  refine takeH 2 (.int .u8 6) (some 29) rfl rfl (by kernel_rfl) (by kernel_rfl) (by kernel_rfl) (fun _ _ _ h => h) (.inl ⟨by kernel_rfl, fun w hw => by have hc := rowcell hw; go_simp⟩) hS0 ?_
  refine callH 0 rfl (by kernel_rfl) (by kernel_rfl) (some 27) rfl 22 #[] ?hrun ((refNames_any _).mono ?_)
  case hrun => go_simp
  rintro e w2 ⟨he, hw2⟩
  have hG : w2.heap[w1.heap.size]? = some (.cells nameVals 9) := by rw [← hw2]; exact heap_alloc_last w1.drew _
  have hb2 : Below w1.heap.size w1 w2 := by rw [← hw2]; exact bnext (drewb w1) (bnew w1.drew _)
  have hS2 := bkeep hb2 HL1'.out
  have C5 := rowcell hG
  have hsz : w1.drew.heap.size = w1.heap.size := rfl
  rw [hsz] at he
  obtain ⟨G, hGG⟩ : ∃ G, G = w1.heap.size := ⟨_, rfl⟩
  rw [← hGG] at he C5
  have HB2 := Lib.hid hb2
  clear hw2 hG hb2 hsz hS0 hGG
  refine ⟨_, he, hS2, ?_⟩
  have C6 : w2.cell? ⟨G, 6, none⟩ = some (.string ⟨#[115, 117, 98]⟩) := by rw [C5]; rfl
  clear C5
  refine runH 3 (.pointer (some ⟨G, 6, none⟩)) (some 30) rfl (by kernel_rfl) (by kernel_rfl) rfl (by go_simp) hS2 ?_
  refine runH 4 (.string ⟨#[115, 117, 98]⟩) (some 31) rfl (by kernel_rfl) (by kernel_rfl) rfl (by go_simp) hS2 ?_
  refine runH 5 (.string ⟨#[115, 117, 98]⟩) (some 5) rfl (by kernel_rfl) (by kernel_rfl) rfl (by go_simp) hS2 ?_
  refine wpAnyH_done (by kernel_rfl) ?_ _
  go_simp
  have HL2 := Lib.hid hS2
  have HH2 := Lib.hid (HH.out.keep HB2.out)
  have HBB := Lib.hid (bnext HB1.out HB2.out)
  clear C6 hS2 HL1' he HH HL1 HB1
  have hc := rowcell HL2.out
  have c16 := HH2.out.at_
  rw [← HVA.out] at c16
  have cx := HH2.out.reg x hx
  rw [← HVX.out] at cx
  have cy := HH2.out.reg ym (by omega)
  rw [← HVY.out] at cy
  have cz := HH2.out.reg zm (by omega)
  rw [← HVZ.out] at cz
  go_wp2_with fail
  refine (HS16.out _).mono ?_; rintro e wx ⟨rfl, hwx⟩; subst hwx
  go_wp2_with fail
  refine (HWR.out _).mono ?_; rintro e wx ⟨rfl, hwx⟩; subst hwx
  go_upto_region 5 with fail
  go_quiet (fail)
  go_upto_region 6 with fail
  go_quiet (fail)
  go_upto_region 7 with fail
  go_quiet (fail)
  go_wp2_with fail
  refine (HS8.out _).mono ?_; rintro e w3 ⟨rfl, hw3⟩
  have hb3 : Below w2.heap.size w2 w3 := by rw [← hw3]; exact bdrewN (Below.refl _ _) _
  clear hw3 hc c16 cx cy cz
  have HL3 := Lib.hid (bkeep hb3 HL2.out)
  have HH3 := Lib.hid (HH2.out.keep hb3)
  have HB3 := Lib.hid (bnext HBB.out hb3)
  clear hb3 HL2 HH2 HBB
  go_wp2_with fail
  refine (HWN.out _).mono ?_; rintro e wx ⟨rfl, hwx⟩; subst hwx
  have hc := rowcell HL3.out
  go_wp2_with fail
  refine (HWA.out _).mono ?_; rintro e wx ⟨rfl, hwx⟩; subst hwx
  go_wp2_with fail
  have hov : 0 ≤ ov ∧ ov ≤ 4294967295 := bov
  have hnv : 0 ≤ nx ∧ nx ≤ 4294967295 := rn
  have HST := Lib.hid (show stepI m s 6 x y z = (setAt (setR s x ov) nx, 0) by rw [HOV.out, HVY.out, HVZ.out, HYM.out, HZM.out, HNX.out]; rfl)
  have hfm : ∀ w, Calls Try.prog 9 #[.int .i64 6] w fun e w' => e = .returned (.int .i64 3) ∧ Below w.heap.size w w' := fun w => by have h := refForm_in 6 (by omega) (by omega) w; rw [show formOf (6 : Int).toNat = 3 from by decide] at h; exact h
  refine (hfm _).mono ?_; rintro e w4 ⟨rfl, hb4⟩
  have HL4 := Lib.hid (bkeep hb4 HL3.out)
  have HH4 := Lib.hid (HH3.out.keep hb4)
  have HC4 := Lib.hid ((Chg.of_below (dwS gy gb) HB3.out).trans (Chg.of_below (dwS gy gb) hb4) (fun _ _ h => h))
  clear hb4 hc hfm
  have hc := rowcell HL4.out
  have c16 := HH4.out.at_
  have fx2 : (x : Int).tmod 16 = x := by rw [Int.tmod_eq_emod_of_nonneg (by omega)]; omega
  have lx0 : (0 : Int) ≤ x := by omega
  have cx := HH4.out.reg x hx
  have fzx : w4.frozen? ⟨gy, x, none⟩ = false := HH4.out.rw.frozen _
  go_upto_region 130 with fail
  refine wp_region_still_tail 8 (by kernel_rfl) (by kernel_rfl) ?_
  simp only [List.take_succ_cons, List.take_zero, List.drop_succ_cons, List.drop_zero]
  change wpStill _ _ (World.drew w4) _ _ _
  iterate 8 still_step
  refine wpStill_nil ?_
  change wpList _ _ _ _ _ (World.drew w4)
  go_upto_region 131 with fail
  have hD5 : DW (World.drew (w4.setCell ⟨gy, x, none⟩ (.int .u32 ov))) gy gb N m A cap (setR s x ov) := (HH4.out.setR x hx _ hov.1 hov.2).keep (drewb _)
  have hC5 : Chg (dwS gy gb) w (World.drew (w4.setCell ⟨gy, x, none⟩ (.int .u32 ov))) := (HC4.out.trans (Chg.of_one (S := dwS gy gb) (one_setCell _ gy x _) (.inl rfl)) (fun _ _ h => h)).trans (Chg.of_below (dwS gy gb) (drewb _)) (fun _ _ h => h)
  generalize World.drew (w4.setCell ⟨gy, x, none⟩ (.int .u32 ov)) = w5 at *
  have HD5 := Lib.hid hD5
  have HC5 := Lib.hid hC5
  clear hD5 hC5 cx fzx hc HH4 HC4 HL4 c16
  have c16 := HD5.out.at_
  have fz16 : w5.frozen? ⟨gy, 16, none⟩ = false := HD5.out.rw.frozen _
  go_wp2_with fail
  go_ret
  refine ⟨?_, ?_, HC5.out.trans (Chg.of_one (S := dwS gy gb) (one_setCell _ gy 16 _) (.inl rfl)) (fun _ _ h => h)⟩
  · rw [HST.out]; rfl
  · rw [HST.out]; exact HD5.out.setAt _ hnv.1 hnv.2
set_option maxRecDepth 100000 in
set_option maxHeartbeats 16000000 in
theorem refStep_7 {w : World} {gy gb N m cap : Nat} {A : Option Addr} {s : Mach} (h : DW w gy gb N m A cap s) (x y z : Nat) (hx : x < 16) (hy : y ≤ 255) (hz : z ≤ 255) :
    Calls Try.prog 29 #[.pointer (some ⟨gy, 0, none⟩), .agg #[.int .u8 7, .int .u8 x, .int .u8 y, .int .u8 z]] w (RefP gy gb N m A cap s 7 x y z w) := by
  have hb1 := bnew w (.cells #[.int .u8 7, .int .u8 x, .int .u8 y, .int .u8 z] 24)
  have hl1 := heap_alloc_last w (.cells #[.int .u8 7, .int .u8 x, .int .u8 y, .int .u8 z] 24)
  have hh := h.keep hb1
  have hc := rowcell hl1
  obtain ⟨ym, zm, vx, vy, vz, va, nx, wd, sj, q4, far, sn, q8, nr, fym, lym, fzm, lzm, fx, lx, rx, ry, rz, ra, rn, fn2, rw0, fwd, rj, fq4, rf, rsn, fq8, rnr, HYM, HZM, HVX, HVY, HVZ, HNX, HWD, HSJ, HFAR, HSN, HNR, HVA, HS16, HWR, HS8, HWN, HQ4, HQ8, HVX2⟩ := stepPre h x y z hx hy hz
  have HB1 := Lib.hid hb1
  have HL1 := Lib.hid hl1
  have HH := Lib.hid hh
  clear hb1 hl1 hh h
  obtain ⟨pr, hpr⟩ : ∃ k, k = vy * vz := ⟨_, rfl⟩
  have HPR := Lib.hid hpr
  have bpr := mul_b vy vz 4294967295 4294967295 ry.1 ry.2 rz.1 rz.2
  rw [← hpr] at bpr
  have fpr : vy * vz = pr := hpr.symm
  clear hpr
  obtain ⟨ov, hov⟩ : ∃ k, k = pr % 4294967296 := ⟨_, rfl⟩
  have HOV := Lib.hid hov
  have bov : 0 ≤ ov ∧ ov ≤ 4294967295 := by omega
  have fw : IntKind.u64.wrap pr = pr := by simp [IntKind.wrap, IntKind.bits, IntKind.signed]; omega
  have ft : pr.tmod 4294967296 = ov := by rw [Int.tmod_eq_emod_of_nonneg bpr.1]; exact hov.symm
  have fo : ov % 4294967296 = ov := by omega
  clear hov
  go_enter Try.func29, Try.ntmps29
  go_upto_region 1 with fail
  obtain ⟨NI, hN⟩ : ∃ N, N = w.heap.size := ⟨_, rfl⟩
  rw [← hN] at hc ⊢
  have HN := Lib.hid hN
  generalize w.alloc (.cells #[.int .u8 7, .int .u8 x, .int .u8 y, .int .u8 z] 24) = w1 at *
  clear hN hc
  have hl1 := HL1.out
  rw [← HN.out] at hl1
  have hS0 : (fun w' : World => w'.heap[NI]? = some (.cells #[.int .u8 7, .int .u8 x, .int .u8 y, .int .u8 z] 24 (0, 0))) (World.drew w1) := hl1
  have HL1' := Lib.hid hl1
  clear hl1
  refine wp_region_held (S := fun w' : World => w'.heap[NI]? = some (.cells #[.int .u8 7, .int .u8 x, .int .u8 y, .int .u8 z] 24 (0, 0))) (by kernel_rfl) ?_
  change wpAnyH _ _ _ _ _ _ _ _ (World.drew _)
  refine takeH 1 (.pointer (some ⟨NI, 0, none⟩)) (some 28) rfl rfl (by kernel_rfl) (by kernel_rfl) (by kernel_rfl) (fun _ _ _ h => h) (.inl ⟨by kernel_rfl, fun w _ => by go_simp⟩) hS0 ?_
  refine takeH 2 (.int .u8 7) (some 29) rfl rfl (by kernel_rfl) (by kernel_rfl) (by kernel_rfl) (fun _ _ _ h => h) (.inl ⟨by kernel_rfl, fun w hw => by have hc := rowcell hw; go_simp⟩) hS0 ?_
  refine callH 0 rfl (by kernel_rfl) (by kernel_rfl) (some 27) rfl 22 #[] ?hrun ((refNames_any _).mono ?_)
  case hrun => go_simp
  rintro e w2 ⟨he, hw2⟩
  have hG : w2.heap[w1.heap.size]? = some (.cells nameVals 9) := by rw [← hw2]; exact heap_alloc_last w1.drew _
  have hb2 : Below w1.heap.size w1 w2 := by rw [← hw2]; exact bnext (drewb w1) (bnew w1.drew _)
  have hS2 := bkeep hb2 HL1'.out
  have C5 := rowcell hG
  have hsz : w1.drew.heap.size = w1.heap.size := rfl
  rw [hsz] at he
  obtain ⟨G, hGG⟩ : ∃ G, G = w1.heap.size := ⟨_, rfl⟩
  rw [← hGG] at he C5
  have HB2 := Lib.hid hb2
  clear hw2 hG hb2 hsz hS0 hGG
  refine ⟨_, he, hS2, ?_⟩
  have C6 : w2.cell? ⟨G, 7, none⟩ = some (.string ⟨#[109, 117, 108]⟩) := by rw [C5]; rfl
  clear C5
  refine runH 3 (.pointer (some ⟨G, 7, none⟩)) (some 30) rfl (by kernel_rfl) (by kernel_rfl) rfl (by go_simp) hS2 ?_
  refine runH 4 (.string ⟨#[109, 117, 108]⟩) (some 31) rfl (by kernel_rfl) (by kernel_rfl) rfl (by go_simp) hS2 ?_
  refine runH 5 (.string ⟨#[109, 117, 108]⟩) (some 5) rfl (by kernel_rfl) (by kernel_rfl) rfl (by go_simp) hS2 ?_
  refine wpAnyH_done (by kernel_rfl) ?_ _
  go_simp
  have HL2 := Lib.hid hS2
  have HH2 := Lib.hid (HH.out.keep HB2.out)
  have HBB := Lib.hid (bnext HB1.out HB2.out)
  clear C6 hS2 HL1' he HH HL1 HB1
  have hc := rowcell HL2.out
  have c16 := HH2.out.at_
  rw [← HVA.out] at c16
  have cx := HH2.out.reg x hx
  rw [← HVX.out] at cx
  have cy := HH2.out.reg ym (by omega)
  rw [← HVY.out] at cy
  have cz := HH2.out.reg zm (by omega)
  rw [← HVZ.out] at cz
  go_wp2_with fail
  refine (HS16.out _).mono ?_; rintro e wx ⟨rfl, hwx⟩; subst hwx
  go_wp2_with fail
  refine (HWR.out _).mono ?_; rintro e wx ⟨rfl, hwx⟩; subst hwx
  go_upto_region 5 with fail
  go_quiet (fail)
  go_upto_region 6 with fail
  go_quiet (fail)
  go_upto_region 7 with fail
  go_quiet (fail)
  go_wp2_with fail
  refine (HS8.out _).mono ?_; rintro e w3 ⟨rfl, hw3⟩
  have hb3 : Below w2.heap.size w2 w3 := by rw [← hw3]; exact bdrewN (Below.refl _ _) _
  clear hw3 hc c16 cx cy cz
  have HL3 := Lib.hid (bkeep hb3 HL2.out)
  have HH3 := Lib.hid (HH2.out.keep hb3)
  have HB3 := Lib.hid (bnext HBB.out hb3)
  clear hb3 HL2 HH2 HBB
  go_wp2_with fail
  refine (HWN.out _).mono ?_; rintro e wx ⟨rfl, hwx⟩; subst hwx
  have hc := rowcell HL3.out
  go_wp2_with fail
  have hov : 0 ≤ ov ∧ ov ≤ 4294967295 := bov
  have hnv : 0 ≤ nx ∧ nx ≤ 4294967295 := rn
  have HST := Lib.hid (show stepI m s 7 x y z = (setAt (setR s x ov) nx, 0) by rw [HOV.out, HPR.out, HVY.out, HVZ.out, HYM.out, HZM.out, HNX.out]; rfl)
  have hfm : ∀ w, Calls Try.prog 9 #[.int .i64 7] w fun e w' => e = .returned (.int .i64 3) ∧ Below w.heap.size w w' := fun w => by have h := refForm_in 7 (by omega) (by omega) w; rw [show formOf (7 : Int).toNat = 3 from by decide] at h; exact h
  refine (hfm _).mono ?_; rintro e w4 ⟨rfl, hb4⟩
  have HL4 := Lib.hid (bkeep hb4 HL3.out)
  have HH4 := Lib.hid (HH3.out.keep hb4)
  have HC4 := Lib.hid ((Chg.of_below (dwS gy gb) HB3.out).trans (Chg.of_below (dwS gy gb) hb4) (fun _ _ h => h))
  clear hb4 hc hfm
  have hc := rowcell HL4.out
  have c16 := HH4.out.at_
  have fx2 : (x : Int).tmod 16 = x := by rw [Int.tmod_eq_emod_of_nonneg (by omega)]; omega
  have lx0 : (0 : Int) ≤ x := by omega
  have cx := HH4.out.reg x hx
  have fzx : w4.frozen? ⟨gy, x, none⟩ = false := HH4.out.rw.frozen _
  go_upto_region 130 with fail
  refine wp_region_still_tail 8 (by kernel_rfl) (by kernel_rfl) ?_
  simp only [List.take_succ_cons, List.take_zero, List.drop_succ_cons, List.drop_zero]
  change wpStill _ _ (World.drew w4) _ _ _
  iterate 8 still_step
  refine wpStill_nil ?_
  change wpList _ _ _ _ _ (World.drew w4)
  go_upto_region 131 with fail
  have hD5 : DW (World.drew (w4.setCell ⟨gy, x, none⟩ (.int .u32 ov))) gy gb N m A cap (setR s x ov) := (HH4.out.setR x hx _ hov.1 hov.2).keep (drewb _)
  have hC5 : Chg (dwS gy gb) w (World.drew (w4.setCell ⟨gy, x, none⟩ (.int .u32 ov))) := (HC4.out.trans (Chg.of_one (S := dwS gy gb) (one_setCell _ gy x _) (.inl rfl)) (fun _ _ h => h)).trans (Chg.of_below (dwS gy gb) (drewb _)) (fun _ _ h => h)
  generalize World.drew (w4.setCell ⟨gy, x, none⟩ (.int .u32 ov)) = w5 at *
  have HD5 := Lib.hid hD5
  have HC5 := Lib.hid hC5
  clear hD5 hC5 cx fzx hc HH4 HC4 HL4 c16
  have c16 := HD5.out.at_
  have fz16 : w5.frozen? ⟨gy, 16, none⟩ = false := HD5.out.rw.frozen _
  go_wp2_with fail
  go_ret
  refine ⟨?_, ?_, HC5.out.trans (Chg.of_one (S := dwS gy gb) (one_setCell _ gy 16 _) (.inl rfl)) (fun _ _ h => h)⟩
  · rw [HST.out]; rfl
  · rw [HST.out]; exact HD5.out.setAt _ hnv.1 hnv.2
set_option maxRecDepth 100000 in
set_option maxHeartbeats 16000000 in
theorem refStep_37 {w : World} {gy gb N m cap : Nat} {A : Option Addr} {s : Mach} (h : DW w gy gb N m A cap s) (x y z : Nat) (hx : x < 16) (hy : y ≤ 255) (hz : z ≤ 255) :
    Calls Try.prog 29 #[.pointer (some ⟨gy, 0, none⟩), .agg #[.int .u8 37, .int .u8 x, .int .u8 y, .int .u8 z]] w (RefP gy gb N m A cap s 37 x y z w) := by
  have hb1 := bnew w (.cells #[.int .u8 37, .int .u8 x, .int .u8 y, .int .u8 z] 24)
  have hl1 := heap_alloc_last w (.cells #[.int .u8 37, .int .u8 x, .int .u8 y, .int .u8 z] 24)
  have hh := h.keep hb1
  have hc := rowcell hl1
  obtain ⟨ym, zm, vx, vy, vz, va, nx, wd, sj, q4, far, sn, q8, nr, fym, lym, fzm, lzm, fx, lx, rx, ry, rz, ra, rn, fn2, rw0, fwd, rj, fq4, rf, rsn, fq8, rnr, HYM, HZM, HVX, HVY, HVZ, HNX, HWD, HSJ, HFAR, HSN, HNR, HVA, HS16, HWR, HS8, HWN, HQ4, HQ8, HVX2⟩ := stepPre h x y z hx hy hz
  have HB1 := Lib.hid hb1
  have HL1 := Lib.hid hl1
  have HH := Lib.hid hh
  clear hb1 hl1 hh h
  obtain ⟨ny, hny⟩ : ∃ n : Nat, (n : Int) = vy := ⟨vy.toNat, Int.toNat_of_nonneg ry.1⟩
  have HNY := Lib.hid hny
  have bny : ny < 4294967296 := by omega
  clear hny
  go_enter Try.func29, Try.ntmps29
  go_upto_region 1 with fail
  obtain ⟨NI, hN⟩ : ∃ N, N = w.heap.size := ⟨_, rfl⟩
  rw [← hN] at hc ⊢
  have HN := Lib.hid hN
  generalize w.alloc (.cells #[.int .u8 37, .int .u8 x, .int .u8 y, .int .u8 z] 24) = w1 at *
  clear hN hc
  have hl1 := HL1.out
  rw [← HN.out] at hl1
  have hS0 : (fun w' : World => w'.heap[NI]? = some (.cells #[.int .u8 37, .int .u8 x, .int .u8 y, .int .u8 z] 24 (0, 0))) (World.drew w1) := hl1
  have HL1' := Lib.hid hl1
  clear hl1
  refine wp_region_held (S := fun w' : World => w'.heap[NI]? = some (.cells #[.int .u8 37, .int .u8 x, .int .u8 y, .int .u8 z] 24 (0, 0))) (by kernel_rfl) ?_
  change wpAnyH _ _ _ _ _ _ _ _ (World.drew _)
  refine takeH 1 (.pointer (some ⟨NI, 0, none⟩)) (some 28) rfl rfl (by kernel_rfl) (by kernel_rfl) (by kernel_rfl) (fun _ _ _ h => h) (.inl ⟨by kernel_rfl, fun w _ => by go_simp⟩) hS0 ?_
  refine takeH 2 (.int .u8 37) (some 29) rfl rfl (by kernel_rfl) (by kernel_rfl) (by kernel_rfl) (fun _ _ _ h => h) (.inl ⟨by kernel_rfl, fun w hw => by have hc := rowcell hw; go_simp⟩) hS0 ?_
  refine callH 0 rfl (by kernel_rfl) (by kernel_rfl) (some 27) rfl 22 #[] ?hrun ((refNames_any _).mono ?_)
  case hrun => go_simp
  rintro e w2 ⟨he, hw2⟩
  have hG : w2.heap[w1.heap.size]? = some (.cells nameVals 9) := by rw [← hw2]; exact heap_alloc_last w1.drew _
  have hb2 : Below w1.heap.size w1 w2 := by rw [← hw2]; exact bnext (drewb w1) (bnew w1.drew _)
  have hS2 := bkeep hb2 HL1'.out
  have C5 := rowcell hG
  have hsz : w1.drew.heap.size = w1.heap.size := rfl
  rw [hsz] at he
  obtain ⟨G, hGG⟩ : ∃ G, G = w1.heap.size := ⟨_, rfl⟩
  rw [← hGG] at he C5
  have HB2 := Lib.hid hb2
  clear hw2 hG hb2 hsz hS0 hGG
  refine ⟨_, he, hS2, ?_⟩
  have C6 : w2.cell? ⟨G, 37, none⟩ = some (.string ⟨#[99, 108, 122]⟩) := by rw [C5]; rfl
  clear C5
  refine runH 3 (.pointer (some ⟨G, 37, none⟩)) (some 30) rfl (by kernel_rfl) (by kernel_rfl) rfl (by go_simp) hS2 ?_
  refine runH 4 (.string ⟨#[99, 108, 122]⟩) (some 31) rfl (by kernel_rfl) (by kernel_rfl) rfl (by go_simp) hS2 ?_
  refine runH 5 (.string ⟨#[99, 108, 122]⟩) (some 5) rfl (by kernel_rfl) (by kernel_rfl) rfl (by go_simp) hS2 ?_
  refine wpAnyH_done (by kernel_rfl) ?_ _
  go_simp
  have HL2 := Lib.hid hS2
  have HH2 := Lib.hid (HH.out.keep HB2.out)
  have HBB := Lib.hid (bnext HB1.out HB2.out)
  clear C6 hS2 HL1' he HH HL1 HB1
  have hc := rowcell HL2.out
  have c16 := HH2.out.at_
  rw [← HVA.out] at c16
  have cx := HH2.out.reg x hx
  rw [← HVX.out] at cx
  have cy := HH2.out.reg ym (by omega)
  rw [← HVY.out] at cy
  have cz := HH2.out.reg zm (by omega)
  rw [← HVZ.out] at cz
  go_wp2_with fail
  refine (HS16.out _).mono ?_; rintro e wx ⟨rfl, hwx⟩; subst hwx
  go_wp2_with fail
  refine (HWR.out _).mono ?_; rintro e wx ⟨rfl, hwx⟩; subst hwx
  go_upto_region 5 with fail
  go_quiet (fail)
  go_upto_region 6 with fail
  go_quiet (fail)
  go_upto_region 7 with fail
  go_quiet (fail)
  go_wp2_with fail
  refine (HS8.out _).mono ?_; rintro e w3 ⟨rfl, hw3⟩
  have hb3 : Below w2.heap.size w2 w3 := by rw [← hw3]; exact bdrewN (Below.refl _ _) _
  clear hw3 hc c16 cx cy cz
  have HL3 := Lib.hid (bkeep hb3 HL2.out)
  have HH3 := Lib.hid (HH2.out.keep hb3)
  have HB3 := Lib.hid (bnext HBB.out hb3)
  clear hb3 HL2 HH2 HBB
  go_wp2_with fail
  refine (HWN.out _).mono ?_; rintro e wx ⟨rfl, hwx⟩; subst hwx
  have hc := rowcell HL3.out
  go_wp2_with fail
  go_loopw [13] (fun s13 wr => ∃ c : Nat, c ≤ 32 ∧ s13 = .int .u32 c ∧ ny < 2 ^ (32 - c) ∧ wr = w3) (fun s13 _ => 32 - (intOf s13).toNat)
  case atStart => exact ⟨0, by omega, rfl, bny, rfl⟩
  case round =>
    obtain ⟨c, hc32, rfl, hlt, rfl⟩ := hrel
    have HLT := Lib.hid hlt
    clear hlt
    by_cases c0 : c < 32
    · have c1 : (c : Int) < 32 := by omega
      obtain ⟨e, he⟩ : ∃ e, e = 31 - c := ⟨_, rfl⟩
      have fe : (31 : Int) - (c : Int) = e := by omega
      obtain ⟨t, ht⟩ : ∃ t, t = ny / 2 ^ e := ⟨_, rfl⟩
      have f1 : vy / 2 ^ e = t := by rw [ht, ← HNY.out]; simp
      have ht2 : t < 2 := by
        rw [ht]
        refine Nat.div_lt_of_lt_mul ?_
        have h := HLT.out
        rw [show 32 - c = e + 1 by omega, Nat.pow_succ] at h
        exact h
      have HT := Lib.hid ht
      have HE := Lib.hid he
      clear ht he
      rcases (show t = 0 ∨ t = 1 by omega) with rfl | rfl
      · have f2 : ((0 : Nat) : Int) % 2 = 0 := by decide
        go_wp2_with fail
        go_roundw
        case rel =>
          refine ⟨c + 1, by omega, by go_num, ?_, by trivial⟩
          have h := HT.out
          have h2 := (Nat.div_eq_zero_iff).1 h.symm
          rw [show 32 - (c + 1) = e by have := HE.out; omega]
          rcases h2 with h2 | h2
          · exact absurd h2 (Nat.ne_of_gt (Nat.two_pow_pos e))
          · exact h2
        case measure => (simp [intOf]; try omega)
      · go_wp2_with fail
        have hbl : Lib.bitLen ny = 32 - c := bitLen_is ny (32 - c) HLT.out (.inr (by
          have h := HT.out
          have h2 := Nat.div_mul_le_self ny (2 ^ e)
          rw [← h, Nat.one_mul] at h2
          rw [show 32 - c - 1 = e by have := HE.out; omega]
          exact h2)) (by omega)
        have hov : 0 ≤ (c : Int) ∧ (c : Int) ≤ 4294967295 := by omega
        have hnv := rn
        have HST := Lib.hid (show stepI m s 37 x y z = (setAt (setR s x (c : Int)) nx, 0) by rw [show (c : Int) = 32 - lenI (s.R (y % 16)) by rw [← HYM.out, ← HVY.out, ← HNY.out, lenI_bitLen ny bny, hbl]; omega, HNX.out]; rfl)
        clear hbl
        have hfm : ∀ w, Calls Try.prog 9 #[.int .i64 37] w fun e w' => e = .returned (.int .i64 2) ∧ Below w.heap.size w w' := fun w => by have h := refForm_in 37 (by omega) (by omega) w; rw [show formOf (37 : Int).toNat = 2 from by decide] at h; exact h
        refine (hfm _).mono ?_; rintro e w4 ⟨rfl, hb4⟩
        have HL4 := Lib.hid (bkeep hb4 HL3.out)
        have HH4 := Lib.hid (HH3.out.keep hb4)
        have HC4 := Lib.hid ((Chg.of_below (dwS gy gb) HB3.out).trans (Chg.of_below (dwS gy gb) hb4) (fun _ _ h => h))
        clear hb4 hc hfm
        have hc := rowcell HL4.out
        have c16 := HH4.out.at_
        have fx2 : (x : Int).tmod 16 = x := by rw [Int.tmod_eq_emod_of_nonneg (by omega)]; omega
        have lx0 : (0 : Int) ≤ x := by omega
        have cx := HH4.out.reg x hx
        have fzx : w4.frozen? ⟨gy, x, none⟩ = false := HH4.out.rw.frozen _
        go_upto_region 130 with fail
        refine wp_region_still_tail 8 (by kernel_rfl) (by kernel_rfl) ?_
        simp only [List.take_succ_cons, List.take_zero, List.drop_succ_cons, List.drop_zero]
        change wpStill _ _ (World.drew w4) _ _ _
        iterate 8 still_step
        refine wpStill_nil ?_
        change wpList _ _ _ _ _ (World.drew w4)
        go_upto_region 131 with fail
        have hD5 : DW (World.drew (w4.setCell ⟨gy, x, none⟩ (.int .u32 (c : Int)))) gy gb N m A cap (setR s x (c : Int)) := (HH4.out.setR x hx _ hov.1 hov.2).keep (drewb _)
        have hC5 : Chg (dwS gy gb) w (World.drew (w4.setCell ⟨gy, x, none⟩ (.int .u32 (c : Int)))) := (HC4.out.trans (Chg.of_one (S := dwS gy gb) (one_setCell _ gy x _) (.inl rfl)) (fun _ _ h => h)).trans (Chg.of_below (dwS gy gb) (drewb _)) (fun _ _ h => h)
        generalize World.drew (w4.setCell ⟨gy, x, none⟩ (.int .u32 (c : Int))) = w5 at *
        have HD5 := Lib.hid hD5
        have HC5 := Lib.hid hC5
        clear hD5 hC5 cx fzx hc HH4 HC4 HL4 c16
        have c16 := HD5.out.at_
        have fz16 : w5.frozen? ⟨gy, 16, none⟩ = false := HD5.out.rw.frozen _
        go_wp2_with fail
        go_ret
        refine ⟨?_, ?_, HC5.out.trans (Chg.of_one (S := dwS gy gb) (one_setCell _ gy 16 _) (.inl rfl)) (fun _ _ h => h)⟩
        · rw [HST.out]; rfl
        · rw [HST.out]; exact HD5.out.setAt _ hnv.1 hnv.2
    · obtain rfl : c = 32 := by omega
      go_wp2_with fail
      have hbl : Lib.bitLen ny = 0 := bitLen_is ny 0 HLT.out (.inl rfl) (by omega)
      have hov : 0 ≤ (32 : Int) ∧ (32 : Int) ≤ 4294967295 := by omega
      have hnv := rn
      have HST := Lib.hid (show stepI m s 37 x y z = (setAt (setR s x (32 : Int)) nx, 0) by rw [show (32 : Int) = 32 - lenI (s.R (y % 16)) by rw [← HYM.out, ← HVY.out, ← HNY.out, lenI_bitLen ny bny, hbl]; omega, HNX.out]; rfl)
      clear hbl
      have hfm : ∀ w, Calls Try.prog 9 #[.int .i64 37] w fun e w' => e = .returned (.int .i64 2) ∧ Below w.heap.size w w' := fun w => by have h := refForm_in 37 (by omega) (by omega) w; rw [show formOf (37 : Int).toNat = 2 from by decide] at h; exact h
      refine (hfm _).mono ?_; rintro e w4 ⟨rfl, hb4⟩
      have HL4 := Lib.hid (bkeep hb4 HL3.out)
      have HH4 := Lib.hid (HH3.out.keep hb4)
      have HC4 := Lib.hid ((Chg.of_below (dwS gy gb) HB3.out).trans (Chg.of_below (dwS gy gb) hb4) (fun _ _ h => h))
      clear hb4 hc hfm
      have hc := rowcell HL4.out
      have c16 := HH4.out.at_
      have fx2 : (x : Int).tmod 16 = x := by rw [Int.tmod_eq_emod_of_nonneg (by omega)]; omega
      have lx0 : (0 : Int) ≤ x := by omega
      have cx := HH4.out.reg x hx
      have fzx : w4.frozen? ⟨gy, x, none⟩ = false := HH4.out.rw.frozen _
      go_upto_region 130 with fail
      refine wp_region_still_tail 8 (by kernel_rfl) (by kernel_rfl) ?_
      simp only [List.take_succ_cons, List.take_zero, List.drop_succ_cons, List.drop_zero]
      change wpStill _ _ (World.drew w4) _ _ _
      iterate 8 still_step
      refine wpStill_nil ?_
      change wpList _ _ _ _ _ (World.drew w4)
      go_upto_region 131 with fail
      have hD5 : DW (World.drew (w4.setCell ⟨gy, x, none⟩ (.int .u32 (32 : Int)))) gy gb N m A cap (setR s x (32 : Int)) := (HH4.out.setR x hx _ hov.1 hov.2).keep (drewb _)
      have hC5 : Chg (dwS gy gb) w (World.drew (w4.setCell ⟨gy, x, none⟩ (.int .u32 (32 : Int)))) := (HC4.out.trans (Chg.of_one (S := dwS gy gb) (one_setCell _ gy x _) (.inl rfl)) (fun _ _ h => h)).trans (Chg.of_below (dwS gy gb) (drewb _)) (fun _ _ h => h)
      generalize World.drew (w4.setCell ⟨gy, x, none⟩ (.int .u32 (32 : Int))) = w5 at *
      have HD5 := Lib.hid hD5
      have HC5 := Lib.hid hC5
      clear hD5 hC5 cx fzx hc HH4 HC4 HL4 c16
      have c16 := HD5.out.at_
      have fz16 : w5.frozen? ⟨gy, 16, none⟩ = false := HD5.out.rw.frozen _
      go_wp2_with fail
      go_ret
      refine ⟨?_, ?_, HC5.out.trans (Chg.of_one (S := dwS gy gb) (one_setCell _ gy 16 _) (.inl rfl)) (fun _ _ h => h)⟩
      · rw [HST.out]; rfl
      · rw [HST.out]; exact HD5.out.setAt _ hnv.1 hnv.2
set_option maxRecDepth 100000 in
set_option maxHeartbeats 16000000 in
theorem refStep_14 {w : World} {gy gb N m cap : Nat} {A : Option Addr} {s : Mach} (h : DW w gy gb N m A cap s) (x y z : Nat) (hx : x < 16) (hy : y ≤ 255) (hz : z ≤ 255) :
    Calls Try.prog 29 #[.pointer (some ⟨gy, 0, none⟩), .agg #[.int .u8 14, .int .u8 x, .int .u8 y, .int .u8 z]] w (RefP gy gb N m A cap s 14 x y z w) := by
  have hb1 := bnew w (.cells #[.int .u8 14, .int .u8 x, .int .u8 y, .int .u8 z] 24)
  have hl1 := heap_alloc_last w (.cells #[.int .u8 14, .int .u8 x, .int .u8 y, .int .u8 z] 24)
  have hh := h.keep hb1
  have hc := rowcell hl1
  obtain ⟨ym, zm, vx, vy, vz, va, nx, wd, sj, q4, far, sn, q8, nr, fym, lym, fzm, lzm, fx, lx, rx, ry, rz, ra, rn, fn2, rw0, fwd, rj, fq4, rf, rsn, fq8, rnr, HYM, HZM, HVX, HVY, HVZ, HNX, HWD, HSJ, HFAR, HSN, HNR, HVA, HS16, HWR, HS8, HWN, HQ4, HQ8, HVX2⟩ := stepPre h x y z hx hy hz
  have HB1 := Lib.hid hb1
  have HL1 := Lib.hid hl1
  have HH := Lib.hid hh
  clear hb1 hl1 hh h
  obtain ⟨P, hP⟩ : ∃ k, k = (2 : Int) ^ (vz % 32).toNat := ⟨_, rfl⟩
  have HP := Lib.hid hP
  have bP : 1 ≤ P ∧ P ≤ 2147483648 := by rw [hP]; exact pow_le31 _ (by omega)
  have fP : (2 : Int) ^ (vz % 32).toNat = P := hP.symm
  clear hP
  obtain ⟨pr, hpr⟩ : ∃ k, k = vy * P := ⟨_, rfl⟩
  have HPR := Lib.hid hpr
  have bpr := mul_b vy P 4294967295 2147483648 ry.1 ry.2 (by omega) bP.2
  rw [← hpr] at bpr
  have fpr : vy * P = pr := hpr.symm
  clear hpr
  obtain ⟨ov, hov⟩ : ∃ k, k = pr % 4294967296 := ⟨_, rfl⟩
  have HOV := Lib.hid hov
  have bov : 0 ≤ ov ∧ ov ≤ 4294967295 := by omega
  have fw : IntKind.u64.wrap pr = pr := by simp [IntKind.wrap, IntKind.bits, IntKind.signed]; omega
  have ft : pr.tmod 4294967296 = ov := by rw [Int.tmod_eq_emod_of_nonneg bpr.1]; exact hov.symm
  have fo : wrap64 ov = ov := by simp only [wrap64]; omega
  have HWA := Lib.hid (fun w => by have h := refWrap_any (ov) (by omega) (by omega) w; rw [show (ov) % 4294967296 = ov from by omega] at h; exact h)
  clear hov
  go_enter Try.func29, Try.ntmps29
  go_upto_region 1 with fail
  obtain ⟨NI, hN⟩ : ∃ N, N = w.heap.size := ⟨_, rfl⟩
  rw [← hN] at hc ⊢
  have HN := Lib.hid hN
  generalize w.alloc (.cells #[.int .u8 14, .int .u8 x, .int .u8 y, .int .u8 z] 24) = w1 at *
  clear hN hc
  have hl1 := HL1.out
  rw [← HN.out] at hl1
  have hS0 : (fun w' : World => w'.heap[NI]? = some (.cells #[.int .u8 14, .int .u8 x, .int .u8 y, .int .u8 z] 24 (0, 0))) (World.drew w1) := hl1
  have HL1' := Lib.hid hl1
  clear hl1
  refine wp_region_held (S := fun w' : World => w'.heap[NI]? = some (.cells #[.int .u8 14, .int .u8 x, .int .u8 y, .int .u8 z] 24 (0, 0))) (by kernel_rfl) ?_
  change wpAnyH _ _ _ _ _ _ _ _ (World.drew _)
  refine takeH 1 (.pointer (some ⟨NI, 0, none⟩)) (some 28) rfl rfl (by kernel_rfl) (by kernel_rfl) (by kernel_rfl) (fun _ _ _ h => h) (.inl ⟨by kernel_rfl, fun w _ => by go_simp⟩) hS0 ?_
  refine takeH 2 (.int .u8 14) (some 29) rfl rfl (by kernel_rfl) (by kernel_rfl) (by kernel_rfl) (fun _ _ _ h => h) (.inl ⟨by kernel_rfl, fun w hw => by have hc := rowcell hw; go_simp⟩) hS0 ?_
  refine callH 0 rfl (by kernel_rfl) (by kernel_rfl) (some 27) rfl 22 #[] ?hrun ((refNames_any _).mono ?_)
  case hrun => go_simp
  rintro e w2 ⟨he, hw2⟩
  have hG : w2.heap[w1.heap.size]? = some (.cells nameVals 9) := by rw [← hw2]; exact heap_alloc_last w1.drew _
  have hb2 : Below w1.heap.size w1 w2 := by rw [← hw2]; exact bnext (drewb w1) (bnew w1.drew _)
  have hS2 := bkeep hb2 HL1'.out
  have C5 := rowcell hG
  have hsz : w1.drew.heap.size = w1.heap.size := rfl
  rw [hsz] at he
  obtain ⟨G, hGG⟩ : ∃ G, G = w1.heap.size := ⟨_, rfl⟩
  rw [← hGG] at he C5
  have HB2 := Lib.hid hb2
  clear hw2 hG hb2 hsz hS0 hGG
  refine ⟨_, he, hS2, ?_⟩
  have C6 : w2.cell? ⟨G, 14, none⟩ = some (.string ⟨#[115, 104, 108]⟩) := by rw [C5]; rfl
  clear C5
  refine runH 3 (.pointer (some ⟨G, 14, none⟩)) (some 30) rfl (by kernel_rfl) (by kernel_rfl) rfl (by go_simp) hS2 ?_
  refine runH 4 (.string ⟨#[115, 104, 108]⟩) (some 31) rfl (by kernel_rfl) (by kernel_rfl) rfl (by go_simp) hS2 ?_
  refine runH 5 (.string ⟨#[115, 104, 108]⟩) (some 5) rfl (by kernel_rfl) (by kernel_rfl) rfl (by go_simp) hS2 ?_
  refine wpAnyH_done (by kernel_rfl) ?_ _
  go_simp
  have HL2 := Lib.hid hS2
  have HH2 := Lib.hid (HH.out.keep HB2.out)
  have HBB := Lib.hid (bnext HB1.out HB2.out)
  clear C6 hS2 HL1' he HH HL1 HB1
  have hc := rowcell HL2.out
  have c16 := HH2.out.at_
  rw [← HVA.out] at c16
  have cx := HH2.out.reg x hx
  rw [← HVX.out] at cx
  have cy := HH2.out.reg ym (by omega)
  rw [← HVY.out] at cy
  have cz := HH2.out.reg zm (by omega)
  rw [← HVZ.out] at cz
  go_wp2_with fail
  refine (HS16.out _).mono ?_; rintro e wx ⟨rfl, hwx⟩; subst hwx
  go_wp2_with fail
  refine (HWR.out _).mono ?_; rintro e wx ⟨rfl, hwx⟩; subst hwx
  go_upto_region 5 with fail
  go_quiet (fail)
  go_upto_region 6 with fail
  go_quiet (fail)
  go_upto_region 7 with fail
  go_quiet (fail)
  go_wp2_with fail
  refine (HS8.out _).mono ?_; rintro e w3 ⟨rfl, hw3⟩
  have hb3 : Below w2.heap.size w2 w3 := by rw [← hw3]; exact bdrewN (Below.refl _ _) _
  clear hw3 hc c16 cx cy cz
  have HL3 := Lib.hid (bkeep hb3 HL2.out)
  have HH3 := Lib.hid (HH2.out.keep hb3)
  have HB3 := Lib.hid (bnext HBB.out hb3)
  clear hb3 HL2 HH2 HBB
  go_wp2_with fail
  refine (HWN.out _).mono ?_; rintro e wx ⟨rfl, hwx⟩; subst hwx
  have hc := rowcell HL3.out
  go_wp2_with fail
  refine (HWA.out _).mono ?_; rintro e wx ⟨rfl, hwx⟩; subst hwx
  go_wp2_with fail
  have hov : 0 ≤ ov ∧ ov ≤ 4294967295 := bov
  have hnv : 0 ≤ nx ∧ nx ≤ 4294967295 := rn
  have HST := Lib.hid (show stepI m s 14 x y z = (setAt (setR s x ov) nx, 0) by rw [HOV.out, HPR.out, HP.out, HVY.out, HVZ.out, HYM.out, HZM.out, HNX.out]; rfl)
  have hfm : ∀ w, Calls Try.prog 9 #[.int .i64 14] w fun e w' => e = .returned (.int .i64 3) ∧ Below w.heap.size w w' := fun w => by have h := refForm_in 14 (by omega) (by omega) w; rw [show formOf (14 : Int).toNat = 3 from by decide] at h; exact h
  refine (hfm _).mono ?_; rintro e w4 ⟨rfl, hb4⟩
  have HL4 := Lib.hid (bkeep hb4 HL3.out)
  have HH4 := Lib.hid (HH3.out.keep hb4)
  have HC4 := Lib.hid ((Chg.of_below (dwS gy gb) HB3.out).trans (Chg.of_below (dwS gy gb) hb4) (fun _ _ h => h))
  clear hb4 hc hfm
  have hc := rowcell HL4.out
  have c16 := HH4.out.at_
  have fx2 : (x : Int).tmod 16 = x := by rw [Int.tmod_eq_emod_of_nonneg (by omega)]; omega
  have lx0 : (0 : Int) ≤ x := by omega
  have cx := HH4.out.reg x hx
  have fzx : w4.frozen? ⟨gy, x, none⟩ = false := HH4.out.rw.frozen _
  go_upto_region 130 with fail
  refine wp_region_still_tail 8 (by kernel_rfl) (by kernel_rfl) ?_
  simp only [List.take_succ_cons, List.take_zero, List.drop_succ_cons, List.drop_zero]
  change wpStill _ _ (World.drew w4) _ _ _
  iterate 8 still_step
  refine wpStill_nil ?_
  change wpList _ _ _ _ _ (World.drew w4)
  go_upto_region 131 with fail
  have hD5 : DW (World.drew (w4.setCell ⟨gy, x, none⟩ (.int .u32 ov))) gy gb N m A cap (setR s x ov) := (HH4.out.setR x hx _ hov.1 hov.2).keep (drewb _)
  have hC5 : Chg (dwS gy gb) w (World.drew (w4.setCell ⟨gy, x, none⟩ (.int .u32 ov))) := (HC4.out.trans (Chg.of_one (S := dwS gy gb) (one_setCell _ gy x _) (.inl rfl)) (fun _ _ h => h)).trans (Chg.of_below (dwS gy gb) (drewb _)) (fun _ _ h => h)
  generalize World.drew (w4.setCell ⟨gy, x, none⟩ (.int .u32 ov)) = w5 at *
  have HD5 := Lib.hid hD5
  have HC5 := Lib.hid hC5
  clear hD5 hC5 cx fzx hc HH4 HC4 HL4 c16
  have c16 := HD5.out.at_
  have fz16 : w5.frozen? ⟨gy, 16, none⟩ = false := HD5.out.rw.frozen _
  go_wp2_with fail
  go_ret
  refine ⟨?_, ?_, HC5.out.trans (Chg.of_one (S := dwS gy gb) (one_setCell _ gy 16 _) (.inl rfl)) (fun _ _ h => h)⟩
  · rw [HST.out]; rfl
  · rw [HST.out]; exact HD5.out.setAt _ hnv.1 hnv.2
end Go.Proofs.Ytapcbfeifeobhaa
