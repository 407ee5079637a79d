/- The document's step. -/
import Derived.Test.YtapcbfeifeobhaaRf0
set_option linter.unusedVariables false
set_option linter.unusedSimpArgs false
namespace Go.Proofs.Ytapcbfeifeobhaa
open Go.RowKit
set_option maxRecDepth 100000 in
set_option maxHeartbeats 16000000 in
theorem refStep_29a {w : World} {gy gb N m cap : Nat} {A : Option Addr} {s : Mach} (h : DW w gy gb N m A cap s) (x y z : Nat) (hx : x < 16) (hy : y ≤ 255) (hz : z ≤ 255) (hcnd : ((s.R (y % 16) + near z % 4294967296) % 4294967296).toNat + 4 ≤ 64 * m) :
    Calls Try.prog 29 #[.pointer (some ⟨gy, 0, none⟩), .agg #[.int .u8 29, .int .u8 x, .int .u8 y, .int .u8 z]] w (RefP gy gb N m A cap s 29 x y z w) := by
  have HCND := Lib.hid hcnd
  clear hcnd
  have hb1 := bnew w (.cells #[.int .u8 29, .int .u8 x, .int .u8 y, .int .u8 z] 24)
  have hl1 := heap_alloc_last w (.cells #[.int .u8 29, .int .u8 x, .int .u8 y, .int .u8 z] 24)
  have hh := h.keep hb1
  have hc := rowcell hl1
  obtain ⟨ym, zm, vx, vy, vz, va, nx, wd, sj, q4, far, sn, q8, nr, fym, lym, fzm, lzm, fx, lx, rx, ry, rz, ra, rn, fn2, rw0, fwd, rj, fq4, rf, rsn, fq8, rnr, HYM, HZM, HVX, HVY, HVZ, HNX, HWD, HSJ, HFAR, HSN, HNR, HVA, HS16, HWR, HS8, HWN, HQ4, HQ8, HVX2⟩ := stepPre h x y z hx hy hz
  have HB1 := Lib.hid hb1
  have HL1 := Lib.hid hl1
  have HH := Lib.hid hh
  clear hb1 hl1 hh h
  obtain ⟨na, hna⟩ : ∃ n, n = ((s.R (y % 16) + near z % 4294967296) % 4294967296).toNat := ⟨_, rfl⟩
  have hnn : (na : Int) = nr := by rw [hna, HNR.out, HSN.out, HVY.out, HYM.out]; exact Int.toNat_of_nonneg (by omega)
  have HNA := Lib.hid hna
  have HNN := Lib.hid hnn
  clear hna hnn
  obtain ⟨Lm, hLm⟩ : ∃ L, L = 64 * m := ⟨_, rfl⟩
  have HLM := Lib.hid hLm
  clear hLm
  have hvn : ((vx.toNat : Nat) : Int) = vx := Int.toNat_of_nonneg rx.1
  have HVN := Lib.hid hvn
  clear hvn
  go_enter Try.func29, Try.ntmps29
  go_upto_region 1 with fail
  obtain ⟨NI, hN⟩ : ∃ N, N = w.heap.size := ⟨_, rfl⟩
  rw [← hN] at hc ⊢
  have HN := Lib.hid hN
  generalize w.alloc (.cells #[.int .u8 29, .int .u8 x, .int .u8 y, .int .u8 z] 24) = w1 at *
  clear hN hc
  have hl1 := HL1.out
  rw [← HN.out] at hl1
  have hS0 : (fun w' : World => w'.heap[NI]? = some (.cells #[.int .u8 29, .int .u8 x, .int .u8 y, .int .u8 z] 24 (0, 0))) (World.drew w1) := hl1
  have HL1' := Lib.hid hl1
  clear hl1
  refine wp_region_held (S := fun w' : World => w'.heap[NI]? = some (.cells #[.int .u8 29, .int .u8 x, .int .u8 y, .int .u8 z] 24 (0, 0))) (by kernel_rfl) ?_
  change wpAnyH _ _ _ _ _ _ _ _ (World.drew _)
  refine takeH 1 (.pointer (some ⟨NI, 0, none⟩)) (some 28) rfl rfl (by kernel_rfl) (by kernel_rfl) (by kernel_rfl) (fun _ _ _ h => h) (.inl ⟨by kernel_rfl, fun w _ => by go_simp⟩) hS0 ?_
  refine takeH 2 (.int .u8 29) (some 29) rfl rfl (by kernel_rfl) (by kernel_rfl) (by kernel_rfl) (fun _ _ _ h => h) (.inl ⟨by kernel_rfl, fun w hw => by have hc := rowcell hw; go_simp⟩) hS0 ?_
  refine callH 0 rfl (by kernel_rfl) (by kernel_rfl) (some 27) rfl 22 #[] ?hrun ((refNames_any _).mono ?_)
  case hrun => go_simp
  rintro e w2 ⟨he, hw2⟩
  have hG : w2.heap[w1.heap.size]? = some (.cells nameVals 9) := by rw [← hw2]; exact heap_alloc_last w1.drew _
  have hb2 : Below w1.heap.size w1 w2 := by rw [← hw2]; exact bnext (drewb w1) (bnew w1.drew _)
  have hS2 := bkeep hb2 HL1'.out
  have C5 := rowcell hG
  have hsz : w1.drew.heap.size = w1.heap.size := rfl
  rw [hsz] at he
  obtain ⟨G, hGG⟩ : ∃ G, G = w1.heap.size := ⟨_, rfl⟩
  rw [← hGG] at he C5
  have HB2 := Lib.hid hb2
  clear hw2 hG hb2 hsz hS0 hGG
  refine ⟨_, he, hS2, ?_⟩
  have C6 : w2.cell? ⟨G, 29, none⟩ = some (.string ⟨#[115, 119]⟩) := by rw [C5]; rfl
  clear C5
  refine runH 3 (.pointer (some ⟨G, 29, none⟩)) (some 30) rfl (by kernel_rfl) (by kernel_rfl) rfl (by go_simp) hS2 ?_
  refine runH 4 (.string ⟨#[115, 119]⟩) (some 31) rfl (by kernel_rfl) (by kernel_rfl) rfl (by go_simp) hS2 ?_
  refine runH 5 (.string ⟨#[115, 119]⟩) (some 5) rfl (by kernel_rfl) (by kernel_rfl) rfl (by go_simp) hS2 ?_
  refine wpAnyH_done (by kernel_rfl) ?_ _
  go_simp
  have HL2 := Lib.hid hS2
  have HH2 := Lib.hid (HH.out.keep HB2.out)
  have HBB := Lib.hid (bnext HB1.out HB2.out)
  clear C6 hS2 HL1' he HH HL1 HB1
  have hc := rowcell HL2.out
  have c16 := HH2.out.at_
  rw [← HVA.out] at c16
  have cx := HH2.out.reg x hx
  rw [← HVX.out] at cx
  have cy := HH2.out.reg ym (by omega)
  rw [← HVY.out] at cy
  have cz := HH2.out.reg zm (by omega)
  rw [← HVZ.out] at cz
  go_wp2_with fail
  refine (HS16.out _).mono ?_; rintro e wx ⟨rfl, hwx⟩; subst hwx
  go_wp2_with fail
  refine (HWR.out _).mono ?_; rintro e wx ⟨rfl, hwx⟩; subst hwx
  go_upto_region 5 with fail
  go_quiet (fail)
  go_upto_region 6 with fail
  go_quiet (fail)
  go_upto_region 7 with fail
  go_quiet (fail)
  go_wp2_with fail
  refine (HS8.out _).mono ?_; rintro e w3 ⟨rfl, hw3⟩
  have hb3 : Below w2.heap.size w2 w3 := by rw [← hw3]; exact bdrewN (Below.refl _ _) _
  clear hw3 hc c16 cx cy cz
  have HL3 := Lib.hid (bkeep hb3 HL2.out)
  have HH3 := Lib.hid (HH2.out.keep hb3)
  have HB3 := Lib.hid (bnext HBB.out hb3)
  clear hb3 HL2 HH2 HBB
  go_wp2_with fail
  refine (HWN.out _).mono ?_; rintro e wx ⟨rfl, hwx⟩; subst hwx
  have hc := rowcell HL3.out
  have cmv := HH3.out.mv
  rw [← HLM.out] at cmv
  go_wp2_with fail
  have hld : Calls Try.prog 48 #[.slice A Lm cap, .int .u32 nr, .int .i64 4, .int .u32 vx] w3 fun e w' => e = .returned (.int .i64 0) ∧ BW w' gb N (64 * m) A (stN s.mem na 4 vx.toNat) ∧ Chg (fun x => x = gb) w3 w' := by have h := refStore_ok HH3.out.bw cap na 4 vx.toNat HH3.out.cp (by omega) (by omega) (by rw [HNA.out]; exact HCND.out) (by omega); rw [HNN.out, HVN.out] at h; rw [HLM.out]; exact h
  refine hld.mono ?_; rintro e w3s ⟨rfl, hbw, hch⟩
  have hls := hch.blk HL3.out (fun e => by obtain ⟨_, f, hr, _⟩ := HH3.out.bw.row (by have := HCND.out; omega); exact ne_ty HL3.out (rowIs_arr hr) (by decide) e)
  have hhs := HH3.out.mem hbw hch
  rw [HVX.out, HNA.out] at hhs
  have hcs := (Chg.of_below (dwS gy gb) HB3.out).trans (hch.mono (T := dwS gy gb) (fun k _ e => .inr e)) (fun _ _ h => h)
  have HLS := Lib.hid hls
  have HHS := Lib.hid hhs
  have HCS := Lib.hid hcs
  clear hls hhs hcs hbw hch hld cmv hc
  have hc := rowcell HLS.out
  go_wp2_with fail
  have hov : 0 ≤ vx ∧ vx ≤ 4294967295 := rx
  have hnv : 0 ≤ nx ∧ nx ≤ 4294967295 := rn
  have HST := Lib.hid (show stepI m s 29 x y z = (setAt (setR (⟨s.R, s.at_, stN s.mem ((s.R (y % 16) + near z % 4294967296) % 4294967296).toNat 4 (s.R x).toNat⟩ : Mach) x vx) nx, 0) by rw [show setR (⟨s.R, s.at_, stN s.mem ((s.R (y % 16) + near z % 4294967296) % 4294967296).toNat 4 (s.R x).toNat⟩ : Mach) x vx = ⟨s.R, s.at_, stN s.mem ((s.R (y % 16) + near z % 4294967296) % 4294967296).toNat 4 (s.R x).toNat⟩ from by rw [HVX.out]; exact setR_same (⟨s.R, s.at_, stN s.mem ((s.R (y % 16) + near z % 4294967296) % 4294967296).toNat 4 (s.R x).toNat⟩ : Mach) x]; show (if (memI m s 29 x ((s.R (y % 16) + near z % 4294967296) % 4294967296).toNat).2 = 0 then _ else _) = _; rw [show memI m s 29 x ((s.R (y % 16) + near z % 4294967296) % 4294967296).toNat = (⟨s.R, s.at_, stN s.mem ((s.R (y % 16) + near z % 4294967296) % 4294967296).toNat 4 (s.R x).toNat⟩, 0) from by unfold memI; rw [show bytesN 29 = 4 from rfl, if_neg (Nat.not_lt.2 HCND.out), if_pos (by decide)]]; rw [HNX.out]; rfl)
  have hfm : ∀ w, Calls Try.prog 9 #[.int .i64 29] w fun e w' => e = .returned (.int .i64 4) ∧ Below w.heap.size w w' := fun w => by have h := refForm_in 29 (by omega) (by omega) w; rw [show formOf (29 : Int).toNat = 4 from by decide] at h; exact h
  refine (hfm _).mono ?_; rintro e w4 ⟨rfl, hb4⟩
  have HL4 := Lib.hid (bkeep hb4 HLS.out)
  have HH4 := Lib.hid (HHS.out.keep hb4)
  have HC4 := Lib.hid (HCS.out.trans (Chg.of_below (dwS gy gb) hb4) (fun _ _ h => h))
  clear hb4 hc hfm
  have hc := rowcell HL4.out
  have c16 := HH4.out.at_
  have fx2 : (x : Int).tmod 16 = x := by rw [Int.tmod_eq_emod_of_nonneg (by omega)]; omega
  have lx0 : (0 : Int) ≤ x := by omega
  have cx := HH4.out.reg x hx
  have fzx : w4.frozen? ⟨gy, x, none⟩ = false := HH4.out.rw.frozen _
  go_upto_region 130 with fail
  refine wp_region_still_tail 8 (by kernel_rfl) (by kernel_rfl) ?_
  simp only [List.take_succ_cons, List.take_zero, List.drop_succ_cons, List.drop_zero]
  change wpStill _ _ (World.drew w4) _ _ _
  iterate 8 still_step
  refine wpStill_nil ?_
  change wpList _ _ _ _ _ (World.drew w4)
  go_upto_region 131 with fail
  have hD5 : DW (World.drew (w4.setCell ⟨gy, x, none⟩ (.int .u32 vx))) gy gb N m A cap (setR (⟨s.R, s.at_, stN s.mem ((s.R (y % 16) + near z % 4294967296) % 4294967296).toNat 4 (s.R x).toNat⟩ : Mach) x vx) := (HH4.out.setR x hx _ hov.1 hov.2).keep (drewb _)
  have hC5 : Chg (dwS gy gb) w (World.drew (w4.setCell ⟨gy, x, none⟩ (.int .u32 vx))) := (HC4.out.trans (Chg.of_one (S := dwS gy gb) (one_setCell _ gy x _) (.inl rfl)) (fun _ _ h => h)).trans (Chg.of_below (dwS gy gb) (drewb _)) (fun _ _ h => h)
  generalize World.drew (w4.setCell ⟨gy, x, none⟩ (.int .u32 vx)) = w5 at *
  have HD5 := Lib.hid hD5
  have HC5 := Lib.hid hC5
  clear hD5 hC5 cx fzx hc HH4 HC4 HL4 c16
  have c16 := HD5.out.at_
  have fz16 : w5.frozen? ⟨gy, 16, none⟩ = false := HD5.out.rw.frozen _
  go_wp2_with fail
  go_ret
  refine ⟨?_, ?_, HC5.out.trans (Chg.of_one (S := dwS gy gb) (one_setCell _ gy 16 _) (.inl rfl)) (fun _ _ h => h)⟩
  · rw [HST.out]; rfl
  · rw [HST.out]; exact HD5.out.setAt _ hnv.1 hnv.2
set_option maxRecDepth 100000 in
set_option maxHeartbeats 16000000 in
theorem refStep_29b {w : World} {gy gb N m cap : Nat} {A : Option Addr} {s : Mach} (h : DW w gy gb N m A cap s) (x y z : Nat) (hx : x < 16) (hy : y ≤ 255) (hz : z ≤ 255) (hcnd : ¬ ((s.R (y % 16) + near z % 4294967296) % 4294967296).toNat + 4 ≤ 64 * m) :
    Calls Try.prog 29 #[.pointer (some ⟨gy, 0, none⟩), .agg #[.int .u8 29, .int .u8 x, .int .u8 y, .int .u8 z]] w (RefP gy gb N m A cap s 29 x y z w) := by
  have HCND := Lib.hid hcnd
  clear hcnd
  have hb1 := bnew w (.cells #[.int .u8 29, .int .u8 x, .int .u8 y, .int .u8 z] 24)
  have hl1 := heap_alloc_last w (.cells #[.int .u8 29, .int .u8 x, .int .u8 y, .int .u8 z] 24)
  have hh := h.keep hb1
  have hc := rowcell hl1
  obtain ⟨ym, zm, vx, vy, vz, va, nx, wd, sj, q4, far, sn, q8, nr, fym, lym, fzm, lzm, fx, lx, rx, ry, rz, ra, rn, fn2, rw0, fwd, rj, fq4, rf, rsn, fq8, rnr, HYM, HZM, HVX, HVY, HVZ, HNX, HWD, HSJ, HFAR, HSN, HNR, HVA, HS16, HWR, HS8, HWN, HQ4, HQ8, HVX2⟩ := stepPre h x y z hx hy hz
  have HB1 := Lib.hid hb1
  have HL1 := Lib.hid hl1
  have HH := Lib.hid hh
  clear hb1 hl1 hh h
  obtain ⟨na, hna⟩ : ∃ n, n = ((s.R (y % 16) + near z % 4294967296) % 4294967296).toNat := ⟨_, rfl⟩
  have hnn : (na : Int) = nr := by rw [hna, HNR.out, HSN.out, HVY.out, HYM.out]; exact Int.toNat_of_nonneg (by omega)
  have HNA := Lib.hid hna
  have HNN := Lib.hid hnn
  clear hna hnn
  obtain ⟨Lm, hLm⟩ : ∃ L, L = 64 * m := ⟨_, rfl⟩
  have HLM := Lib.hid hLm
  clear hLm
  have hvn : ((vx.toNat : Nat) : Int) = vx := Int.toNat_of_nonneg rx.1
  have HVN := Lib.hid hvn
  clear hvn
  go_enter Try.func29, Try.ntmps29
  go_upto_region 1 with fail
  obtain ⟨NI, hN⟩ : ∃ N, N = w.heap.size := ⟨_, rfl⟩
  rw [← hN] at hc ⊢
  have HN := Lib.hid hN
  generalize w.alloc (.cells #[.int .u8 29, .int .u8 x, .int .u8 y, .int .u8 z] 24) = w1 at *
  clear hN hc
  have hl1 := HL1.out
  rw [← HN.out] at hl1
  have hS0 : (fun w' : World => w'.heap[NI]? = some (.cells #[.int .u8 29, .int .u8 x, .int .u8 y, .int .u8 z] 24 (0, 0))) (World.drew w1) := hl1
  have HL1' := Lib.hid hl1
  clear hl1
  refine wp_region_held (S := fun w' : World => w'.heap[NI]? = some (.cells #[.int .u8 29, .int .u8 x, .int .u8 y, .int .u8 z] 24 (0, 0))) (by kernel_rfl) ?_
  change wpAnyH _ _ _ _ _ _ _ _ (World.drew _)
  refine takeH 1 (.pointer (some ⟨NI, 0, none⟩)) (some 28) rfl rfl (by kernel_rfl) (by kernel_rfl) (by kernel_rfl) (fun _ _ _ h => h) (.inl ⟨by kernel_rfl, fun w _ => by go_simp⟩) hS0 ?_
  refine takeH 2 (.int .u8 29) (some 29) rfl rfl (by kernel_rfl) (by kernel_rfl) (by kernel_rfl) (fun _ _ _ h => h) (.inl ⟨by kernel_rfl, fun w hw => by have hc := rowcell hw; go_simp⟩) hS0 ?_
  refine callH 0 rfl (by kernel_rfl) (by kernel_rfl) (some 27) rfl 22 #[] ?hrun ((refNames_any _).mono ?_)
  case hrun => go_simp
  rintro e w2 ⟨he, hw2⟩
  have hG : w2.heap[w1.heap.size]? = some (.cells nameVals 9) := by rw [← hw2]; exact heap_alloc_last w1.drew _
  have hb2 : Below w1.heap.size w1 w2 := by rw [← hw2]; exact bnext (drewb w1) (bnew w1.drew _)
  have hS2 := bkeep hb2 HL1'.out
  have C5 := rowcell hG
  have hsz : w1.drew.heap.size = w1.heap.size := rfl
  rw [hsz] at he
  obtain ⟨G, hGG⟩ : ∃ G, G = w1.heap.size := ⟨_, rfl⟩
  rw [← hGG] at he C5
  have HB2 := Lib.hid hb2
  clear hw2 hG hb2 hsz hS0 hGG
  refine ⟨_, he, hS2, ?_⟩
  have C6 : w2.cell? ⟨G, 29, none⟩ = some (.string ⟨#[115, 119]⟩) := by rw [C5]; rfl
  clear C5
  refine runH 3 (.pointer (some ⟨G, 29, none⟩)) (some 30) rfl (by kernel_rfl) (by kernel_rfl) rfl (by go_simp) hS2 ?_
  refine runH 4 (.string ⟨#[115, 119]⟩) (some 31) rfl (by kernel_rfl) (by kernel_rfl) rfl (by go_simp) hS2 ?_
  refine runH 5 (.string ⟨#[115, 119]⟩) (some 5) rfl (by kernel_rfl) (by kernel_rfl) rfl (by go_simp) hS2 ?_
  refine wpAnyH_done (by kernel_rfl) ?_ _
  go_simp
  have HL2 := Lib.hid hS2
  have HH2 := Lib.hid (HH.out.keep HB2.out)
  have HBB := Lib.hid (bnext HB1.out HB2.out)
  clear C6 hS2 HL1' he HH HL1 HB1
  have hc := rowcell HL2.out
  have c16 := HH2.out.at_
  rw [← HVA.out] at c16
  have cx := HH2.out.reg x hx
  rw [← HVX.out] at cx
  have cy := HH2.out.reg ym (by omega)
  rw [← HVY.out] at cy
  have cz := HH2.out.reg zm (by omega)
  rw [← HVZ.out] at cz
  go_wp2_with fail
  refine (HS16.out _).mono ?_; rintro e wx ⟨rfl, hwx⟩; subst hwx
  go_wp2_with fail
  refine (HWR.out _).mono ?_; rintro e wx ⟨rfl, hwx⟩; subst hwx
  go_upto_region 5 with fail
  go_quiet (fail)
  go_upto_region 6 with fail
  go_quiet (fail)
  go_upto_region 7 with fail
  go_quiet (fail)
  go_wp2_with fail
  refine (HS8.out _).mono ?_; rintro e w3 ⟨rfl, hw3⟩
  have hb3 : Below w2.heap.size w2 w3 := by rw [← hw3]; exact bdrewN (Below.refl _ _) _
  clear hw3 hc c16 cx cy cz
  have HL3 := Lib.hid (bkeep hb3 HL2.out)
  have HH3 := Lib.hid (HH2.out.keep hb3)
  have HB3 := Lib.hid (bnext HBB.out hb3)
  clear hb3 HL2 HH2 HBB
  go_wp2_with fail
  refine (HWN.out _).mono ?_; rintro e wx ⟨rfl, hwx⟩; subst hwx
  have hc := rowcell HL3.out
  have cmv := HH3.out.mv
  rw [← HLM.out] at cmv
  go_wp2_with fail
  have hld : Calls Try.prog 48 #[.slice A Lm cap, .int .u32 nr, .int .i64 4, .int .u32 vx] w3 fun e w' => e = .returned (.int .i64 20) ∧ w3 = w' := by have h := refStore_no (w := w3) A Lm cap na 4 vx (by rw [HLM.out]; exact HH3.out.bw.l4) (by have := HNN.out; omega) (by omega) (by rw [HLM.out, HNA.out]; exact Nat.lt_of_not_le HCND.out); rw [HNN.out] at h; exact h
  refine hld.mono ?_; rintro e wx ⟨rfl, hwx⟩; subst hwx
  clear hld cmv
  go_wp2_with fail
  have HST := Lib.hid (show stepI m s 29 x y z = (s, 20) by show (if (memI m s 29 x ((s.R (y % 16) + near z % 4294967296) % 4294967296).toNat).2 = 0 then _ else _) = _; rw [show memI m s 29 x ((s.R (y % 16) + near z % 4294967296) % 4294967296).toNat = (s, 20) from by unfold memI; rw [show bytesN 29 = 4 from rfl, if_pos (Nat.lt_of_not_le HCND.out)]]; rfl)
  go_ret
  refine ⟨?_, ?_, Chg.of_below (dwS gy gb) HB3.out⟩
  · rw [HST.out]; rfl
  · rw [HST.out]; exact HH3.out
set_option maxRecDepth 100000 in
set_option maxHeartbeats 16000000 in
theorem refStep_31a {w : World} {gy gb N m cap : Nat} {A : Option Addr} {s : Mach} (h : DW w gy gb N m A cap s) (x y z : Nat) (hx : x < 16) (hy : y ≤ 255) (hz : z ≤ 255) (hcnd : s.R (x % 16) = 0) :
    Calls Try.prog 29 #[.pointer (some ⟨gy, 0, none⟩), .agg #[.int .u8 31, .int .u8 x, .int .u8 y, .int .u8 z]] w (RefP gy gb N m A cap s 31 x y z w) := by
  have HCND := Lib.hid hcnd
  clear hcnd
  have hb1 := bnew w (.cells #[.int .u8 31, .int .u8 x, .int .u8 y, .int .u8 z] 24)
  have hl1 := heap_alloc_last w (.cells #[.int .u8 31, .int .u8 x, .int .u8 y, .int .u8 z] 24)
  have hh := h.keep hb1
  have hc := rowcell hl1
  obtain ⟨ym, zm, vx, vy, vz, va, nx, wd, sj, q4, far, sn, q8, nr, fym, lym, fzm, lzm, fx, lx, rx, ry, rz, ra, rn, fn2, rw0, fwd, rj, fq4, rf, rsn, fq8, rnr, HYM, HZM, HVX, HVY, HVZ, HNX, HWD, HSJ, HFAR, HSN, HNR, HVA, HS16, HWR, HS8, HWN, HQ4, HQ8, HVX2⟩ := stepPre h x y z hx hy hz
  have HB1 := Lib.hid hb1
  have HL1 := Lib.hid hl1
  have HH := Lib.hid hh
  clear hb1 hl1 hh h
  have cc : vx = 0 := by rw [HVX2.out]; exact HCND.out
  have c2 : (vx == 0) = true := by rw [beq_iff_eq]; exact cc
  have c3 : (vx != 0) = false := by rw [bne_eq_false_iff_eq]; exact cc
  clear cc
  go_enter Try.func29, Try.ntmps29
  go_upto_region 1 with fail
  obtain ⟨NI, hN⟩ : ∃ N, N = w.heap.size := ⟨_, rfl⟩
  rw [← hN] at hc ⊢
  have HN := Lib.hid hN
  generalize w.alloc (.cells #[.int .u8 31, .int .u8 x, .int .u8 y, .int .u8 z] 24) = w1 at *
  clear hN hc
  have hl1 := HL1.out
  rw [← HN.out] at hl1
  have hS0 : (fun w' : World => w'.heap[NI]? = some (.cells #[.int .u8 31, .int .u8 x, .int .u8 y, .int .u8 z] 24 (0, 0))) (World.drew w1) := hl1
  have HL1' := Lib.hid hl1
  clear hl1
  refine wp_region_held (S := fun w' : World => w'.heap[NI]? = some (.cells #[.int .u8 31, .int .u8 x, .int .u8 y, .int .u8 z] 24 (0, 0))) (by kernel_rfl) ?_
  change wpAnyH _ _ _ _ _ _ _ _ (World.drew _)
  refine takeH 1 (.pointer (some ⟨NI, 0, none⟩)) (some 28) rfl rfl (by kernel_rfl) (by kernel_rfl) (by kernel_rfl) (fun _ _ _ h => h) (.inl ⟨by kernel_rfl, fun w _ => by go_simp⟩) hS0 ?_
  refine takeH 2 (.int .u8 31) (some 29) rfl rfl (by kernel_rfl) (by kernel_rfl) (by kernel_rfl) (fun _ _ _ h => h) (.inl ⟨by kernel_rfl, fun w hw => by have hc := rowcell hw; go_simp⟩) hS0 ?_
  refine callH 0 rfl (by kernel_rfl) (by kernel_rfl) (some 27) rfl 22 #[] ?hrun ((refNames_any _).mono ?_)
  case hrun => go_simp
  rintro e w2 ⟨he, hw2⟩
  have hG : w2.heap[w1.heap.size]? = some (.cells nameVals 9) := by rw [← hw2]; exact heap_alloc_last w1.drew _
  have hb2 : Below w1.heap.size w1 w2 := by rw [← hw2]; exact bnext (drewb w1) (bnew w1.drew _)
  have hS2 := bkeep hb2 HL1'.out
  have C5 := rowcell hG
  have hsz : w1.drew.heap.size = w1.heap.size := rfl
  rw [hsz] at he
  obtain ⟨G, hGG⟩ : ∃ G, G = w1.heap.size := ⟨_, rfl⟩
  rw [← hGG] at he C5
  have HB2 := Lib.hid hb2
  clear hw2 hG hb2 hsz hS0 hGG
  refine ⟨_, he, hS2, ?_⟩
  have C6 : w2.cell? ⟨G, 31, none⟩ = some (.string ⟨#[106, 122]⟩) := by rw [C5]; rfl
  clear C5
  refine runH 3 (.pointer (some ⟨G, 31, none⟩)) (some 30) rfl (by kernel_rfl) (by kernel_rfl) rfl (by go_simp) hS2 ?_
  refine runH 4 (.string ⟨#[106, 122]⟩) (some 31) rfl (by kernel_rfl) (by kernel_rfl) rfl (by go_simp) hS2 ?_
  refine runH 5 (.string ⟨#[106, 122]⟩) (some 5) rfl (by kernel_rfl) (by kernel_rfl) rfl (by go_simp) hS2 ?_
  refine wpAnyH_done (by kernel_rfl) ?_ _
  go_simp
  have HL2 := Lib.hid hS2
  have HH2 := Lib.hid (HH.out.keep HB2.out)
  have HBB := Lib.hid (bnext HB1.out HB2.out)
  clear C6 hS2 HL1' he HH HL1 HB1
  have hc := rowcell HL2.out
  have c16 := HH2.out.at_
  rw [← HVA.out] at c16
  have cx := HH2.out.reg x hx
  rw [← HVX.out] at cx
  have cy := HH2.out.reg ym (by omega)
  rw [← HVY.out] at cy
  have cz := HH2.out.reg zm (by omega)
  rw [← HVZ.out] at cz
  go_wp2_with fail
  refine (HS16.out _).mono ?_; rintro e wx ⟨rfl, hwx⟩; subst hwx
  go_wp2_with fail
  refine (HWR.out _).mono ?_; rintro e wx ⟨rfl, hwx⟩; subst hwx
  go_upto_region 5 with fail
  go_quiet (fail)
  go_upto_region 6 with fail
  go_quiet (fail)
  go_upto_region 7 with fail
  go_quiet (fail)
  go_wp2_with fail
  refine (HS8.out _).mono ?_; rintro e w3 ⟨rfl, hw3⟩
  have hb3 : Below w2.heap.size w2 w3 := by rw [← hw3]; exact bdrewN (Below.refl _ _) _
  clear hw3 hc c16 cx cy cz
  have HL3 := Lib.hid (bkeep hb3 HL2.out)
  have HH3 := Lib.hid (HH2.out.keep hb3)
  have HB3 := Lib.hid (bnext HBB.out hb3)
  clear hb3 HL2 HH2 HBB
  go_wp2_with fail
  refine (HWN.out _).mono ?_; rintro e wx ⟨rfl, hwx⟩; subst hwx
  have hc := rowcell HL3.out
  go_wp2_with fail
  have hov : 0 ≤ vx ∧ vx ≤ 4294967295 := rx
  have hnv : 0 ≤ far ∧ far ≤ 4294967295 := rf
  have HST := Lib.hid (show stepI m s 31 x y z = (setAt (setR s x vx) far, 0) by rw [show setR s x vx = s from by rw [HVX.out]; exact setR_same s x, show stepI m s 31 x y z = (setAt s (if s.R (x % 16) = 0 then toI y z (nextI s) else nextI s), 0) from rfl, if_pos HCND.out, HFAR.out, HNX.out])
  have hfm : ∀ w, Calls Try.prog 9 #[.int .i64 31] w fun e w' => e = .returned (.int .i64 5) ∧ Below w.heap.size w w' := fun w => by have h := refForm_in 31 (by omega) (by omega) w; rw [show formOf (31 : Int).toNat = 5 from by decide] at h; exact h
  refine (hfm _).mono ?_; rintro e w4 ⟨rfl, hb4⟩
  have HL4 := Lib.hid (bkeep hb4 HL3.out)
  have HH4 := Lib.hid (HH3.out.keep hb4)
  have HC4 := Lib.hid ((Chg.of_below (dwS gy gb) HB3.out).trans (Chg.of_below (dwS gy gb) hb4) (fun _ _ h => h))
  clear hb4 hc hfm
  have hc := rowcell HL4.out
  have c16 := HH4.out.at_
  have fx2 : (x : Int).tmod 16 = x := by rw [Int.tmod_eq_emod_of_nonneg (by omega)]; omega
  have lx0 : (0 : Int) ≤ x := by omega
  have cx := HH4.out.reg x hx
  have fzx : w4.frozen? ⟨gy, x, none⟩ = false := HH4.out.rw.frozen _
  go_upto_region 130 with fail
  refine wp_region_still_tail 8 (by kernel_rfl) (by kernel_rfl) ?_
  simp only [List.take_succ_cons, List.take_zero, List.drop_succ_cons, List.drop_zero]
  change wpStill _ _ (World.drew w4) _ _ _
  iterate 8 still_step
  refine wpStill_nil ?_
  change wpList _ _ _ _ _ (World.drew w4)
  go_upto_region 131 with fail
  have hD5 : DW (World.drew (w4.setCell ⟨gy, x, none⟩ (.int .u32 vx))) gy gb N m A cap (setR s x vx) := (HH4.out.setR x hx _ hov.1 hov.2).keep (drewb _)
  have hC5 : Chg (dwS gy gb) w (World.drew (w4.setCell ⟨gy, x, none⟩ (.int .u32 vx))) := (HC4.out.trans (Chg.of_one (S := dwS gy gb) (one_setCell _ gy x _) (.inl rfl)) (fun _ _ h => h)).trans (Chg.of_below (dwS gy gb) (drewb _)) (fun _ _ h => h)
  generalize World.drew (w4.setCell ⟨gy, x, none⟩ (.int .u32 vx)) = w5 at *
  have HD5 := Lib.hid hD5
  have HC5 := Lib.hid hC5
  clear hD5 hC5 cx fzx hc HH4 HC4 HL4 c16
  have c16 := HD5.out.at_
  have fz16 : w5.frozen? ⟨gy, 16, none⟩ = false := HD5.out.rw.frozen _
  go_wp2_with fail
  go_ret
  refine ⟨?_, ?_, HC5.out.trans (Chg.of_one (S := dwS gy gb) (one_setCell _ gy 16 _) (.inl rfl)) (fun _ _ h => h)⟩
  · rw [HST.out]; rfl
  · rw [HST.out]; exact HD5.out.setAt _ hnv.1 hnv.2
set_option maxRecDepth 100000 in
set_option maxHeartbeats 16000000 in
theorem refStep_31b {w : World} {gy gb N m cap : Nat} {A : Option Addr} {s : Mach} (h : DW w gy gb N m A cap s) (x y z : Nat) (hx : x < 16) (hy : y ≤ 255) (hz : z ≤ 255) (hcnd : ¬ s.R (x % 16) = 0) :
    Calls Try.prog 29 #[.pointer (some ⟨gy, 0, none⟩), .agg #[.int .u8 31, .int .u8 x, .int .u8 y, .int .u8 z]] w (RefP gy gb N m A cap s 31 x y z w) := by
  have HCND := Lib.hid hcnd
  clear hcnd
  have hb1 := bnew w (.cells #[.int .u8 31, .int .u8 x, .int .u8 y, .int .u8 z] 24)
  have hl1 := heap_alloc_last w (.cells #[.int .u8 31, .int .u8 x, .int .u8 y, .int .u8 z] 24)
  have hh := h.keep hb1
  have hc := rowcell hl1
  obtain ⟨ym, zm, vx, vy, vz, va, nx, wd, sj, q4, far, sn, q8, nr, fym, lym, fzm, lzm, fx, lx, rx, ry, rz, ra, rn, fn2, rw0, fwd, rj, fq4, rf, rsn, fq8, rnr, HYM, HZM, HVX, HVY, HVZ, HNX, HWD, HSJ, HFAR, HSN, HNR, HVA, HS16, HWR, HS8, HWN, HQ4, HQ8, HVX2⟩ := stepPre h x y z hx hy hz
  have HB1 := Lib.hid hb1
  have HL1 := Lib.hid hl1
  have HH := Lib.hid hh
  clear hb1 hl1 hh h
  have cc : ¬ vx = 0 := by rw [HVX2.out]; exact HCND.out
  have c2 : (vx == 0) = false := by rw [beq_eq_false_iff_ne]; exact cc
  have c3 : (vx != 0) = true := by rw [bne_iff_ne]; exact cc
  clear cc
  go_enter Try.func29, Try.ntmps29
  go_upto_region 1 with fail
  obtain ⟨NI, hN⟩ : ∃ N, N = w.heap.size := ⟨_, rfl⟩
  rw [← hN] at hc ⊢
  have HN := Lib.hid hN
  generalize w.alloc (.cells #[.int .u8 31, .int .u8 x, .int .u8 y, .int .u8 z] 24) = w1 at *
  clear hN hc
  have hl1 := HL1.out
  rw [← HN.out] at hl1
  have hS0 : (fun w' : World => w'.heap[NI]? = some (.cells #[.int .u8 31, .int .u8 x, .int .u8 y, .int .u8 z] 24 (0, 0))) (World.drew w1) := hl1
  have HL1' := Lib.hid hl1
  clear hl1
  refine wp_region_held (S := fun w' : World => w'.heap[NI]? = some (.cells #[.int .u8 31, .int .u8 x, .int .u8 y, .int .u8 z] 24 (0, 0))) (by kernel_rfl) ?_
  change wpAnyH _ _ _ _ _ _ _ _ (World.drew _)
  refine takeH 1 (.pointer (some ⟨NI, 0, none⟩)) (some 28) rfl rfl (by kernel_rfl) (by kernel_rfl) (by kernel_rfl) (fun _ _ _ h => h) (.inl ⟨by kernel_rfl, fun w _ => by go_simp⟩) hS0 ?_
  refine takeH 2 (.int .u8 31) (some 29) rfl rfl (by kernel_rfl) (by kernel_rfl) (by kernel_rfl) (fun _ _ _ h => h) (.inl ⟨by kernel_rfl, fun w hw => by have hc := rowcell hw; go_simp⟩) hS0 ?_
  refine callH 0 rfl (by kernel_rfl) (by kernel_rfl) (some 27) rfl 22 #[] ?hrun ((refNames_any _).mono ?_)
  case hrun => go_simp
  rintro e w2 ⟨he, hw2⟩
  have hG : w2.heap[w1.heap.size]? = some (.cells nameVals 9) := by rw [← hw2]; exact heap_alloc_last w1.drew _
  have hb2 : Below w1.heap.size w1 w2 := by rw [← hw2]; exact bnext (drewb w1) (bnew w1.drew _)
  have hS2 := bkeep hb2 HL1'.out
  have C5 := rowcell hG
  have hsz : w1.drew.heap.size = w1.heap.size := rfl
  rw [hsz] at he
  obtain ⟨G, hGG⟩ : ∃ G, G = w1.heap.size := ⟨_, rfl⟩
  rw [← hGG] at he C5
  have HB2 := Lib.hid hb2
  clear hw2 hG hb2 hsz hS0 hGG
  refine ⟨_, he, hS2, ?_⟩
  have C6 : w2.cell? ⟨G, 31, none⟩ = some (.string ⟨#[106, 122]⟩) := by rw [C5]; rfl
  clear C5
  refine runH 3 (.pointer (some ⟨G, 31, none⟩)) (some 30) rfl (by kernel_rfl) (by kernel_rfl) rfl (by go_simp) hS2 ?_
  refine runH 4 (.string ⟨#[106, 122]⟩) (some 31) rfl (by kernel_rfl) (by kernel_rfl) rfl (by go_simp) hS2 ?_
  refine runH 5 (.string ⟨#[106, 122]⟩) (some 5) rfl (by kernel_rfl) (by kernel_rfl) rfl (by go_simp) hS2 ?_
  refine wpAnyH_done (by kernel_rfl) ?_ _
  go_simp
  have HL2 := Lib.hid hS2
  have HH2 := Lib.hid (HH.out.keep HB2.out)
  have HBB := Lib.hid (bnext HB1.out HB2.out)
  clear C6 hS2 HL1' he HH HL1 HB1
  have hc := rowcell HL2.out
  have c16 := HH2.out.at_
  rw [← HVA.out] at c16
  have cx := HH2.out.reg x hx
  rw [← HVX.out] at cx
  have cy := HH2.out.reg ym (by omega)
  rw [← HVY.out] at cy
  have cz := HH2.out.reg zm (by omega)
  rw [← HVZ.out] at cz
  go_wp2_with fail
  refine (HS16.out _).mono ?_; rintro e wx ⟨rfl, hwx⟩; subst hwx
  go_wp2_with fail
  refine (HWR.out _).mono ?_; rintro e wx ⟨rfl, hwx⟩; subst hwx
  go_upto_region 5 with fail
  go_quiet (fail)
  go_upto_region 6 with fail
  go_quiet (fail)
  go_upto_region 7 with fail
  go_quiet (fail)
  go_wp2_with fail
  refine (HS8.out _).mono ?_; rintro e w3 ⟨rfl, hw3⟩
  have hb3 : Below w2.heap.size w2 w3 := by rw [← hw3]; exact bdrewN (Below.refl _ _) _
  clear hw3 hc c16 cx cy cz
  have HL3 := Lib.hid (bkeep hb3 HL2.out)
  have HH3 := Lib.hid (HH2.out.keep hb3)
  have HB3 := Lib.hid (bnext HBB.out hb3)
  clear hb3 HL2 HH2 HBB
  go_wp2_with fail
  refine (HWN.out _).mono ?_; rintro e wx ⟨rfl, hwx⟩; subst hwx
  have hc := rowcell HL3.out
  go_wp2_with fail
  have hov : 0 ≤ vx ∧ vx ≤ 4294967295 := rx
  have hnv : 0 ≤ nx ∧ nx ≤ 4294967295 := rn
  have HST := Lib.hid (show stepI m s 31 x y z = (setAt (setR s x vx) nx, 0) by rw [show setR s x vx = s from by rw [HVX.out]; exact setR_same s x, show stepI m s 31 x y z = (setAt s (if s.R (x % 16) = 0 then toI y z (nextI s) else nextI s), 0) from rfl, if_neg (by first | exact HCND.out | exact Int.not_lt.2 HCND.out), HNX.out])
  have hfm : ∀ w, Calls Try.prog 9 #[.int .i64 31] w fun e w' => e = .returned (.int .i64 5) ∧ Below w.heap.size w w' := fun w => by have h := refForm_in 31 (by omega) (by omega) w; rw [show formOf (31 : Int).toNat = 5 from by decide] at h; exact h
  refine (hfm _).mono ?_; rintro e w4 ⟨rfl, hb4⟩
  have HL4 := Lib.hid (bkeep hb4 HL3.out)
  have HH4 := Lib.hid (HH3.out.keep hb4)
  have HC4 := Lib.hid ((Chg.of_below (dwS gy gb) HB3.out).trans (Chg.of_below (dwS gy gb) hb4) (fun _ _ h => h))
  clear hb4 hc hfm
  have hc := rowcell HL4.out
  have c16 := HH4.out.at_
  have fx2 : (x : Int).tmod 16 = x := by rw [Int.tmod_eq_emod_of_nonneg (by omega)]; omega
  have lx0 : (0 : Int) ≤ x := by omega
  have cx := HH4.out.reg x hx
  have fzx : w4.frozen? ⟨gy, x, none⟩ = false := HH4.out.rw.frozen _
  go_upto_region 130 with fail
  refine wp_region_still_tail 8 (by kernel_rfl) (by kernel_rfl) ?_
  simp only [List.take_succ_cons, List.take_zero, List.drop_succ_cons, List.drop_zero]
  change wpStill _ _ (World.drew w4) _ _ _
  iterate 8 still_step
  refine wpStill_nil ?_
  change wpList _ _ _ _ _ (World.drew w4)
  go_upto_region 131 with fail
  have hD5 : DW (World.drew (w4.setCell ⟨gy, x, none⟩ (.int .u32 vx))) gy gb N m A cap (setR s x vx) := (HH4.out.setR x hx _ hov.1 hov.2).keep (drewb _)
  have hC5 : Chg (dwS gy gb) w (World.drew (w4.setCell ⟨gy, x, none⟩ (.int .u32 vx))) := (HC4.out.trans (Chg.of_one (S := dwS gy gb) (one_setCell _ gy x _) (.inl rfl)) (fun _ _ h => h)).trans (Chg.of_below (dwS gy gb) (drewb _)) (fun _ _ h => h)
  generalize World.drew (w4.setCell ⟨gy, x, none⟩ (.int .u32 vx)) = w5 at *
  have HD5 := Lib.hid hD5
  have HC5 := Lib.hid hC5
  clear hD5 hC5 cx fzx hc HH4 HC4 HL4 c16
  have c16 := HD5.out.at_
  have fz16 : w5.frozen? ⟨gy, 16, none⟩ = false := HD5.out.rw.frozen _
  go_wp2_with fail
  go_ret
  refine ⟨?_, ?_, HC5.out.trans (Chg.of_one (S := dwS gy gb) (one_setCell _ gy 16 _) (.inl rfl)) (fun _ _ h => h)⟩
  · rw [HST.out]; rfl
  · rw [HST.out]; exact HD5.out.setAt _ hnv.1 hnv.2
set_option maxRecDepth 100000 in
set_option maxHeartbeats 16000000 in
theorem refStep_32a {w : World} {gy gb N m cap : Nat} {A : Option Addr} {s : Mach} (h : DW w gy gb N m A cap s) (x y z : Nat) (hx : x < 16) (hy : y ≤ 255) (hz : z ≤ 255) (hcnd : s.R (x % 16) = 0) :
    Calls Try.prog 29 #[.pointer (some ⟨gy, 0, none⟩), .agg #[.int .u8 32, .int .u8 x, .int .u8 y, .int .u8 z]] w (RefP gy gb N m A cap s 32 x y z w) := by
  have HCND := Lib.hid hcnd
  clear hcnd
  have hb1 := bnew w (.cells #[.int .u8 32, .int .u8 x, .int .u8 y, .int .u8 z] 24)
  have hl1 := heap_alloc_last w (.cells #[.int .u8 32, .int .u8 x, .int .u8 y, .int .u8 z] 24)
  have hh := h.keep hb1
  have hc := rowcell hl1
  obtain ⟨ym, zm, vx, vy, vz, va, nx, wd, sj, q4, far, sn, q8, nr, fym, lym, fzm, lzm, fx, lx, rx, ry, rz, ra, rn, fn2, rw0, fwd, rj, fq4, rf, rsn, fq8, rnr, HYM, HZM, HVX, HVY, HVZ, HNX, HWD, HSJ, HFAR, HSN, HNR, HVA, HS16, HWR, HS8, HWN, HQ4, HQ8, HVX2⟩ := stepPre h x y z hx hy hz
  have HB1 := Lib.hid hb1
  have HL1 := Lib.hid hl1
  have HH := Lib.hid hh
  clear hb1 hl1 hh h
  have cc : vx = 0 := by rw [HVX2.out]; exact HCND.out
  have c2 : (vx == 0) = true := by rw [beq_iff_eq]; exact cc
  have c3 : (vx != 0) = false := by rw [bne_eq_false_iff_eq]; exact cc
  clear cc
  go_enter Try.func29, Try.ntmps29
  go_upto_region 1 with fail
  obtain ⟨NI, hN⟩ : ∃ N, N = w.heap.size := ⟨_, rfl⟩
  rw [← hN] at hc ⊢
  have HN := Lib.hid hN
  generalize w.alloc (.cells #[.int .u8 32, .int .u8 x, .int .u8 y, .int .u8 z] 24) = w1 at *
  clear hN hc
  have hl1 := HL1.out
  rw [← HN.out] at hl1
  have hS0 : (fun w' : World => w'.heap[NI]? = some (.cells #[.int .u8 32, .int .u8 x, .int .u8 y, .int .u8 z] 24 (0, 0))) (World.drew w1) := hl1
  have HL1' := Lib.hid hl1
  clear hl1
  refine wp_region_held (S := fun w' : World => w'.heap[NI]? = some (.cells #[.int .u8 32, .int .u8 x, .int .u8 y, .int .u8 z] 24 (0, 0))) (by kernel_rfl) ?_
  change wpAnyH _ _ _ _ _ _ _ _ (World.drew _)
  refine takeH 1 (.pointer (some ⟨NI, 0, none⟩)) (some 28) rfl rfl (by kernel_rfl) (by kernel_rfl) (by kernel_rfl) (fun _ _ _ h => h) (.inl ⟨by kernel_rfl, fun w _ => by go_simp⟩) hS0 ?_
  refine takeH 2 (.int .u8 32) (some 29) rfl rfl (by kernel_rfl) (by kernel_rfl) (by kernel_rfl) (fun _ _ _ h => h) (.inl ⟨by kernel_rfl, fun w hw => by have hc := rowcell hw; go_simp⟩) hS0 ?_
  refine callH 0 rfl (by kernel_rfl) (by kernel_rfl) (some 27) rfl 22 #[] ?hrun ((refNames_any _).mono ?_)
  case hrun => go_simp
  rintro e w2 ⟨he, hw2⟩
  have hG : w2.heap[w1.heap.size]? = some (.cells nameVals 9) := by rw [← hw2]; exact heap_alloc_last w1.drew _
  have hb2 : Below w1.heap.size w1 w2 := by rw [← hw2]; exact bnext (drewb w1) (bnew w1.drew _)
  have hS2 := bkeep hb2 HL1'.out
  have C5 := rowcell hG
  have hsz : w1.drew.heap.size = w1.heap.size := rfl
  rw [hsz] at he
  obtain ⟨G, hGG⟩ : ∃ G, G = w1.heap.size := ⟨_, rfl⟩
  rw [← hGG] at he C5
  have HB2 := Lib.hid hb2
  clear hw2 hG hb2 hsz hS0 hGG
  refine ⟨_, he, hS2, ?_⟩
  have C6 : w2.cell? ⟨G, 32, none⟩ = some (.string ⟨#[106, 110, 122]⟩) := by rw [C5]; rfl
  clear C5
  refine runH 3 (.pointer (some ⟨G, 32, none⟩)) (some 30) rfl (by kernel_rfl) (by kernel_rfl) rfl (by go_simp) hS2 ?_
  refine runH 4 (.string ⟨#[106, 110, 122]⟩) (some 31) rfl (by kernel_rfl) (by kernel_rfl) rfl (by go_simp) hS2 ?_
  refine runH 5 (.string ⟨#[106, 110, 122]⟩) (some 5) rfl (by kernel_rfl) (by kernel_rfl) rfl (by go_simp) hS2 ?_
  refine wpAnyH_done (by kernel_rfl) ?_ _
  go_simp
  have HL2 := Lib.hid hS2
  have HH2 := Lib.hid (HH.out.keep HB2.out)
  have HBB := Lib.hid (bnext HB1.out HB2.out)
  clear C6 hS2 HL1' he HH HL1 HB1
  have hc := rowcell HL2.out
  have c16 := HH2.out.at_
  rw [← HVA.out] at c16
  have cx := HH2.out.reg x hx
  rw [← HVX.out] at cx
  have cy := HH2.out.reg ym (by omega)
  rw [← HVY.out] at cy
  have cz := HH2.out.reg zm (by omega)
  rw [← HVZ.out] at cz
  go_wp2_with fail
  refine (HS16.out _).mono ?_; rintro e wx ⟨rfl, hwx⟩; subst hwx
  go_wp2_with fail
  refine (HWR.out _).mono ?_; rintro e wx ⟨rfl, hwx⟩; subst hwx
  go_upto_region 5 with fail
  go_quiet (fail)
  go_upto_region 6 with fail
  go_quiet (fail)
  go_upto_region 7 with fail
  go_quiet (fail)
  go_wp2_with fail
  refine (HS8.out _).mono ?_; rintro e w3 ⟨rfl, hw3⟩
  have hb3 : Below w2.heap.size w2 w3 := by rw [← hw3]; exact bdrewN (Below.refl _ _) _
  clear hw3 hc c16 cx cy cz
  have HL3 := Lib.hid (bkeep hb3 HL2.out)
  have HH3 := Lib.hid (HH2.out.keep hb3)
  have HB3 := Lib.hid (bnext HBB.out hb3)
  clear hb3 HL2 HH2 HBB
  go_wp2_with fail
  refine (HWN.out _).mono ?_; rintro e wx ⟨rfl, hwx⟩; subst hwx
  have hc := rowcell HL3.out
  go_wp2_with fail
  have hov : 0 ≤ vx ∧ vx ≤ 4294967295 := rx
  have hnv : 0 ≤ nx ∧ nx ≤ 4294967295 := rn
  have HST := Lib.hid (show stepI m s 32 x y z = (setAt (setR s x vx) nx, 0) by rw [show setR s x vx = s from by rw [HVX.out]; exact setR_same s x, show stepI m s 32 x y z = (setAt s (if s.R (x % 16) = 0 then nextI s else toI y z (nextI s)), 0) from rfl, if_pos HCND.out, HNX.out])
  have hfm : ∀ w, Calls Try.prog 9 #[.int .i64 32] w fun e w' => e = .returned (.int .i64 5) ∧ Below w.heap.size w w' := fun w => by have h := refForm_in 32 (by omega) (by omega) w; rw [show formOf (32 : Int).toNat = 5 from by decide] at h; exact h
  refine (hfm _).mono ?_; rintro e w4 ⟨rfl, hb4⟩
  have HL4 := Lib.hid (bkeep hb4 HL3.out)
  have HH4 := Lib.hid (HH3.out.keep hb4)
  have HC4 := Lib.hid ((Chg.of_below (dwS gy gb) HB3.out).trans (Chg.of_below (dwS gy gb) hb4) (fun _ _ h => h))
  clear hb4 hc hfm
  have hc := rowcell HL4.out
  have c16 := HH4.out.at_
  have fx2 : (x : Int).tmod 16 = x := by rw [Int.tmod_eq_emod_of_nonneg (by omega)]; omega
  have lx0 : (0 : Int) ≤ x := by omega
  have cx := HH4.out.reg x hx
  have fzx : w4.frozen? ⟨gy, x, none⟩ = false := HH4.out.rw.frozen _
  go_upto_region 130 with fail
  refine wp_region_still_tail 8 (by kernel_rfl) (by kernel_rfl) ?_
  simp only [List.take_succ_cons, List.take_zero, List.drop_succ_cons, List.drop_zero]
  change wpStill _ _ (World.drew w4) _ _ _
  iterate 8 still_step
  refine wpStill_nil ?_
  change wpList _ _ _ _ _ (World.drew w4)
  go_upto_region 131 with fail
  have hD5 : DW (World.drew (w4.setCell ⟨gy, x, none⟩ (.int .u32 vx))) gy gb N m A cap (setR s x vx) := (HH4.out.setR x hx _ hov.1 hov.2).keep (drewb _)
  have hC5 : Chg (dwS gy gb) w (World.drew (w4.setCell ⟨gy, x, none⟩ (.int .u32 vx))) := (HC4.out.trans (Chg.of_one (S := dwS gy gb) (one_setCell _ gy x _) (.inl rfl)) (fun _ _ h => h)).trans (Chg.of_below (dwS gy gb) (drewb _)) (fun _ _ h => h)
  generalize World.drew (w4.setCell ⟨gy, x, none⟩ (.int .u32 vx)) = w5 at *
  have HD5 := Lib.hid hD5
  have HC5 := Lib.hid hC5
  clear hD5 hC5 cx fzx hc HH4 HC4 HL4 c16
  have c16 := HD5.out.at_
  have fz16 : w5.frozen? ⟨gy, 16, none⟩ = false := HD5.out.rw.frozen _
  go_wp2_with fail
  go_ret
  refine ⟨?_, ?_, HC5.out.trans (Chg.of_one (S := dwS gy gb) (one_setCell _ gy 16 _) (.inl rfl)) (fun _ _ h => h)⟩
  · rw [HST.out]; rfl
  · rw [HST.out]; exact HD5.out.setAt _ hnv.1 hnv.2
set_option maxRecDepth 100000 in
set_option maxHeartbeats 16000000 in
theorem refStep_32b {w : World} {gy gb N m cap : Nat} {A : Option Addr} {s : Mach} (h : DW w gy gb N m A cap s) (x y z : Nat) (hx : x < 16) (hy : y ≤ 255) (hz : z ≤ 255) (hcnd : ¬ s.R (x % 16) = 0) :
    Calls Try.prog 29 #[.pointer (some ⟨gy, 0, none⟩), .agg #[.int .u8 32, .int .u8 x, .int .u8 y, .int .u8 z]] w (RefP gy gb N m A cap s 32 x y z w) := by
  have HCND := Lib.hid hcnd
  clear hcnd
  have hb1 := bnew w (.cells #[.int .u8 32, .int .u8 x, .int .u8 y, .int .u8 z] 24)
  have hl1 := heap_alloc_last w (.cells #[.int .u8 32, .int .u8 x, .int .u8 y, .int .u8 z] 24)
  have hh := h.keep hb1
  have hc := rowcell hl1
  obtain ⟨ym, zm, vx, vy, vz, va, nx, wd, sj, q4, far, sn, q8, nr, fym, lym, fzm, lzm, fx, lx, rx, ry, rz, ra, rn, fn2, rw0, fwd, rj, fq4, rf, rsn, fq8, rnr, HYM, HZM, HVX, HVY, HVZ, HNX, HWD, HSJ, HFAR, HSN, HNR, HVA, HS16, HWR, HS8, HWN, HQ4, HQ8, HVX2⟩ := stepPre h x y z hx hy hz
  have HB1 := Lib.hid hb1
  have HL1 := Lib.hid hl1
  have HH := Lib.hid hh
  clear hb1 hl1 hh h
  have cc : ¬ vx = 0 := by rw [HVX2.out]; exact HCND.out
  have c2 : (vx == 0) = false := by rw [beq_eq_false_iff_ne]; exact cc
  have c3 : (vx != 0) = true := by rw [bne_iff_ne]; exact cc
  clear cc
  go_enter Try.func29, Try.ntmps29
  go_upto_region 1 with fail
  obtain ⟨NI, hN⟩ : ∃ N, N = w.heap.size := ⟨_, rfl⟩
  rw [← hN] at hc ⊢
  have HN := Lib.hid hN
  generalize w.alloc (.cells #[.int .u8 32, .int .u8 x, .int .u8 y, .int .u8 z] 24) = w1 at *
  clear hN hc
  have hl1 := HL1.out
  rw [← HN.out] at hl1
  have hS0 : (fun w' : World => w'.heap[NI]? = some (.cells #[.int .u8 32, .int .u8 x, .int .u8 y, .int .u8 z] 24 (0, 0))) (World.drew w1) := hl1
  have HL1' := Lib.hid hl1
  clear hl1
  refine wp_region_held (S := fun w' : World => w'.heap[NI]? = some (.cells #[.int .u8 32, .int .u8 x, .int .u8 y, .int .u8 z] 24 (0, 0))) (by kernel_rfl) ?_
  change wpAnyH _ _ _ _ _ _ _ _ (World.drew _)
  refine takeH 1 (.pointer (some ⟨NI, 0, none⟩)) (some 28) rfl rfl (by kernel_rfl) (by kernel_rfl) (by kernel_rfl) (fun _ _ _ h => h) (.inl ⟨by kernel_rfl, fun w _ => by go_simp⟩) hS0 ?_
  refine takeH 2 (.int .u8 32) (some 29) rfl rfl (by kernel_rfl) (by kernel_rfl) (by kernel_rfl) (fun _ _ _ h => h) (.inl ⟨by kernel_rfl, fun w hw => by have hc := rowcell hw; go_simp⟩) hS0 ?_
  refine callH 0 rfl (by kernel_rfl) (by kernel_rfl) (some 27) rfl 22 #[] ?hrun ((refNames_any _).mono ?_)
  case hrun => go_simp
  rintro e w2 ⟨he, hw2⟩
  have hG : w2.heap[w1.heap.size]? = some (.cells nameVals 9) := by rw [← hw2]; exact heap_alloc_last w1.drew _
  have hb2 : Below w1.heap.size w1 w2 := by rw [← hw2]; exact bnext (drewb w1) (bnew w1.drew _)
  have hS2 := bkeep hb2 HL1'.out
  have C5 := rowcell hG
  have hsz : w1.drew.heap.size = w1.heap.size := rfl
  rw [hsz] at he
  obtain ⟨G, hGG⟩ : ∃ G, G = w1.heap.size := ⟨_, rfl⟩
  rw [← hGG] at he C5
  have HB2 := Lib.hid hb2
  clear hw2 hG hb2 hsz hS0 hGG
  refine ⟨_, he, hS2, ?_⟩
  have C6 : w2.cell? ⟨G, 32, none⟩ = some (.string ⟨#[106, 110, 122]⟩) := by rw [C5]; rfl
  clear C5
  refine runH 3 (.pointer (some ⟨G, 32, none⟩)) (some 30) rfl (by kernel_rfl) (by kernel_rfl) rfl (by go_simp) hS2 ?_
  refine runH 4 (.string ⟨#[106, 110, 122]⟩) (some 31) rfl (by kernel_rfl) (by kernel_rfl) rfl (by go_simp) hS2 ?_
  refine runH 5 (.string ⟨#[106, 110, 122]⟩) (some 5) rfl (by kernel_rfl) (by kernel_rfl) rfl (by go_simp) hS2 ?_
  refine wpAnyH_done (by kernel_rfl) ?_ _
  go_simp
  have HL2 := Lib.hid hS2
  have HH2 := Lib.hid (HH.out.keep HB2.out)
  have HBB := Lib.hid (bnext HB1.out HB2.out)
  clear C6 hS2 HL1' he HH HL1 HB1
  have hc := rowcell HL2.out
  have c16 := HH2.out.at_
  rw [← HVA.out] at c16
  have cx := HH2.out.reg x hx
  rw [← HVX.out] at cx
  have cy := HH2.out.reg ym (by omega)
  rw [← HVY.out] at cy
  have cz := HH2.out.reg zm (by omega)
  rw [← HVZ.out] at cz
  go_wp2_with fail
  refine (HS16.out _).mono ?_; rintro e wx ⟨rfl, hwx⟩; subst hwx
  go_wp2_with fail
  refine (HWR.out _).mono ?_; rintro e wx ⟨rfl, hwx⟩; subst hwx
  go_upto_region 5 with fail
  go_quiet (fail)
  go_upto_region 6 with fail
  go_quiet (fail)
  go_upto_region 7 with fail
  go_quiet (fail)
  go_wp2_with fail
  refine (HS8.out _).mono ?_; rintro e w3 ⟨rfl, hw3⟩
  have hb3 : Below w2.heap.size w2 w3 := by rw [← hw3]; exact bdrewN (Below.refl _ _) _
  clear hw3 hc c16 cx cy cz
  have HL3 := Lib.hid (bkeep hb3 HL2.out)
  have HH3 := Lib.hid (HH2.out.keep hb3)
  have HB3 := Lib.hid (bnext HBB.out hb3)
  clear hb3 HL2 HH2 HBB
  go_wp2_with fail
  refine (HWN.out _).mono ?_; rintro e wx ⟨rfl, hwx⟩; subst hwx
  have hc := rowcell HL3.out
  go_wp2_with fail
  have hov : 0 ≤ vx ∧ vx ≤ 4294967295 := rx
  have hnv : 0 ≤ far ∧ far ≤ 4294967295 := rf
  have HST := Lib.hid (show stepI m s 32 x y z = (setAt (setR s x vx) far, 0) by rw [show setR s x vx = s from by rw [HVX.out]; exact setR_same s x, show stepI m s 32 x y z = (setAt s (if s.R (x % 16) = 0 then nextI s else toI y z (nextI s)), 0) from rfl, if_neg (by first | exact HCND.out | exact Int.not_lt.2 HCND.out), HFAR.out, HNX.out])
  have hfm : ∀ w, Calls Try.prog 9 #[.int .i64 32] w fun e w' => e = .returned (.int .i64 5) ∧ Below w.heap.size w w' := fun w => by have h := refForm_in 32 (by omega) (by omega) w; rw [show formOf (32 : Int).toNat = 5 from by decide] at h; exact h
  refine (hfm _).mono ?_; rintro e w4 ⟨rfl, hb4⟩
  have HL4 := Lib.hid (bkeep hb4 HL3.out)
  have HH4 := Lib.hid (HH3.out.keep hb4)
  have HC4 := Lib.hid ((Chg.of_below (dwS gy gb) HB3.out).trans (Chg.of_below (dwS gy gb) hb4) (fun _ _ h => h))
  clear hb4 hc hfm
  have hc := rowcell HL4.out
  have c16 := HH4.out.at_
  have fx2 : (x : Int).tmod 16 = x := by rw [Int.tmod_eq_emod_of_nonneg (by omega)]; omega
  have lx0 : (0 : Int) ≤ x := by omega
  have cx := HH4.out.reg x hx
  have fzx : w4.frozen? ⟨gy, x, none⟩ = false := HH4.out.rw.frozen _
  go_upto_region 130 with fail
  refine wp_region_still_tail 8 (by kernel_rfl) (by kernel_rfl) ?_
  simp only [List.take_succ_cons, List.take_zero, List.drop_succ_cons, List.drop_zero]
  change wpStill _ _ (World.drew w4) _ _ _
  iterate 8 still_step
  refine wpStill_nil ?_
  change wpList _ _ _ _ _ (World.drew w4)
  go_upto_region 131 with fail
  have hD5 : DW (World.drew (w4.setCell ⟨gy, x, none⟩ (.int .u32 vx))) gy gb N m A cap (setR s x vx) := (HH4.out.setR x hx _ hov.1 hov.2).keep (drewb _)
  have hC5 : Chg (dwS gy gb) w (World.drew (w4.setCell ⟨gy, x, none⟩ (.int .u32 vx))) := (HC4.out.trans (Chg.of_one (S := dwS gy gb) (one_setCell _ gy x _) (.inl rfl)) (fun _ _ h => h)).trans (Chg.of_below (dwS gy gb) (drewb _)) (fun _ _ h => h)
  generalize World.drew (w4.setCell ⟨gy, x, none⟩ (.int .u32 vx)) = w5 at *
  have HD5 := Lib.hid hD5
  have HC5 := Lib.hid hC5
  clear hD5 hC5 cx fzx hc HH4 HC4 HL4 c16
  have c16 := HD5.out.at_
  have fz16 : w5.frozen? ⟨gy, 16, none⟩ = false := HD5.out.rw.frozen _
  go_wp2_with fail
  go_ret
  refine ⟨?_, ?_, HC5.out.trans (Chg.of_one (S := dwS gy gb) (one_setCell _ gy 16 _) (.inl rfl)) (fun _ _ h => h)⟩
  · rw [HST.out]; rfl
  · rw [HST.out]; exact HD5.out.setAt _ hnv.1 hnv.2
set_option maxRecDepth 100000 in
set_option maxHeartbeats 16000000 in
theorem refStep_36a {w : World} {gy gb N m cap : Nat} {A : Option Addr} {s : Mach} (h : DW w gy gb N m A cap s) (x y z : Nat) (hx : x < 16) (hy : y ≤ 255) (hz : z ≤ 255) (hz8 : z = 8) :
    Calls Try.prog 29 #[.pointer (some ⟨gy, 0, none⟩), .agg #[.int .u8 36, .int .u8 x, .int .u8 y, .int .u8 z]] w (RefP gy gb N m A cap s 36 x y z w) := by
  have HZ8 := Lib.hid hz8
  have hb1 := bnew w (.cells #[.int .u8 36, .int .u8 x, .int .u8 y, .int .u8 z] 24)
  have hl1 := heap_alloc_last w (.cells #[.int .u8 36, .int .u8 x, .int .u8 y, .int .u8 z] 24)
  have hh := h.keep hb1
  have hc := rowcell hl1
  obtain ⟨ym, zm, vx, vy, vz, va, nx, wd, sj, q4, far, sn, q8, nr, fym, lym, fzm, lzm, fx, lx, rx, ry, rz, ra, rn, fn2, rw0, fwd, rj, fq4, rf, rsn, fq8, rnr, HYM, HZM, HVX, HVY, HVZ, HNX, HWD, HSJ, HFAR, HSN, HNR, HVA, HS16, HWR, HS8, HWN, HQ4, HQ8, HVX2⟩ := stepPre h x y z hx hy hz
  have HB1 := Lib.hid hb1
  have HL1 := Lib.hid hl1
  have HH := Lib.hid hh
  clear hb1 hl1 hh h
  obtain ⟨sv, hsv⟩ : ∃ k, k = sgI 256 vy := ⟨_, rfl⟩
  have HSV := Lib.hid hsv
  have bsv := sgI_le 256 vy (by omega)
  rw [← hsv] at bsv
  have HSV8 := Lib.hid (fun (w : World) => show Calls Try.prog 47 #[.int .u32 vy, .int .i64 (z : Nat)] w fun e w' => e = .returned (.int .i64 sv) ∧ w = w' by have h := refSigned8 vy ry.1 ry.2 w; rw [← hsv] at h; rw [show ((z : Nat) : Int) = 8 by omega]; exact h)
  clear hsv hz8
  obtain ⟨ov, hov⟩ : ∃ k, k = sv % 4294967296 := ⟨_, rfl⟩
  have HOV := Lib.hid hov
  have HWA := Lib.hid (fun w => by have h := refWrap_any (sv) (by omega) (by omega) w; rw [show (sv) % 4294967296 = ov from hov.symm] at h; exact h)
  have bov : 0 ≤ ov ∧ ov ≤ 4294967295 := by omega
  clear hov
  go_enter Try.func29, Try.ntmps29
  go_upto_region 1 with fail
  obtain ⟨NI, hN⟩ : ∃ N, N = w.heap.size := ⟨_, rfl⟩
  rw [← hN] at hc ⊢
  have HN := Lib.hid hN
  generalize w.alloc (.cells #[.int .u8 36, .int .u8 x, .int .u8 y, .int .u8 z] 24) = w1 at *
  clear hN hc
  have hl1 := HL1.out
  rw [← HN.out] at hl1
  have hS0 : (fun w' : World => w'.heap[NI]? = some (.cells #[.int .u8 36, .int .u8 x, .int .u8 y, .int .u8 z] 24 (0, 0))) (World.drew w1) := hl1
  have HL1' := Lib.hid hl1
  clear hl1
  refine wp_region_held (S := fun w' : World => w'.heap[NI]? = some (.cells #[.int .u8 36, .int .u8 x, .int .u8 y, .int .u8 z] 24 (0, 0))) (by kernel_rfl) ?_
  change wpAnyH _ _ _ _ _ _ _ _ (World.drew _)
  refine takeH 1 (.pointer (some ⟨NI, 0, none⟩)) (some 28) rfl rfl (by kernel_rfl) (by kernel_rfl) (by kernel_rfl) (fun _ _ _ h => h) (.inl ⟨by kernel_rfl, fun w _ => by go_simp⟩) hS0 ?_
  refine takeH 2 (.int .u8 36) (some 29) rfl rfl (by kernel_rfl) (by kernel_rfl) (by kernel_rfl) (fun _ _ _ h => h) (.inl ⟨by kernel_rfl, fun w hw => by have hc := rowcell hw; go_simp⟩) hS0 ?_
  refine callH 0 rfl (by kernel_rfl) (by kernel_rfl) (some 27) rfl 22 #[] ?hrun ((refNames_any _).mono ?_)
  case hrun => go_simp
  rintro e w2 ⟨he, hw2⟩
  have hG : w2.heap[w1.heap.size]? = some (.cells nameVals 9) := by rw [← hw2]; exact heap_alloc_last w1.drew _
  have hb2 : Below w1.heap.size w1 w2 := by rw [← hw2]; exact bnext (drewb w1) (bnew w1.drew _)
  have hS2 := bkeep hb2 HL1'.out
  have C5 := rowcell hG
  have hsz : w1.drew.heap.size = w1.heap.size := rfl
  rw [hsz] at he
  obtain ⟨G, hGG⟩ : ∃ G, G = w1.heap.size := ⟨_, rfl⟩
  rw [← hGG] at he C5
  have HB2 := Lib.hid hb2
  clear hw2 hG hb2 hsz hS0 hGG
  refine ⟨_, he, hS2, ?_⟩
  have C6 : w2.cell? ⟨G, 36, none⟩ = some (.string ⟨#[101, 120, 116]⟩) := by rw [C5]; rfl
  clear C5
  refine runH 3 (.pointer (some ⟨G, 36, none⟩)) (some 30) rfl (by kernel_rfl) (by kernel_rfl) rfl (by go_simp) hS2 ?_
  refine runH 4 (.string ⟨#[101, 120, 116]⟩) (some 31) rfl (by kernel_rfl) (by kernel_rfl) rfl (by go_simp) hS2 ?_
  refine runH 5 (.string ⟨#[101, 120, 116]⟩) (some 5) rfl (by kernel_rfl) (by kernel_rfl) rfl (by go_simp) hS2 ?_
  refine wpAnyH_done (by kernel_rfl) ?_ _
  go_simp
  have HL2 := Lib.hid hS2
  have HH2 := Lib.hid (HH.out.keep HB2.out)
  have HBB := Lib.hid (bnext HB1.out HB2.out)
  clear C6 hS2 HL1' he HH HL1 HB1
  have hc := rowcell HL2.out
  have c16 := HH2.out.at_
  rw [← HVA.out] at c16
  have cx := HH2.out.reg x hx
  rw [← HVX.out] at cx
  have cy := HH2.out.reg ym (by omega)
  rw [← HVY.out] at cy
  have cz := HH2.out.reg zm (by omega)
  rw [← HVZ.out] at cz
  go_wp2_with fail
  refine (HS16.out _).mono ?_; rintro e wx ⟨rfl, hwx⟩; subst hwx
  go_wp2_with fail
  refine (HWR.out _).mono ?_; rintro e wx ⟨rfl, hwx⟩; subst hwx
  go_upto_region 5 with fail
  go_quiet (fail)
  go_upto_region 6 with fail
  go_quiet (fail)
  go_upto_region 7 with fail
  go_quiet (fail)
  go_wp2_with fail
  refine (HS8.out _).mono ?_; rintro e w3 ⟨rfl, hw3⟩
  have hb3 : Below w2.heap.size w2 w3 := by rw [← hw3]; exact bdrewN (Below.refl _ _) _
  clear hw3 hc c16 cx cy cz
  have HL3 := Lib.hid (bkeep hb3 HL2.out)
  have HH3 := Lib.hid (HH2.out.keep hb3)
  have HB3 := Lib.hid (bnext HBB.out hb3)
  clear hb3 HL2 HH2 HBB
  go_wp2_with fail
  refine (HWN.out _).mono ?_; rintro e wx ⟨rfl, hwx⟩; subst hwx
  have hc := rowcell HL3.out
  go_wp2_with fail
  refine (HSV8.out _).mono ?_; rintro e wx ⟨rfl, hwx⟩; subst hwx
  go_wp2_with fail
  refine (HWA.out _).mono ?_; rintro e wx ⟨rfl, hwx⟩; subst hwx
  go_wp2_with fail
  have hov : 0 ≤ ov ∧ ov ≤ 4294967295 := bov
  have hnv : 0 ≤ nx ∧ nx ≤ 4294967295 := rn
  have HST := Lib.hid (show stepI m s 36 x y z = (setAt (setR s x ov) nx, 0) by rw [HOV.out, HSV.out, HVY.out, HYM.out, HNX.out, ← sx8_sg]; show (setAt (setR s x (if z = 8 then _ else _)) _, (0 : Int)) = _; rw [if_pos HZ8.out]; rfl)
  have hfm : ∀ w, Calls Try.prog 9 #[.int .i64 36] w fun e w' => e = .returned (.int .i64 7) ∧ Below w.heap.size w w' := fun w => by have h := refForm_in 36 (by omega) (by omega) w; rw [show formOf (36 : Int).toNat = 7 from by decide] at h; exact h
  refine (hfm _).mono ?_; rintro e w4 ⟨rfl, hb4⟩
  have HL4 := Lib.hid (bkeep hb4 HL3.out)
  have HH4 := Lib.hid (HH3.out.keep hb4)
  have HC4 := Lib.hid ((Chg.of_below (dwS gy gb) HB3.out).trans (Chg.of_below (dwS gy gb) hb4) (fun _ _ h => h))
  clear hb4 hc hfm
  have hc := rowcell HL4.out
  have c16 := HH4.out.at_
  have fx2 : (x : Int).tmod 16 = x := by rw [Int.tmod_eq_emod_of_nonneg (by omega)]; omega
  have lx0 : (0 : Int) ≤ x := by omega
  have cx := HH4.out.reg x hx
  have fzx : w4.frozen? ⟨gy, x, none⟩ = false := HH4.out.rw.frozen _
  go_upto_region 130 with fail
  refine wp_region_still_tail 8 (by kernel_rfl) (by kernel_rfl) ?_
  simp only [List.take_succ_cons, List.take_zero, List.drop_succ_cons, List.drop_zero]
  change wpStill _ _ (World.drew w4) _ _ _
  iterate 8 still_step
  refine wpStill_nil ?_
  change wpList _ _ _ _ _ (World.drew w4)
  go_upto_region 131 with fail
  have hD5 : DW (World.drew (w4.setCell ⟨gy, x, none⟩ (.int .u32 ov))) gy gb N m A cap (setR s x ov) := (HH4.out.setR x hx _ hov.1 hov.2).keep (drewb _)
  have hC5 : Chg (dwS gy gb) w (World.drew (w4.setCell ⟨gy, x, none⟩ (.int .u32 ov))) := (HC4.out.trans (Chg.of_one (S := dwS gy gb) (one_setCell _ gy x _) (.inl rfl)) (fun _ _ h => h)).trans (Chg.of_below (dwS gy gb) (drewb _)) (fun _ _ h => h)
  generalize World.drew (w4.setCell ⟨gy, x, none⟩ (.int .u32 ov)) = w5 at *
  have HD5 := Lib.hid hD5
  have HC5 := Lib.hid hC5
  clear hD5 hC5 cx fzx hc HH4 HC4 HL4 c16
  have c16 := HD5.out.at_
  have fz16 : w5.frozen? ⟨gy, 16, none⟩ = false := HD5.out.rw.frozen _
  go_wp2_with fail
  go_ret
  refine ⟨?_, ?_, HC5.out.trans (Chg.of_one (S := dwS gy gb) (one_setCell _ gy 16 _) (.inl rfl)) (fun _ _ h => h)⟩
  · rw [HST.out]; rfl
  · rw [HST.out]; exact HD5.out.setAt _ hnv.1 hnv.2
set_option maxRecDepth 100000 in
set_option maxHeartbeats 16000000 in
theorem refStep_36b {w : World} {gy gb N m cap : Nat} {A : Option Addr} {s : Mach} (h : DW w gy gb N m A cap s) (x y z : Nat) (hx : x < 16) (hy : y ≤ 255) (hz : z ≤ 255) (hz8 : z = 16) :
    Calls Try.prog 29 #[.pointer (some ⟨gy, 0, none⟩), .agg #[.int .u8 36, .int .u8 x, .int .u8 y, .int .u8 z]] w (RefP gy gb N m A cap s 36 x y z w) := by
  have HZ8 := Lib.hid hz8
  have hb1 := bnew w (.cells #[.int .u8 36, .int .u8 x, .int .u8 y, .int .u8 z] 24)
  have hl1 := heap_alloc_last w (.cells #[.int .u8 36, .int .u8 x, .int .u8 y, .int .u8 z] 24)
  have hh := h.keep hb1
  have hc := rowcell hl1
  obtain ⟨ym, zm, vx, vy, vz, va, nx, wd, sj, q4, far, sn, q8, nr, fym, lym, fzm, lzm, fx, lx, rx, ry, rz, ra, rn, fn2, rw0, fwd, rj, fq4, rf, rsn, fq8, rnr, HYM, HZM, HVX, HVY, HVZ, HNX, HWD, HSJ, HFAR, HSN, HNR, HVA, HS16, HWR, HS8, HWN, HQ4, HQ8, HVX2⟩ := stepPre h x y z hx hy hz
  have HB1 := Lib.hid hb1
  have HL1 := Lib.hid hl1
  have HH := Lib.hid hh
  clear hb1 hl1 hh h
  obtain ⟨sv, hsv⟩ : ∃ k, k = sgI 65536 vy := ⟨_, rfl⟩
  have HSV := Lib.hid hsv
  have bsv := sgI_le 65536 vy (by omega)
  rw [← hsv] at bsv
  have HSV8 := Lib.hid (fun (w : World) => show Calls Try.prog 47 #[.int .u32 vy, .int .i64 (z : Nat)] w fun e w' => e = .returned (.int .i64 sv) ∧ w = w' by have h := refSigned16 vy ry.1 ry.2 w; rw [← hsv] at h; rw [show ((z : Nat) : Int) = 16 by omega]; exact h)
  clear hsv hz8
  obtain ⟨ov, hov⟩ : ∃ k, k = sv % 4294967296 := ⟨_, rfl⟩
  have HOV := Lib.hid hov
  have HWA := Lib.hid (fun w => by have h := refWrap_any (sv) (by omega) (by omega) w; rw [show (sv) % 4294967296 = ov from hov.symm] at h; exact h)
  have bov : 0 ≤ ov ∧ ov ≤ 4294967295 := by omega
  clear hov
  go_enter Try.func29, Try.ntmps29
  go_upto_region 1 with fail
  obtain ⟨NI, hN⟩ : ∃ N, N = w.heap.size := ⟨_, rfl⟩
  rw [← hN] at hc ⊢
  have HN := Lib.hid hN
  generalize w.alloc (.cells #[.int .u8 36, .int .u8 x, .int .u8 y, .int .u8 z] 24) = w1 at *
  clear hN hc
  have hl1 := HL1.out
  rw [← HN.out] at hl1
  have hS0 : (fun w' : World => w'.heap[NI]? = some (.cells #[.int .u8 36, .int .u8 x, .int .u8 y, .int .u8 z] 24 (0, 0))) (World.drew w1) := hl1
  have HL1' := Lib.hid hl1
  clear hl1
  refine wp_region_held (S := fun w' : World => w'.heap[NI]? = some (.cells #[.int .u8 36, .int .u8 x, .int .u8 y, .int .u8 z] 24 (0, 0))) (by kernel_rfl) ?_
  change wpAnyH _ _ _ _ _ _ _ _ (World.drew _)
  refine takeH 1 (.pointer (some ⟨NI, 0, none⟩)) (some 28) rfl rfl (by kernel_rfl) (by kernel_rfl) (by kernel_rfl) (fun _ _ _ h => h) (.inl ⟨by kernel_rfl, fun w _ => by go_simp⟩) hS0 ?_
  refine takeH 2 (.int .u8 36) (some 29) rfl rfl (by kernel_rfl) (by kernel_rfl) (by kernel_rfl) (fun _ _ _ h => h) (.inl ⟨by kernel_rfl, fun w hw => by have hc := rowcell hw; go_simp⟩) hS0 ?_
  refine callH 0 rfl (by kernel_rfl) (by kernel_rfl) (some 27) rfl 22 #[] ?hrun ((refNames_any _).mono ?_)
  case hrun => go_simp
  rintro e w2 ⟨he, hw2⟩
  have hG : w2.heap[w1.heap.size]? = some (.cells nameVals 9) := by rw [← hw2]; exact heap_alloc_last w1.drew _
  have hb2 : Below w1.heap.size w1 w2 := by rw [← hw2]; exact bnext (drewb w1) (bnew w1.drew _)
  have hS2 := bkeep hb2 HL1'.out
  have C5 := rowcell hG
  have hsz : w1.drew.heap.size = w1.heap.size := rfl
  rw [hsz] at he
  obtain ⟨G, hGG⟩ : ∃ G, G = w1.heap.size := ⟨_, rfl⟩
  rw [← hGG] at he C5
  have HB2 := Lib.hid hb2
  clear hw2 hG hb2 hsz hS0 hGG
  refine ⟨_, he, hS2, ?_⟩
  have C6 : w2.cell? ⟨G, 36, none⟩ = some (.string ⟨#[101, 120, 116]⟩) := by rw [C5]; rfl
  clear C5
  refine runH 3 (.pointer (some ⟨G, 36, none⟩)) (some 30) rfl (by kernel_rfl) (by kernel_rfl) rfl (by go_simp) hS2 ?_
  refine runH 4 (.string ⟨#[101, 120, 116]⟩) (some 31) rfl (by kernel_rfl) (by kernel_rfl) rfl (by go_simp) hS2 ?_
  refine runH 5 (.string ⟨#[101, 120, 116]⟩) (some 5) rfl (by kernel_rfl) (by kernel_rfl) rfl (by go_simp) hS2 ?_
  refine wpAnyH_done (by kernel_rfl) ?_ _
  go_simp
  have HL2 := Lib.hid hS2
  have HH2 := Lib.hid (HH.out.keep HB2.out)
  have HBB := Lib.hid (bnext HB1.out HB2.out)
  clear C6 hS2 HL1' he HH HL1 HB1
  have hc := rowcell HL2.out
  have c16 := HH2.out.at_
  rw [← HVA.out] at c16
  have cx := HH2.out.reg x hx
  rw [← HVX.out] at cx
  have cy := HH2.out.reg ym (by omega)
  rw [← HVY.out] at cy
  have cz := HH2.out.reg zm (by omega)
  rw [← HVZ.out] at cz
  go_wp2_with fail
  refine (HS16.out _).mono ?_; rintro e wx ⟨rfl, hwx⟩; subst hwx
  go_wp2_with fail
  refine (HWR.out _).mono ?_; rintro e wx ⟨rfl, hwx⟩; subst hwx
  go_upto_region 5 with fail
  go_quiet (fail)
  go_upto_region 6 with fail
  go_quiet (fail)
  go_upto_region 7 with fail
  go_quiet (fail)
  go_wp2_with fail
  refine (HS8.out _).mono ?_; rintro e w3 ⟨rfl, hw3⟩
  have hb3 : Below w2.heap.size w2 w3 := by rw [← hw3]; exact bdrewN (Below.refl _ _) _
  clear hw3 hc c16 cx cy cz
  have HL3 := Lib.hid (bkeep hb3 HL2.out)
  have HH3 := Lib.hid (HH2.out.keep hb3)
  have HB3 := Lib.hid (bnext HBB.out hb3)
  clear hb3 HL2 HH2 HBB
  go_wp2_with fail
  refine (HWN.out _).mono ?_; rintro e wx ⟨rfl, hwx⟩; subst hwx
  have hc := rowcell HL3.out
  go_wp2_with fail
  refine (HSV8.out _).mono ?_; rintro e wx ⟨rfl, hwx⟩; subst hwx
  go_wp2_with fail
  refine (HWA.out _).mono ?_; rintro e wx ⟨rfl, hwx⟩; subst hwx
  go_wp2_with fail
  have hov : 0 ≤ ov ∧ ov ≤ 4294967295 := bov
  have hnv : 0 ≤ nx ∧ nx ≤ 4294967295 := rn
  have HST := Lib.hid (show stepI m s 36 x y z = (setAt (setR s x ov) nx, 0) by rw [HOV.out, HSV.out, HVY.out, HYM.out, HNX.out, ← sx16_sg]; show (setAt (setR s x (if z = 8 then _ else _)) _, (0 : Int)) = _; rw [if_neg (by rw [HZ8.out]; decide)]; rfl)
  have hfm : ∀ w, Calls Try.prog 9 #[.int .i64 36] w fun e w' => e = .returned (.int .i64 7) ∧ Below w.heap.size w w' := fun w => by have h := refForm_in 36 (by omega) (by omega) w; rw [show formOf (36 : Int).toNat = 7 from by decide] at h; exact h
  refine (hfm _).mono ?_; rintro e w4 ⟨rfl, hb4⟩
  have HL4 := Lib.hid (bkeep hb4 HL3.out)
  have HH4 := Lib.hid (HH3.out.keep hb4)
  have HC4 := Lib.hid ((Chg.of_below (dwS gy gb) HB3.out).trans (Chg.of_below (dwS gy gb) hb4) (fun _ _ h => h))
  clear hb4 hc hfm
  have hc := rowcell HL4.out
  have c16 := HH4.out.at_
  have fx2 : (x : Int).tmod 16 = x := by rw [Int.tmod_eq_emod_of_nonneg (by omega)]; omega
  have lx0 : (0 : Int) ≤ x := by omega
  have cx := HH4.out.reg x hx
  have fzx : w4.frozen? ⟨gy, x, none⟩ = false := HH4.out.rw.frozen _
  go_upto_region 130 with fail
  refine wp_region_still_tail 8 (by kernel_rfl) (by kernel_rfl) ?_
  simp only [List.take_succ_cons, List.take_zero, List.drop_succ_cons, List.drop_zero]
  change wpStill _ _ (World.drew w4) _ _ _
  iterate 8 still_step
  refine wpStill_nil ?_
  change wpList _ _ _ _ _ (World.drew w4)
  go_upto_region 131 with fail
  have hD5 : DW (World.drew (w4.setCell ⟨gy, x, none⟩ (.int .u32 ov))) gy gb N m A cap (setR s x ov) := (HH4.out.setR x hx _ hov.1 hov.2).keep (drewb _)
  have hC5 : Chg (dwS gy gb) w (World.drew (w4.setCell ⟨gy, x, none⟩ (.int .u32 ov))) := (HC4.out.trans (Chg.of_one (S := dwS gy gb) (one_setCell _ gy x _) (.inl rfl)) (fun _ _ h => h)).trans (Chg.of_below (dwS gy gb) (drewb _)) (fun _ _ h => h)
  generalize World.drew (w4.setCell ⟨gy, x, none⟩ (.int .u32 ov)) = w5 at *
  have HD5 := Lib.hid hD5
  have HC5 := Lib.hid hC5
  clear hD5 hC5 cx fzx hc HH4 HC4 HL4 c16
  have c16 := HD5.out.at_
  have fz16 : w5.frozen? ⟨gy, 16, none⟩ = false := HD5.out.rw.frozen _
  go_wp2_with fail
  go_ret
  refine ⟨?_, ?_, HC5.out.trans (Chg.of_one (S := dwS gy gb) (one_setCell _ gy 16 _) (.inl rfl)) (fun _ _ h => h)⟩
  · rw [HST.out]; rfl
  · rw [HST.out]; exact HD5.out.setAt _ hnv.1 hnv.2
set_option maxRecDepth 100000 in
set_option maxHeartbeats 16000000 in
theorem refStep_11 {w : World} {gy gb N m cap : Nat} {A : Option Addr} {s : Mach} (h : DW w gy gb N m A cap s) (x y z : Nat) (hx : x < 16) (hy : y ≤ 255) (hz : z ≤ 255) :
    Calls Try.prog 29 #[.pointer (some ⟨gy, 0, none⟩), .agg #[.int .u8 11, .int .u8 x, .int .u8 y, .int .u8 z]] w (RefP gy gb N m A cap s 11 x y z w) := by
  have hb1 := bnew w (.cells #[.int .u8 11, .int .u8 x, .int .u8 y, .int .u8 z] 24)
  have hl1 := heap_alloc_last w (.cells #[.int .u8 11, .int .u8 x, .int .u8 y, .int .u8 z] 24)
  have hh := h.keep hb1
  have hc := rowcell hl1
  obtain ⟨ym, zm, vx, vy, vz, va, nx, wd, sj, q4, far, sn, q8, nr, fym, lym, fzm, lzm, fx, lx, rx, ry, rz, ra, rn, fn2, rw0, fwd, rj, fq4, rf, rsn, fq8, rnr, HYM, HZM, HVX, HVY, HVZ, HNX, HWD, HSJ, HFAR, HSN, HNR, HVA, HS16, HWR, HS8, HWN, HQ4, HQ8, HVX2⟩ := stepPre h x y z hx hy hz
  have HB1 := Lib.hid hb1
  have HL1 := Lib.hid hl1
  have HH := Lib.hid hh
  clear hb1 hl1 hh h
  obtain ⟨ny, hny⟩ : ∃ n : Nat, (n : Int) = vy := ⟨vy.toNat, Int.toNat_of_nonneg ry.1⟩
  have HNY := Lib.hid hny
  have bny : ny < 4294967296 := by omega
  obtain ⟨nz, hnz⟩ : ∃ n : Nat, (n : Int) = vz := ⟨vz.toNat, Int.toNat_of_nonneg rz.1⟩
  have HNZ := Lib.hid hnz
  have bnz : nz < 4294967296 := by omega
  clear hny hnz
  go_enter Try.func29, Try.ntmps29
  go_upto_region 1 with fail
  obtain ⟨NI, hN⟩ : ∃ N, N = w.heap.size := ⟨_, rfl⟩
  rw [← hN] at hc ⊢
  have HN := Lib.hid hN
  generalize w.alloc (.cells #[.int .u8 11, .int .u8 x, .int .u8 y, .int .u8 z] 24) = w1 at *
  clear hN hc
  have hl1 := HL1.out
  rw [← HN.out] at hl1
  have hS0 : (fun w' : World => w'.heap[NI]? = some (.cells #[.int .u8 11, .int .u8 x, .int .u8 y, .int .u8 z] 24 (0, 0))) (World.drew w1) := hl1
  have HL1' := Lib.hid hl1
  clear hl1
  refine wp_region_held (S := fun w' : World => w'.heap[NI]? = some (.cells #[.int .u8 11, .int .u8 x, .int .u8 y, .int .u8 z] 24 (0, 0))) (by kernel_rfl) ?_
  change wpAnyH _ _ _ _ _ _ _ _ (World.drew _)
  refine takeH 1 (.pointer (some ⟨NI, 0, none⟩)) (some 28) rfl rfl (by kernel_rfl) (by kernel_rfl) (by kernel_rfl) (fun _ _ _ h => h) (.inl ⟨by kernel_rfl, fun w _ => by go_simp⟩) hS0 ?_
  refine takeH 2 (.int .u8 11) (some 29) rfl rfl (by kernel_rfl) (by kernel_rfl) (by kernel_rfl) (fun _ _ _ h => h) (.inl ⟨by kernel_rfl, fun w hw => by have hc := rowcell hw; go_simp⟩) hS0 ?_
  refine callH 0 rfl (by kernel_rfl) (by kernel_rfl) (some 27) rfl 22 #[] ?hrun ((refNames_any _).mono ?_)
  case hrun => go_simp
  rintro e w2 ⟨he, hw2⟩
  have hG : w2.heap[w1.heap.size]? = some (.cells nameVals 9) := by rw [← hw2]; exact heap_alloc_last w1.drew _
  have hb2 : Below w1.heap.size w1 w2 := by rw [← hw2]; exact bnext (drewb w1) (bnew w1.drew _)
  have hS2 := bkeep hb2 HL1'.out
  have C5 := rowcell hG
  have hsz : w1.drew.heap.size = w1.heap.size := rfl
  rw [hsz] at he
  obtain ⟨G, hGG⟩ : ∃ G, G = w1.heap.size := ⟨_, rfl⟩
  rw [← hGG] at he C5
  have HB2 := Lib.hid hb2
  clear hw2 hG hb2 hsz hS0 hGG
  refine ⟨_, he, hS2, ?_⟩
  have C6 : w2.cell? ⟨G, 11, none⟩ = some (.string ⟨#[97, 110, 100]⟩) := by rw [C5]; rfl
  clear C5
  refine runH 3 (.pointer (some ⟨G, 11, none⟩)) (some 30) rfl (by kernel_rfl) (by kernel_rfl) rfl (by go_simp) hS2 ?_
  refine runH 4 (.string ⟨#[97, 110, 100]⟩) (some 31) rfl (by kernel_rfl) (by kernel_rfl) rfl (by go_simp) hS2 ?_
  refine runH 5 (.string ⟨#[97, 110, 100]⟩) (some 5) rfl (by kernel_rfl) (by kernel_rfl) rfl (by go_simp) hS2 ?_
  refine wpAnyH_done (by kernel_rfl) ?_ _
  go_simp
  have HL2 := Lib.hid hS2
  have HH2 := Lib.hid (HH.out.keep HB2.out)
  have HBB := Lib.hid (bnext HB1.out HB2.out)
  clear C6 hS2 HL1' he HH HL1 HB1
  have hc := rowcell HL2.out
  have c16 := HH2.out.at_
  rw [← HVA.out] at c16
  have cx := HH2.out.reg x hx
  rw [← HVX.out] at cx
  have cy := HH2.out.reg ym (by omega)
  rw [← HVY.out] at cy
  have cz := HH2.out.reg zm (by omega)
  rw [← HVZ.out] at cz
  go_wp2_with fail
  refine (HS16.out _).mono ?_; rintro e wx ⟨rfl, hwx⟩; subst hwx
  go_wp2_with fail
  refine (HWR.out _).mono ?_; rintro e wx ⟨rfl, hwx⟩; subst hwx
  go_upto_region 5 with fail
  go_quiet (fail)
  go_upto_region 6 with fail
  go_quiet (fail)
  go_upto_region 7 with fail
  go_quiet (fail)
  go_wp2_with fail
  refine (HS8.out _).mono ?_; rintro e w3 ⟨rfl, hw3⟩
  have hb3 : Below w2.heap.size w2 w3 := by rw [← hw3]; exact bdrewN (Below.refl _ _) _
  clear hw3 hc c16 cx cy cz
  have HL3 := Lib.hid (bkeep hb3 HL2.out)
  have HH3 := Lib.hid (HH2.out.keep hb3)
  have HB3 := Lib.hid (bnext HBB.out hb3)
  clear hb3 HL2 HH2 HBB
  go_wp2_with fail
  refine (HWN.out _).mono ?_; rintro e wx ⟨rfl, hwx⟩; subst hwx
  have hc := rowcell HL3.out
  go_wp2_with fail
  go_loopw [13, 14] (fun s13 s14 wr => ∃ k : Nat, k ≤ 32 ∧ s14 = .int .i64 ((k : Int) - 1) ∧ s13 = .int .u32 (bo 11 (ny / 2 ^ k) (nz / 2 ^ k) : Nat) ∧ Below w3.heap.size w3 wr) (fun _ s14 _ => (intOf s14 + 1).toNat)
  case atStart => exact ⟨32, by omega, rfl, by rw [show ny / 2 ^ 32 = 0 from Nat.div_eq_of_lt bny, show nz / 2 ^ 32 = 0 from Nat.div_eq_of_lt bnz, bo_zero]; rfl, Below.refl _ _⟩
  case round =>
    obtain ⟨k, hk, rfl, rfl, hbw⟩ := hrel
    have HBW := Lib.hid hbw
    clear hbw
    by_cases c0 : 0 < k
    · obtain ⟨j, rfl⟩ : ∃ j, k = j + 1 := ⟨k - 1, by omega⟩
      have e1 : ((j + 1 : Nat) : Int) - 1 = j := by omega
      rw [e1]
      have hst := bo_step 11 ny nz j
      have hr31 := bo_lt 11 (ny / 2 ^ (j + 1)) (nz / 2 ^ (j + 1)) 31 (Nat.lt_of_le_of_lt (Nat.div_le_div_left (show 2 ^ 1 ≤ 2 ^ (j + 1) from Nat.pow_le_pow_right (by omega) (by omega)) (by decide)) (by omega)) (Nat.lt_of_le_of_lt (Nat.div_le_div_left (show 2 ^ 1 ≤ 2 ^ (j + 1) from Nat.pow_le_pow_right (by omega) (by omega)) (by decide)) (by omega))
      obtain ⟨r, hr⟩ : ∃ r, r = bo 11 (ny / 2 ^ (j + 1)) (nz / 2 ^ (j + 1)) := ⟨_, rfl⟩
      rw [← hr] at hst hr31 ⊢
      obtain ⟨t1, ht1⟩ : ∃ t, t = ny / 2 ^ j := ⟨_, rfl⟩
      obtain ⟨t2, ht2⟩ : ∃ t, t = nz / 2 ^ j := ⟨_, rfl⟩
      have f1 : vy / 2 ^ j = t1 := by rw [ht1, ← HNY.out]; simp
      have f2 : vz / 2 ^ j = t2 := by rw [ht2, ← HNZ.out]; simp
      rw [← ht1, ← ht2] at hst
      have p1 := Nat.mod_two_eq_zero_or_one t1
      have p2 := Nat.mod_two_eq_zero_or_one t2
      have HT1 := Lib.hid ht1
      have HT2 := Lib.hid ht2
      have HBS := Lib.hid hst
      have hj31 : j ≤ 31 := by omega
      clear hr ht1 ht2 e1 hst hk c0
      rcases p1 with p1 | p1 <;> rcases p2 with p2 | p2
      all_goals
        have g1 : (t1 : Int) % 2 = ((t1 % 2 : Nat) : Int) := by omega
        have g2 : (t2 : Int) % 2 = ((t2 % 2 : Nat) : Int) := by omega
        rw [p1] at g1
        rw [p2] at g2
        have hst := HBS.out
        rw [p1, p2] at hst
        have HB2 := Lib.hid hst
        clear hst p1 p2 HBS
        go_upto_region 34 with fail
        go_quiet (fail)
        go_wp2_with fail
        go_roundw
        case rel => exact ⟨j, by omega, by go_num, by rw [← HT1.out, ← HT2.out, HB2.out]; go_num, bdrewN HBW.out _⟩
        case measure => (simp [intOf]; try omega)
    · obtain rfl : k = 0 := by omega
      obtain ⟨w3e, hw3e⟩ : ∃ x, x = wr := ⟨_, rfl⟩
      rw [← hw3e] at HBW ⊢
      have HL3e := Lib.hid (bkeep HBW.out HL3.out)
      have HH3e := Lib.hid (HH3.out.keep HBW.out)
      have HB3e := Lib.hid (bnext HB3.out HBW.out)
      clear hw3e hc HL3 HH3 HB3
      have HL3 := HL3e; clear HL3e
      have HH3 := HH3e; clear HH3e
      have HB3 := HB3e; clear HB3e
      have hc := rowcell HL3.out
      go_wp2_with fail
      have hov : 0 ≤ ((bo 11 ny nz : Nat) : Int) ∧ ((bo 11 ny nz : Nat) : Int) ≤ 4294967295 := by
        have := bo_lt 11 ny nz 32 bny bnz
        omega
      have hnv := rn
      have HST := Lib.hid (show stepI m s 11 x y z = (setAt (setR s x ((bo 11 ny nz : Nat) : Int)) nx, 0) by rw [show ((bo 11 ny nz : Nat) : Int) = bits .and .u32 (ny : Int) (nz : Int) from (bits_and ny nz bny bnz).symm, HNY.out, HNZ.out, HVZ.out, HZM.out, HVY.out, HYM.out, HNX.out]; rfl)
      have hfm : ∀ w, Calls Try.prog 9 #[.int .i64 11] w fun e w' => e = .returned (.int .i64 3) ∧ Below w.heap.size w w' := fun w => by have h := refForm_in 11 (by omega) (by omega) w; rw [show formOf (11 : Int).toNat = 3 from by decide] at h; exact h
      refine (hfm _).mono ?_; rintro e w4 ⟨rfl, hb4⟩
      have HL4 := Lib.hid (bkeep hb4 HL3.out)
      have HH4 := Lib.hid (HH3.out.keep hb4)
      have HC4 := Lib.hid ((Chg.of_below (dwS gy gb) HB3.out).trans (Chg.of_below (dwS gy gb) hb4) (fun _ _ h => h))
      clear hb4 hc hfm
      have hc := rowcell HL4.out
      have c16 := HH4.out.at_
      have fx2 : (x : Int).tmod 16 = x := by rw [Int.tmod_eq_emod_of_nonneg (by omega)]; omega
      have lx0 : (0 : Int) ≤ x := by omega
      have cx := HH4.out.reg x hx
      have fzx : w4.frozen? ⟨gy, x, none⟩ = false := HH4.out.rw.frozen _
      go_upto_region 130 with fail
      refine wp_region_still_tail 8 (by kernel_rfl) (by kernel_rfl) ?_
      simp only [List.take_succ_cons, List.take_zero, List.drop_succ_cons, List.drop_zero]
      change wpStill _ _ (World.drew w4) _ _ _
      iterate 8 still_step
      refine wpStill_nil ?_
      change wpList _ _ _ _ _ (World.drew w4)
      go_upto_region 131 with fail
      have hD5 : DW (World.drew (w4.setCell ⟨gy, x, none⟩ (.int .u32 ((bo 11 ny nz : Nat) : Int)))) gy gb N m A cap (setR s x ((bo 11 ny nz : Nat) : Int)) := (HH4.out.setR x hx _ hov.1 hov.2).keep (drewb _)
      have hC5 : Chg (dwS gy gb) w (World.drew (w4.setCell ⟨gy, x, none⟩ (.int .u32 ((bo 11 ny nz : Nat) : Int)))) := (HC4.out.trans (Chg.of_one (S := dwS gy gb) (one_setCell _ gy x _) (.inl rfl)) (fun _ _ h => h)).trans (Chg.of_below (dwS gy gb) (drewb _)) (fun _ _ h => h)
      generalize World.drew (w4.setCell ⟨gy, x, none⟩ (.int .u32 ((bo 11 ny nz : Nat) : Int))) = w5 at *
      have HD5 := Lib.hid hD5
      have HC5 := Lib.hid hC5
      clear hD5 hC5 cx fzx hc HH4 HC4 HL4 c16
      have c16 := HD5.out.at_
      have fz16 : w5.frozen? ⟨gy, 16, none⟩ = false := HD5.out.rw.frozen _
      go_wp2_with fail
      go_ret
      refine ⟨?_, ?_, HC5.out.trans (Chg.of_one (S := dwS gy gb) (one_setCell _ gy 16 _) (.inl rfl)) (fun _ _ h => h)⟩
      · rw [HST.out]; rfl
      · rw [HST.out]; exact HD5.out.setAt _ hnv.1 hnv.2
set_option maxRecDepth 100000 in
set_option maxHeartbeats 16000000 in
theorem refStep_12 {w : World} {gy gb N m cap : Nat} {A : Option Addr} {s : Mach} (h : DW w gy gb N m A cap s) (x y z : Nat) (hx : x < 16) (hy : y ≤ 255) (hz : z ≤ 255) :
    Calls Try.prog 29 #[.pointer (some ⟨gy, 0, none⟩), .agg #[.int .u8 12, .int .u8 x, .int .u8 y, .int .u8 z]] w (RefP gy gb N m A cap s 12 x y z w) := by
  have hb1 := bnew w (.cells #[.int .u8 12, .int .u8 x, .int .u8 y, .int .u8 z] 24)
  have hl1 := heap_alloc_last w (.cells #[.int .u8 12, .int .u8 x, .int .u8 y, .int .u8 z] 24)
  have hh := h.keep hb1
  have hc := rowcell hl1
  obtain ⟨ym, zm, vx, vy, vz, va, nx, wd, sj, q4, far, sn, q8, nr, fym, lym, fzm, lzm, fx, lx, rx, ry, rz, ra, rn, fn2, rw0, fwd, rj, fq4, rf, rsn, fq8, rnr, HYM, HZM, HVX, HVY, HVZ, HNX, HWD, HSJ, HFAR, HSN, HNR, HVA, HS16, HWR, HS8, HWN, HQ4, HQ8, HVX2⟩ := stepPre h x y z hx hy hz
  have HB1 := Lib.hid hb1
  have HL1 := Lib.hid hl1
  have HH := Lib.hid hh
  clear hb1 hl1 hh h
  obtain ⟨ny, hny⟩ : ∃ n : Nat, (n : Int) = vy := ⟨vy.toNat, Int.toNat_of_nonneg ry.1⟩
  have HNY := Lib.hid hny
  have bny : ny < 4294967296 := by omega
  obtain ⟨nz, hnz⟩ : ∃ n : Nat, (n : Int) = vz := ⟨vz.toNat, Int.toNat_of_nonneg rz.1⟩
  have HNZ := Lib.hid hnz
  have bnz : nz < 4294967296 := by omega
  clear hny hnz
  go_enter Try.func29, Try.ntmps29
  go_upto_region 1 with fail
  obtain ⟨NI, hN⟩ : ∃ N, N = w.heap.size := ⟨_, rfl⟩
  rw [← hN] at hc ⊢
  have HN := Lib.hid hN
  generalize w.alloc (.cells #[.int .u8 12, .int .u8 x, .int .u8 y, .int .u8 z] 24) = w1 at *
  clear hN hc
  have hl1 := HL1.out
  rw [← HN.out] at hl1
  have hS0 : (fun w' : World => w'.heap[NI]? = some (.cells #[.int .u8 12, .int .u8 x, .int .u8 y, .int .u8 z] 24 (0, 0))) (World.drew w1) := hl1
  have HL1' := Lib.hid hl1
  clear hl1
  refine wp_region_held (S := fun w' : World => w'.heap[NI]? = some (.cells #[.int .u8 12, .int .u8 x, .int .u8 y, .int .u8 z] 24 (0, 0))) (by kernel_rfl) ?_
  change wpAnyH _ _ _ _ _ _ _ _ (World.drew _)
  refine takeH 1 (.pointer (some ⟨NI, 0, none⟩)) (some 28) rfl rfl (by kernel_rfl) (by kernel_rfl) (by kernel_rfl) (fun _ _ _ h => h) (.inl ⟨by kernel_rfl, fun w _ => by go_simp⟩) hS0 ?_
  refine takeH 2 (.int .u8 12) (some 29) rfl rfl (by kernel_rfl) (by kernel_rfl) (by kernel_rfl) (fun _ _ _ h => h) (.inl ⟨by kernel_rfl, fun w hw => by have hc := rowcell hw; go_simp⟩) hS0 ?_
  refine callH 0 rfl (by kernel_rfl) (by kernel_rfl) (some 27) rfl 22 #[] ?hrun ((refNames_any _).mono ?_)
  case hrun => go_simp
  rintro e w2 ⟨he, hw2⟩
  have hG : w2.heap[w1.heap.size]? = some (.cells nameVals 9) := by rw [← hw2]; exact heap_alloc_last w1.drew _
  have hb2 : Below w1.heap.size w1 w2 := by rw [← hw2]; exact bnext (drewb w1) (bnew w1.drew _)
  have hS2 := bkeep hb2 HL1'.out
  have C5 := rowcell hG
  have hsz : w1.drew.heap.size = w1.heap.size := rfl
  rw [hsz] at he
  obtain ⟨G, hGG⟩ : ∃ G, G = w1.heap.size := ⟨_, rfl⟩
  rw [← hGG] at he C5
  have HB2 := Lib.hid hb2
  clear hw2 hG hb2 hsz hS0 hGG
  refine ⟨_, he, hS2, ?_⟩
  have C6 : w2.cell? ⟨G, 12, none⟩ = some (.string ⟨#[111, 114]⟩) := by rw [C5]; rfl
  clear C5
  refine runH 3 (.pointer (some ⟨G, 12, none⟩)) (some 30) rfl (by kernel_rfl) (by kernel_rfl) rfl (by go_simp) hS2 ?_
  refine runH 4 (.string ⟨#[111, 114]⟩) (some 31) rfl (by kernel_rfl) (by kernel_rfl) rfl (by go_simp) hS2 ?_
  refine runH 5 (.string ⟨#[111, 114]⟩) (some 5) rfl (by kernel_rfl) (by kernel_rfl) rfl (by go_simp) hS2 ?_
  refine wpAnyH_done (by kernel_rfl) ?_ _
  go_simp
  have HL2 := Lib.hid hS2
  have HH2 := Lib.hid (HH.out.keep HB2.out)
  have HBB := Lib.hid (bnext HB1.out HB2.out)
  clear C6 hS2 HL1' he HH HL1 HB1
  have hc := rowcell HL2.out
  have c16 := HH2.out.at_
  rw [← HVA.out] at c16
  have cx := HH2.out.reg x hx
  rw [← HVX.out] at cx
  have cy := HH2.out.reg ym (by omega)
  rw [← HVY.out] at cy
  have cz := HH2.out.reg zm (by omega)
  rw [← HVZ.out] at cz
  go_wp2_with fail
  refine (HS16.out _).mono ?_; rintro e wx ⟨rfl, hwx⟩; subst hwx
  go_wp2_with fail
  refine (HWR.out _).mono ?_; rintro e wx ⟨rfl, hwx⟩; subst hwx
  go_upto_region 5 with fail
  go_quiet (fail)
  go_upto_region 6 with fail
  go_quiet (fail)
  go_upto_region 7 with fail
  go_quiet (fail)
  go_wp2_with fail
  refine (HS8.out _).mono ?_; rintro e w3 ⟨rfl, hw3⟩
  have hb3 : Below w2.heap.size w2 w3 := by rw [← hw3]; exact bdrewN (Below.refl _ _) _
  clear hw3 hc c16 cx cy cz
  have HL3 := Lib.hid (bkeep hb3 HL2.out)
  have HH3 := Lib.hid (HH2.out.keep hb3)
  have HB3 := Lib.hid (bnext HBB.out hb3)
  clear hb3 HL2 HH2 HBB
  go_wp2_with fail
  refine (HWN.out _).mono ?_; rintro e wx ⟨rfl, hwx⟩; subst hwx
  have hc := rowcell HL3.out
  go_wp2_with fail
  go_loopw [13, 14] (fun s13 s14 wr => ∃ k : Nat, k ≤ 32 ∧ s14 = .int .i64 ((k : Int) - 1) ∧ s13 = .int .u32 (bo 12 (ny / 2 ^ k) (nz / 2 ^ k) : Nat) ∧ Below w3.heap.size w3 wr) (fun _ s14 _ => (intOf s14 + 1).toNat)
  case atStart => exact ⟨32, by omega, rfl, by rw [show ny / 2 ^ 32 = 0 from Nat.div_eq_of_lt bny, show nz / 2 ^ 32 = 0 from Nat.div_eq_of_lt bnz, bo_zero]; rfl, Below.refl _ _⟩
  case round =>
    obtain ⟨k, hk, rfl, rfl, hbw⟩ := hrel
    have HBW := Lib.hid hbw
    clear hbw
    by_cases c0 : 0 < k
    · obtain ⟨j, rfl⟩ : ∃ j, k = j + 1 := ⟨k - 1, by omega⟩
      have e1 : ((j + 1 : Nat) : Int) - 1 = j := by omega
      rw [e1]
      have hst := bo_step 12 ny nz j
      have hr31 := bo_lt 12 (ny / 2 ^ (j + 1)) (nz / 2 ^ (j + 1)) 31 (Nat.lt_of_le_of_lt (Nat.div_le_div_left (show 2 ^ 1 ≤ 2 ^ (j + 1) from Nat.pow_le_pow_right (by omega) (by omega)) (by decide)) (by omega)) (Nat.lt_of_le_of_lt (Nat.div_le_div_left (show 2 ^ 1 ≤ 2 ^ (j + 1) from Nat.pow_le_pow_right (by omega) (by omega)) (by decide)) (by omega))
      obtain ⟨r, hr⟩ : ∃ r, r = bo 12 (ny / 2 ^ (j + 1)) (nz / 2 ^ (j + 1)) := ⟨_, rfl⟩
      rw [← hr] at hst hr31 ⊢
      obtain ⟨t1, ht1⟩ : ∃ t, t = ny / 2 ^ j := ⟨_, rfl⟩
      obtain ⟨t2, ht2⟩ : ∃ t, t = nz / 2 ^ j := ⟨_, rfl⟩
      have f1 : vy / 2 ^ j = t1 := by rw [ht1, ← HNY.out]; simp
      have f2 : vz / 2 ^ j = t2 := by rw [ht2, ← HNZ.out]; simp
      rw [← ht1, ← ht2] at hst
      have p1 := Nat.mod_two_eq_zero_or_one t1
      have p2 := Nat.mod_two_eq_zero_or_one t2
      have HT1 := Lib.hid ht1
      have HT2 := Lib.hid ht2
      have HBS := Lib.hid hst
      have hj31 : j ≤ 31 := by omega
      clear hr ht1 ht2 e1 hst hk c0
      rcases p1 with p1 | p1 <;> rcases p2 with p2 | p2
      all_goals
        have g1 : (t1 : Int) % 2 = ((t1 % 2 : Nat) : Int) := by omega
        have g2 : (t2 : Int) % 2 = ((t2 % 2 : Nat) : Int) := by omega
        rw [p1] at g1
        rw [p2] at g2
        have hst := HBS.out
        rw [p1, p2] at hst
        have HB2 := Lib.hid hst
        clear hst p1 p2 HBS
        go_upto_region 34 with fail
        go_quiet (fail)
        go_wp2_with fail
        go_roundw
        case rel => exact ⟨j, by omega, by go_num, by rw [← HT1.out, ← HT2.out, HB2.out]; go_num, bdrewN HBW.out _⟩
        case measure => (simp [intOf]; try omega)
    · obtain rfl : k = 0 := by omega
      obtain ⟨w3e, hw3e⟩ : ∃ x, x = wr := ⟨_, rfl⟩
      rw [← hw3e] at HBW ⊢
      have HL3e := Lib.hid (bkeep HBW.out HL3.out)
      have HH3e := Lib.hid (HH3.out.keep HBW.out)
      have HB3e := Lib.hid (bnext HB3.out HBW.out)
      clear hw3e hc HL3 HH3 HB3
      have HL3 := HL3e; clear HL3e
      have HH3 := HH3e; clear HH3e
      have HB3 := HB3e; clear HB3e
      have hc := rowcell HL3.out
      go_wp2_with fail
      have hov : 0 ≤ ((bo 12 ny nz : Nat) : Int) ∧ ((bo 12 ny nz : Nat) : Int) ≤ 4294967295 := by
        have := bo_lt 12 ny nz 32 bny bnz
        omega
      have hnv := rn
      have HST := Lib.hid (show stepI m s 12 x y z = (setAt (setR s x ((bo 12 ny nz : Nat) : Int)) nx, 0) by rw [show ((bo 12 ny nz : Nat) : Int) = bits .or .u32 (ny : Int) (nz : Int) from (bits_or ny nz bny bnz).symm, HNY.out, HNZ.out, HVZ.out, HZM.out, HVY.out, HYM.out, HNX.out]; rfl)
      have hfm : ∀ w, Calls Try.prog 9 #[.int .i64 12] w fun e w' => e = .returned (.int .i64 3) ∧ Below w.heap.size w w' := fun w => by have h := refForm_in 12 (by omega) (by omega) w; rw [show formOf (12 : Int).toNat = 3 from by decide] at h; exact h
      refine (hfm _).mono ?_; rintro e w4 ⟨rfl, hb4⟩
      have HL4 := Lib.hid (bkeep hb4 HL3.out)
      have HH4 := Lib.hid (HH3.out.keep hb4)
      have HC4 := Lib.hid ((Chg.of_below (dwS gy gb) HB3.out).trans (Chg.of_below (dwS gy gb) hb4) (fun _ _ h => h))
      clear hb4 hc hfm
      have hc := rowcell HL4.out
      have c16 := HH4.out.at_
      have fx2 : (x : Int).tmod 16 = x := by rw [Int.tmod_eq_emod_of_nonneg (by omega)]; omega
      have lx0 : (0 : Int) ≤ x := by omega
      have cx := HH4.out.reg x hx
      have fzx : w4.frozen? ⟨gy, x, none⟩ = false := HH4.out.rw.frozen _
      go_upto_region 130 with fail
      refine wp_region_still_tail 8 (by kernel_rfl) (by kernel_rfl) ?_
      simp only [List.take_succ_cons, List.take_zero, List.drop_succ_cons, List.drop_zero]
      change wpStill _ _ (World.drew w4) _ _ _
      iterate 8 still_step
      refine wpStill_nil ?_
      change wpList _ _ _ _ _ (World.drew w4)
      go_upto_region 131 with fail
      have hD5 : DW (World.drew (w4.setCell ⟨gy, x, none⟩ (.int .u32 ((bo 12 ny nz : Nat) : Int)))) gy gb N m A cap (setR s x ((bo 12 ny nz : Nat) : Int)) := (HH4.out.setR x hx _ hov.1 hov.2).keep (drewb _)
      have hC5 : Chg (dwS gy gb) w (World.drew (w4.setCell ⟨gy, x, none⟩ (.int .u32 ((bo 12 ny nz : Nat) : Int)))) := (HC4.out.trans (Chg.of_one (S := dwS gy gb) (one_setCell _ gy x _) (.inl rfl)) (fun _ _ h => h)).trans (Chg.of_below (dwS gy gb) (drewb _)) (fun _ _ h => h)
      generalize World.drew (w4.setCell ⟨gy, x, none⟩ (.int .u32 ((bo 12 ny nz : Nat) : Int))) = w5 at *
      have HD5 := Lib.hid hD5
      have HC5 := Lib.hid hC5
      clear hD5 hC5 cx fzx hc HH4 HC4 HL4 c16
      have c16 := HD5.out.at_
      have fz16 : w5.frozen? ⟨gy, 16, none⟩ = false := HD5.out.rw.frozen _
      go_wp2_with fail
      go_ret
      refine ⟨?_, ?_, HC5.out.trans (Chg.of_one (S := dwS gy gb) (one_setCell _ gy 16 _) (.inl rfl)) (fun _ _ h => h)⟩
      · rw [HST.out]; rfl
      · rw [HST.out]; exact HD5.out.setAt _ hnv.1 hnv.2
set_option maxRecDepth 100000 in
set_option maxHeartbeats 16000000 in
theorem refStep_13 {w : World} {gy gb N m cap : Nat} {A : Option Addr} {s : Mach} (h : DW w gy gb N m A cap s) (x y z : Nat) (hx : x < 16) (hy : y ≤ 255) (hz : z ≤ 255) :
    Calls Try.prog 29 #[.pointer (some ⟨gy, 0, none⟩), .agg #[.int .u8 13, .int .u8 x, .int .u8 y, .int .u8 z]] w (RefP gy gb N m A cap s 13 x y z w) := by
  have hb1 := bnew w (.cells #[.int .u8 13, .int .u8 x, .int .u8 y, .int .u8 z] 24)
  have hl1 := heap_alloc_last w (.cells #[.int .u8 13, .int .u8 x, .int .u8 y, .int .u8 z] 24)
  have hh := h.keep hb1
  have hc := rowcell hl1
  obtain ⟨ym, zm, vx, vy, vz, va, nx, wd, sj, q4, far, sn, q8, nr, fym, lym, fzm, lzm, fx, lx, rx, ry, rz, ra, rn, fn2, rw0, fwd, rj, fq4, rf, rsn, fq8, rnr, HYM, HZM, HVX, HVY, HVZ, HNX, HWD, HSJ, HFAR, HSN, HNR, HVA, HS16, HWR, HS8, HWN, HQ4, HQ8, HVX2⟩ := stepPre h x y z hx hy hz
  have HB1 := Lib.hid hb1
  have HL1 := Lib.hid hl1
  have HH := Lib.hid hh
  clear hb1 hl1 hh h
  obtain ⟨ny, hny⟩ : ∃ n : Nat, (n : Int) = vy := ⟨vy.toNat, Int.toNat_of_nonneg ry.1⟩
  have HNY := Lib.hid hny
  have bny : ny < 4294967296 := by omega
  obtain ⟨nz, hnz⟩ : ∃ n : Nat, (n : Int) = vz := ⟨vz.toNat, Int.toNat_of_nonneg rz.1⟩
  have HNZ := Lib.hid hnz
  have bnz : nz < 4294967296 := by omega
  clear hny hnz
  go_enter Try.func29, Try.ntmps29
  go_upto_region 1 with fail
  obtain ⟨NI, hN⟩ : ∃ N, N = w.heap.size := ⟨_, rfl⟩
  rw [← hN] at hc ⊢
  have HN := Lib.hid hN
  generalize w.alloc (.cells #[.int .u8 13, .int .u8 x, .int .u8 y, .int .u8 z] 24) = w1 at *
  clear hN hc
  have hl1 := HL1.out
  rw [← HN.out] at hl1
  have hS0 : (fun w' : World => w'.heap[NI]? = some (.cells #[.int .u8 13, .int .u8 x, .int .u8 y, .int .u8 z] 24 (0, 0))) (World.drew w1) := hl1
  have HL1' := Lib.hid hl1
  clear hl1
  refine wp_region_held (S := fun w' : World => w'.heap[NI]? = some (.cells #[.int .u8 13, .int .u8 x, .int .u8 y, .int .u8 z] 24 (0, 0))) (by kernel_rfl) ?_
  change wpAnyH _ _ _ _ _ _ _ _ (World.drew _)
  refine takeH 1 (.pointer (some ⟨NI, 0, none⟩)) (some 28) rfl rfl (by kernel_rfl) (by kernel_rfl) (by kernel_rfl) (fun _ _ _ h => h) (.inl ⟨by kernel_rfl, fun w _ => by go_simp⟩) hS0 ?_
  refine takeH 2 (.int .u8 13) (some 29) rfl rfl (by kernel_rfl) (by kernel_rfl) (by kernel_rfl) (fun _ _ _ h => h) (.inl ⟨by kernel_rfl, fun w hw => by have hc := rowcell hw; go_simp⟩) hS0 ?_
  refine callH 0 rfl (by kernel_rfl) (by kernel_rfl) (some 27) rfl 22 #[] ?hrun ((refNames_any _).mono ?_)
  case hrun => go_simp
  rintro e w2 ⟨he, hw2⟩
  have hG : w2.heap[w1.heap.size]? = some (.cells nameVals 9) := by rw [← hw2]; exact heap_alloc_last w1.drew _
  have hb2 : Below w1.heap.size w1 w2 := by rw [← hw2]; exact bnext (drewb w1) (bnew w1.drew _)
  have hS2 := bkeep hb2 HL1'.out
  have C5 := rowcell hG
  have hsz : w1.drew.heap.size = w1.heap.size := rfl
  rw [hsz] at he
  obtain ⟨G, hGG⟩ : ∃ G, G = w1.heap.size := ⟨_, rfl⟩
  rw [← hGG] at he C5
  have HB2 := Lib.hid hb2
  clear hw2 hG hb2 hsz hS0 hGG
  refine ⟨_, he, hS2, ?_⟩
  have C6 : w2.cell? ⟨G, 13, none⟩ = some (.string ⟨#[120, 111, 114]⟩) := by rw [C5]; rfl
  clear C5
  refine runH 3 (.pointer (some ⟨G, 13, none⟩)) (some 30) rfl (by kernel_rfl) (by kernel_rfl) rfl (by go_simp) hS2 ?_
  refine runH 4 (.string ⟨#[120, 111, 114]⟩) (some 31) rfl (by kernel_rfl) (by kernel_rfl) rfl (by go_simp) hS2 ?_
  refine runH 5 (.string ⟨#[120, 111, 114]⟩) (some 5) rfl (by kernel_rfl) (by kernel_rfl) rfl (by go_simp) hS2 ?_
  refine wpAnyH_done (by kernel_rfl) ?_ _
  go_simp
  have HL2 := Lib.hid hS2
  have HH2 := Lib.hid (HH.out.keep HB2.out)
  have HBB := Lib.hid (bnext HB1.out HB2.out)
  clear C6 hS2 HL1' he HH HL1 HB1
  have hc := rowcell HL2.out
  have c16 := HH2.out.at_
  rw [← HVA.out] at c16
  have cx := HH2.out.reg x hx
  rw [← HVX.out] at cx
  have cy := HH2.out.reg ym (by omega)
  rw [← HVY.out] at cy
  have cz := HH2.out.reg zm (by omega)
  rw [← HVZ.out] at cz
  go_wp2_with fail
  refine (HS16.out _).mono ?_; rintro e wx ⟨rfl, hwx⟩; subst hwx
  go_wp2_with fail
  refine (HWR.out _).mono ?_; rintro e wx ⟨rfl, hwx⟩; subst hwx
  go_upto_region 5 with fail
  go_quiet (fail)
  go_upto_region 6 with fail
  go_quiet (fail)
  go_upto_region 7 with fail
  go_quiet (fail)
  go_wp2_with fail
  refine (HS8.out _).mono ?_; rintro e w3 ⟨rfl, hw3⟩
  have hb3 : Below w2.heap.size w2 w3 := by rw [← hw3]; exact bdrewN (Below.refl _ _) _
  clear hw3 hc c16 cx cy cz
  have HL3 := Lib.hid (bkeep hb3 HL2.out)
  have HH3 := Lib.hid (HH2.out.keep hb3)
  have HB3 := Lib.hid (bnext HBB.out hb3)
  clear hb3 HL2 HH2 HBB
  go_wp2_with fail
  refine (HWN.out _).mono ?_; rintro e wx ⟨rfl, hwx⟩; subst hwx
  have hc := rowcell HL3.out
  go_wp2_with fail
  go_loopw [13, 14] (fun s13 s14 wr => ∃ k : Nat, k ≤ 32 ∧ s14 = .int .i64 ((k : Int) - 1) ∧ s13 = .int .u32 (bo 13 (ny / 2 ^ k) (nz / 2 ^ k) : Nat) ∧ Below w3.heap.size w3 wr) (fun _ s14 _ => (intOf s14 + 1).toNat)
  case atStart => exact ⟨32, by omega, rfl, by rw [show ny / 2 ^ 32 = 0 from Nat.div_eq_of_lt bny, show nz / 2 ^ 32 = 0 from Nat.div_eq_of_lt bnz, bo_zero]; rfl, Below.refl _ _⟩
  case round =>
    obtain ⟨k, hk, rfl, rfl, hbw⟩ := hrel
    have HBW := Lib.hid hbw
    clear hbw
    by_cases c0 : 0 < k
    · obtain ⟨j, rfl⟩ : ∃ j, k = j + 1 := ⟨k - 1, by omega⟩
      have e1 : ((j + 1 : Nat) : Int) - 1 = j := by omega
      rw [e1]
      have hst := bo_step 13 ny nz j
      have hr31 := bo_lt 13 (ny / 2 ^ (j + 1)) (nz / 2 ^ (j + 1)) 31 (Nat.lt_of_le_of_lt (Nat.div_le_div_left (show 2 ^ 1 ≤ 2 ^ (j + 1) from Nat.pow_le_pow_right (by omega) (by omega)) (by decide)) (by omega)) (Nat.lt_of_le_of_lt (Nat.div_le_div_left (show 2 ^ 1 ≤ 2 ^ (j + 1) from Nat.pow_le_pow_right (by omega) (by omega)) (by decide)) (by omega))
      obtain ⟨r, hr⟩ : ∃ r, r = bo 13 (ny / 2 ^ (j + 1)) (nz / 2 ^ (j + 1)) := ⟨_, rfl⟩
      rw [← hr] at hst hr31 ⊢
      obtain ⟨t1, ht1⟩ : ∃ t, t = ny / 2 ^ j := ⟨_, rfl⟩
      obtain ⟨t2, ht2⟩ : ∃ t, t = nz / 2 ^ j := ⟨_, rfl⟩
      have f1 : vy / 2 ^ j = t1 := by rw [ht1, ← HNY.out]; simp
      have f2 : vz / 2 ^ j = t2 := by rw [ht2, ← HNZ.out]; simp
      rw [← ht1, ← ht2] at hst
      have p1 := Nat.mod_two_eq_zero_or_one t1
      have p2 := Nat.mod_two_eq_zero_or_one t2
      have HT1 := Lib.hid ht1
      have HT2 := Lib.hid ht2
      have HBS := Lib.hid hst
      have hj31 : j ≤ 31 := by omega
      clear hr ht1 ht2 e1 hst hk c0
      rcases p1 with p1 | p1 <;> rcases p2 with p2 | p2
      all_goals
        have g1 : (t1 : Int) % 2 = ((t1 % 2 : Nat) : Int) := by omega
        have g2 : (t2 : Int) % 2 = ((t2 % 2 : Nat) : Int) := by omega
        rw [p1] at g1
        rw [p2] at g2
        have hst := HBS.out
        rw [p1, p2] at hst
        have HB2 := Lib.hid hst
        clear hst p1 p2 HBS
        go_upto_region 34 with fail
        go_quiet (fail)
        go_wp2_with fail
        go_roundw
        case rel => exact ⟨j, by omega, by go_num, by rw [← HT1.out, ← HT2.out, HB2.out]; go_num, bdrewN HBW.out _⟩
        case measure => (simp [intOf]; try omega)
    · obtain rfl : k = 0 := by omega
      obtain ⟨w3e, hw3e⟩ : ∃ x, x = wr := ⟨_, rfl⟩
      rw [← hw3e] at HBW ⊢
      have HL3e := Lib.hid (bkeep HBW.out HL3.out)
      have HH3e := Lib.hid (HH3.out.keep HBW.out)
      have HB3e := Lib.hid (bnext HB3.out HBW.out)
      clear hw3e hc HL3 HH3 HB3
      have HL3 := HL3e; clear HL3e
      have HH3 := HH3e; clear HH3e
      have HB3 := HB3e; clear HB3e
      have hc := rowcell HL3.out
      go_wp2_with fail
      have hov : 0 ≤ ((bo 13 ny nz : Nat) : Int) ∧ ((bo 13 ny nz : Nat) : Int) ≤ 4294967295 := by
        have := bo_lt 13 ny nz 32 bny bnz
        omega
      have hnv := rn
      have HST := Lib.hid (show stepI m s 13 x y z = (setAt (setR s x ((bo 13 ny nz : Nat) : Int)) nx, 0) by rw [show ((bo 13 ny nz : Nat) : Int) = bits .xor .u32 (ny : Int) (nz : Int) from (bits_xor ny nz bny bnz).symm, HNY.out, HNZ.out, HVZ.out, HZM.out, HVY.out, HYM.out, HNX.out]; rfl)
      have hfm : ∀ w, Calls Try.prog 9 #[.int .i64 13] w fun e w' => e = .returned (.int .i64 3) ∧ Below w.heap.size w w' := fun w => by have h := refForm_in 13 (by omega) (by omega) w; rw [show formOf (13 : Int).toNat = 3 from by decide] at h; exact h
      refine (hfm _).mono ?_; rintro e w4 ⟨rfl, hb4⟩
      have HL4 := Lib.hid (bkeep hb4 HL3.out)
      have HH4 := Lib.hid (HH3.out.keep hb4)
      have HC4 := Lib.hid ((Chg.of_below (dwS gy gb) HB3.out).trans (Chg.of_below (dwS gy gb) hb4) (fun _ _ h => h))
      clear hb4 hc hfm
      have hc := rowcell HL4.out
      have c16 := HH4.out.at_
      have fx2 : (x : Int).tmod 16 = x := by rw [Int.tmod_eq_emod_of_nonneg (by omega)]; omega
      have lx0 : (0 : Int) ≤ x := by omega
      have cx := HH4.out.reg x hx
      have fzx : w4.frozen? ⟨gy, x, none⟩ = false := HH4.out.rw.frozen _
      go_upto_region 130 with fail
      refine wp_region_still_tail 8 (by kernel_rfl) (by kernel_rfl) ?_
      simp only [List.take_succ_cons, List.take_zero, List.drop_succ_cons, List.drop_zero]
      change wpStill _ _ (World.drew w4) _ _ _
      iterate 8 still_step
      refine wpStill_nil ?_
      change wpList _ _ _ _ _ (World.drew w4)
      go_upto_region 131 with fail
      have hD5 : DW (World.drew (w4.setCell ⟨gy, x, none⟩ (.int .u32 ((bo 13 ny nz : Nat) : Int)))) gy gb N m A cap (setR s x ((bo 13 ny nz : Nat) : Int)) := (HH4.out.setR x hx _ hov.1 hov.2).keep (drewb _)
      have hC5 : Chg (dwS gy gb) w (World.drew (w4.setCell ⟨gy, x, none⟩ (.int .u32 ((bo 13 ny nz : Nat) : Int)))) := (HC4.out.trans (Chg.of_one (S := dwS gy gb) (one_setCell _ gy x _) (.inl rfl)) (fun _ _ h => h)).trans (Chg.of_below (dwS gy gb) (drewb _)) (fun _ _ h => h)
      generalize World.drew (w4.setCell ⟨gy, x, none⟩ (.int .u32 ((bo 13 ny nz : Nat) : Int))) = w5 at *
      have HD5 := Lib.hid hD5
      have HC5 := Lib.hid hC5
      clear hD5 hC5 cx fzx hc HH4 HC4 HL4 c16
      have c16 := HD5.out.at_
      have fz16 : w5.frozen? ⟨gy, 16, none⟩ = false := HD5.out.rw.frozen _
      go_wp2_with fail
      go_ret
      refine ⟨?_, ?_, HC5.out.trans (Chg.of_one (S := dwS gy gb) (one_setCell _ gy 16 _) (.inl rfl)) (fun _ _ h => h)⟩
      · rw [HST.out]; rfl
      · rw [HST.out]; exact HD5.out.setAt _ hnv.1 hnv.2
set_option maxRecDepth 100000 in
set_option maxHeartbeats 16000000 in
theorem refStep_15 {w : World} {gy gb N m cap : Nat} {A : Option Addr} {s : Mach} (h : DW w gy gb N m A cap s) (x y z : Nat) (hx : x < 16) (hy : y ≤ 255) (hz : z ≤ 255) :
    Calls Try.prog 29 #[.pointer (some ⟨gy, 0, none⟩), .agg #[.int .u8 15, .int .u8 x, .int .u8 y, .int .u8 z]] w (RefP gy gb N m A cap s 15 x y z w) := by
  have hb1 := bnew w (.cells #[.int .u8 15, .int .u8 x, .int .u8 y, .int .u8 z] 24)
  have hl1 := heap_alloc_last w (.cells #[.int .u8 15, .int .u8 x, .int .u8 y, .int .u8 z] 24)
  have hh := h.keep hb1
  have hc := rowcell hl1
  obtain ⟨ym, zm, vx, vy, vz, va, nx, wd, sj, q4, far, sn, q8, nr, fym, lym, fzm, lzm, fx, lx, rx, ry, rz, ra, rn, fn2, rw0, fwd, rj, fq4, rf, rsn, fq8, rnr, HYM, HZM, HVX, HVY, HVZ, HNX, HWD, HSJ, HFAR, HSN, HNR, HVA, HS16, HWR, HS8, HWN, HQ4, HQ8, HVX2⟩ := stepPre h x y z hx hy hz
  have HB1 := Lib.hid hb1
  have HL1 := Lib.hid hl1
  have HH := Lib.hid hh
  clear hb1 hl1 hh h
  obtain ⟨P, hP⟩ : ∃ k, k = (2 : Int) ^ (vz % 32).toNat := ⟨_, rfl⟩
  have HP := Lib.hid hP
  have bP : 1 ≤ P ∧ P ≤ 2147483648 := by rw [hP]; exact pow_le31 _ (by omega)
  have fP : (2 : Int) ^ (vz % 32).toNat = P := hP.symm
  clear hP
  obtain ⟨ov, hov⟩ : ∃ k, k = vy / P := ⟨_, rfl⟩
  have HOV := Lib.hid hov
  have bov : 0 ≤ ov ∧ ov ≤ 4294967295 := by rw [hov]; exact div_bounds vy P ry.1 ry.2 (by omega)
  have fov : vy / P = ov := hov.symm
  clear hov
  go_enter Try.func29, Try.ntmps29
  go_upto_region 1 with fail
  obtain ⟨NI, hN⟩ : ∃ N, N = w.heap.size := ⟨_, rfl⟩
  rw [← hN] at hc ⊢
  have HN := Lib.hid hN
  generalize w.alloc (.cells #[.int .u8 15, .int .u8 x, .int .u8 y, .int .u8 z] 24) = w1 at *
  clear hN hc
  have hl1 := HL1.out
  rw [← HN.out] at hl1
  have hS0 : (fun w' : World => w'.heap[NI]? = some (.cells #[.int .u8 15, .int .u8 x, .int .u8 y, .int .u8 z] 24 (0, 0))) (World.drew w1) := hl1
  have HL1' := Lib.hid hl1
  clear hl1
  refine wp_region_held (S := fun w' : World => w'.heap[NI]? = some (.cells #[.int .u8 15, .int .u8 x, .int .u8 y, .int .u8 z] 24 (0, 0))) (by kernel_rfl) ?_
  change wpAnyH _ _ _ _ _ _ _ _ (World.drew _)
  refine takeH 1 (.pointer (some ⟨NI, 0, none⟩)) (some 28) rfl rfl (by kernel_rfl) (by kernel_rfl) (by kernel_rfl) (fun _ _ _ h => h) (.inl ⟨by kernel_rfl, fun w _ => by go_simp⟩) hS0 ?_
  refine takeH 2 (.int .u8 15) (some 29) rfl rfl (by kernel_rfl) (by kernel_rfl) (by kernel_rfl) (fun _ _ _ h => h) (.inl ⟨by kernel_rfl, fun w hw => by have hc := rowcell hw; go_simp⟩) hS0 ?_
  refine callH 0 rfl (by kernel_rfl) (by kernel_rfl) (some 27) rfl 22 #[] ?hrun ((refNames_any _).mono ?_)
  case hrun => go_simp
  rintro e w2 ⟨he, hw2⟩
  have hG : w2.heap[w1.heap.size]? = some (.cells nameVals 9) := by rw [← hw2]; exact heap_alloc_last w1.drew _
  have hb2 : Below w1.heap.size w1 w2 := by rw [← hw2]; exact bnext (drewb w1) (bnew w1.drew _)
  have hS2 := bkeep hb2 HL1'.out
  have C5 := rowcell hG
  have hsz : w1.drew.heap.size = w1.heap.size := rfl
  rw [hsz] at he
  obtain ⟨G, hGG⟩ : ∃ G, G = w1.heap.size := ⟨_, rfl⟩
  rw [← hGG] at he C5
  have HB2 := Lib.hid hb2
  clear hw2 hG hb2 hsz hS0 hGG
  refine ⟨_, he, hS2, ?_⟩
  have C6 : w2.cell? ⟨G, 15, none⟩ = some (.string ⟨#[115, 104, 114]⟩) := by rw [C5]; rfl
  clear C5
  refine runH 3 (.pointer (some ⟨G, 15, none⟩)) (some 30) rfl (by kernel_rfl) (by kernel_rfl) rfl (by go_simp) hS2 ?_
  refine runH 4 (.string ⟨#[115, 104, 114]⟩) (some 31) rfl (by kernel_rfl) (by kernel_rfl) rfl (by go_simp) hS2 ?_
  refine runH 5 (.string ⟨#[115, 104, 114]⟩) (some 5) rfl (by kernel_rfl) (by kernel_rfl) rfl (by go_simp) hS2 ?_
  refine wpAnyH_done (by kernel_rfl) ?_ _
  go_simp
  have HL2 := Lib.hid hS2
  have HH2 := Lib.hid (HH.out.keep HB2.out)
  have HBB := Lib.hid (bnext HB1.out HB2.out)
  clear C6 hS2 HL1' he HH HL1 HB1
  have hc := rowcell HL2.out
  have c16 := HH2.out.at_
  rw [← HVA.out] at c16
  have cx := HH2.out.reg x hx
  rw [← HVX.out] at cx
  have cy := HH2.out.reg ym (by omega)
  rw [← HVY.out] at cy
  have cz := HH2.out.reg zm (by omega)
  rw [← HVZ.out] at cz
  go_wp2_with fail
  refine (HS16.out _).mono ?_; rintro e wx ⟨rfl, hwx⟩; subst hwx
  go_wp2_with fail
  refine (HWR.out _).mono ?_; rintro e wx ⟨rfl, hwx⟩; subst hwx
  go_upto_region 5 with fail
  go_quiet (fail)
  go_upto_region 6 with fail
  go_quiet (fail)
  go_upto_region 7 with fail
  go_quiet (fail)
  go_wp2_with fail
  refine (HS8.out _).mono ?_; rintro e w3 ⟨rfl, hw3⟩
  have hb3 : Below w2.heap.size w2 w3 := by rw [← hw3]; exact bdrewN (Below.refl _ _) _
  clear hw3 hc c16 cx cy cz
  have HL3 := Lib.hid (bkeep hb3 HL2.out)
  have HH3 := Lib.hid (HH2.out.keep hb3)
  have HB3 := Lib.hid (bnext HBB.out hb3)
  clear hb3 HL2 HH2 HBB
  go_wp2_with fail
  refine (HWN.out _).mono ?_; rintro e wx ⟨rfl, hwx⟩; subst hwx
  have hc := rowcell HL3.out
  go_wp2_with fail
  have hov : 0 ≤ ov ∧ ov ≤ 4294967295 := bov
  have hnv : 0 ≤ nx ∧ nx ≤ 4294967295 := rn
  have HST := Lib.hid (show stepI m s 15 x y z = (setAt (setR s x ov) nx, 0) by rw [HOV.out, HP.out, HVY.out, HVZ.out, HYM.out, HZM.out, HNX.out]; rfl)
  have hfm : ∀ w, Calls Try.prog 9 #[.int .i64 15] w fun e w' => e = .returned (.int .i64 3) ∧ Below w.heap.size w w' := fun w => by have h := refForm_in 15 (by omega) (by omega) w; rw [show formOf (15 : Int).toNat = 3 from by decide] at h; exact h
  refine (hfm _).mono ?_; rintro e w4 ⟨rfl, hb4⟩
  have HL4 := Lib.hid (bkeep hb4 HL3.out)
  have HH4 := Lib.hid (HH3.out.keep hb4)
  have HC4 := Lib.hid ((Chg.of_below (dwS gy gb) HB3.out).trans (Chg.of_below (dwS gy gb) hb4) (fun _ _ h => h))
  clear hb4 hc hfm
  have hc := rowcell HL4.out
  have c16 := HH4.out.at_
  have fx2 : (x : Int).tmod 16 = x := by rw [Int.tmod_eq_emod_of_nonneg (by omega)]; omega
  have lx0 : (0 : Int) ≤ x := by omega
  have cx := HH4.out.reg x hx
  have fzx : w4.frozen? ⟨gy, x, none⟩ = false := HH4.out.rw.frozen _
  go_upto_region 130 with fail
  refine wp_region_still_tail 8 (by kernel_rfl) (by kernel_rfl) ?_
  simp only [List.take_succ_cons, List.take_zero, List.drop_succ_cons, List.drop_zero]
  change wpStill _ _ (World.drew w4) _ _ _
  iterate 8 still_step
  refine wpStill_nil ?_
  change wpList _ _ _ _ _ (World.drew w4)
  go_upto_region 131 with fail
  have hD5 : DW (World.drew (w4.setCell ⟨gy, x, none⟩ (.int .u32 ov))) gy gb N m A cap (setR s x ov) := (HH4.out.setR x hx _ hov.1 hov.2).keep (drewb _)
  have hC5 : Chg (dwS gy gb) w (World.drew (w4.setCell ⟨gy, x, none⟩ (.int .u32 ov))) := (HC4.out.trans (Chg.of_one (S := dwS gy gb) (one_setCell _ gy x _) (.inl rfl)) (fun _ _ h => h)).trans (Chg.of_below (dwS gy gb) (drewb _)) (fun _ _ h => h)
  generalize World.drew (w4.setCell ⟨gy, x, none⟩ (.int .u32 ov)) = w5 at *
  have HD5 := Lib.hid hD5
  have HC5 := Lib.hid hC5
  clear hD5 hC5 cx fzx hc HH4 HC4 HL4 c16
  have c16 := HD5.out.at_
  have fz16 : w5.frozen? ⟨gy, 16, none⟩ = false := HD5.out.rw.frozen _
  go_wp2_with fail
  go_ret
  refine ⟨?_, ?_, HC5.out.trans (Chg.of_one (S := dwS gy gb) (one_setCell _ gy 16 _) (.inl rfl)) (fun _ _ h => h)⟩
  · rw [HST.out]; rfl
  · rw [HST.out]; exact HD5.out.setAt _ hnv.1 hnv.2
set_option maxRecDepth 100000 in
set_option maxHeartbeats 16000000 in
theorem refStep_16 {w : World} {gy gb N m cap : Nat} {A : Option Addr} {s : Mach} (h : DW w gy gb N m A cap s) (x y z : Nat) (hx : x < 16) (hy : y ≤ 255) (hz : z ≤ 255) :
    Calls Try.prog 29 #[.pointer (some ⟨gy, 0, none⟩), .agg #[.int .u8 16, .int .u8 x, .int .u8 y, .int .u8 z]] w (RefP gy gb N m A cap s 16 x y z w) := by
  have hb1 := bnew w (.cells #[.int .u8 16, .int .u8 x, .int .u8 y, .int .u8 z] 24)
  have hl1 := heap_alloc_last w (.cells #[.int .u8 16, .int .u8 x, .int .u8 y, .int .u8 z] 24)
  have hh := h.keep hb1
  have hc := rowcell hl1
  obtain ⟨ym, zm, vx, vy, vz, va, nx, wd, sj, q4, far, sn, q8, nr, fym, lym, fzm, lzm, fx, lx, rx, ry, rz, ra, rn, fn2, rw0, fwd, rj, fq4, rf, rsn, fq8, rnr, HYM, HZM, HVX, HVY, HVZ, HNX, HWD, HSJ, HFAR, HSN, HNR, HVA, HS16, HWR, HS8, HWN, HQ4, HQ8, HVX2⟩ := stepPre h x y z hx hy hz
  have HB1 := Lib.hid hb1
  have HL1 := Lib.hid hl1
  have HH := Lib.hid hh
  clear hb1 hl1 hh h
  obtain ⟨P, hP⟩ : ∃ k, k = (2 : Int) ^ (vz % 32).toNat := ⟨_, rfl⟩
  have HP := Lib.hid hP
  have bP : 1 ≤ P ∧ P ≤ 2147483648 := by rw [hP]; exact pow_le31 _ (by omega)
  have fP : (2 : Int) ^ (vz % 32).toNat = P := hP.symm
  clear hP
  obtain ⟨sv, hsv⟩ : ∃ k, k = wrap32 vy := ⟨_, rfl⟩
  have HSV := Lib.hid hsv
  have bsv : -2147483648 ≤ sv ∧ sv ≤ 2147483647 := by rw [hsv]; simp only [wrap32]; omega
  have HSV32 := Lib.hid (fun w => by have h := refSigned32 vy ry.1 ry.2 w; rw [sg32_wrap vy ry.1 ry.2, ← hsv] at h; exact h)
  clear hsv
  obtain ⟨qd, hqd⟩ : ∃ k, k = sv / P := ⟨_, rfl⟩
  have HQD := Lib.hid hqd
  have bqd := div_b sv P bP.1 bsv.1 (by omega)
  rw [← hqd] at bqd
  have fqd : sv / P = qd := hqd.symm
  clear hqd
  obtain ⟨ov, hov⟩ : ∃ k, k = qd % 4294967296 := ⟨_, rfl⟩
  have HOV := Lib.hid hov
  have HWA := Lib.hid (fun w => by have h := refWrap_any (qd) (by omega) (by omega) w; rw [show (qd) % 4294967296 = ov from hov.symm] at h; exact h)
  have bov : 0 ≤ ov ∧ ov ≤ 4294967295 := by omega
  clear hov
  go_enter Try.func29, Try.ntmps29
  go_upto_region 1 with fail
  obtain ⟨NI, hN⟩ : ∃ N, N = w.heap.size := ⟨_, rfl⟩
  rw [← hN] at hc ⊢
  have HN := Lib.hid hN
  generalize w.alloc (.cells #[.int .u8 16, .int .u8 x, .int .u8 y, .int .u8 z] 24) = w1 at *
  clear hN hc
  have hl1 := HL1.out
  rw [← HN.out] at hl1
  have hS0 : (fun w' : World => w'.heap[NI]? = some (.cells #[.int .u8 16, .int .u8 x, .int .u8 y, .int .u8 z] 24 (0, 0))) (World.drew w1) := hl1
  have HL1' := Lib.hid hl1
  clear hl1
  refine wp_region_held (S := fun w' : World => w'.heap[NI]? = some (.cells #[.int .u8 16, .int .u8 x, .int .u8 y, .int .u8 z] 24 (0, 0))) (by kernel_rfl) ?_
  change wpAnyH _ _ _ _ _ _ _ _ (World.drew _)
  refine takeH 1 (.pointer (some ⟨NI, 0, none⟩)) (some 28) rfl rfl (by kernel_rfl) (by kernel_rfl) (by kernel_rfl) (fun _ _ _ h => h) (.inl ⟨by kernel_rfl, fun w _ => by go_simp⟩) hS0 ?_
  refine takeH 2 (.int .u8 16) (some 29) rfl rfl (by kernel_rfl) (by kernel_rfl) (by kernel_rfl) (fun _ _ _ h => h) (.inl ⟨by kernel_rfl, fun w hw => by have hc := rowcell hw; go_simp⟩) hS0 ?_
  refine callH 0 rfl (by kernel_rfl) (by kernel_rfl) (some 27) rfl 22 #[] ?hrun ((refNames_any _).mono ?_)
  case hrun => go_simp
  rintro e w2 ⟨he, hw2⟩
  have hG : w2.heap[w1.heap.size]? = some (.cells nameVals 9) := by rw [← hw2]; exact heap_alloc_last w1.drew _
  have hb2 : Below w1.heap.size w1 w2 := by rw [← hw2]; exact bnext (drewb w1) (bnew w1.drew _)
  have hS2 := bkeep hb2 HL1'.out
  have C5 := rowcell hG
  have hsz : w1.drew.heap.size = w1.heap.size := rfl
  rw [hsz] at he
  obtain ⟨G, hGG⟩ : ∃ G, G = w1.heap.size := ⟨_, rfl⟩
  rw [← hGG] at he C5
  have HB2 := Lib.hid hb2
  clear hw2 hG hb2 hsz hS0 hGG
  refine ⟨_, he, hS2, ?_⟩
  have C6 : w2.cell? ⟨G, 16, none⟩ = some (.string ⟨#[115, 97, 114]⟩) := by rw [C5]; rfl
  clear C5
  refine runH 3 (.pointer (some ⟨G, 16, none⟩)) (some 30) rfl (by kernel_rfl) (by kernel_rfl) rfl (by go_simp) hS2 ?_
  refine runH 4 (.string ⟨#[115, 97, 114]⟩) (some 31) rfl (by kernel_rfl) (by kernel_rfl) rfl (by go_simp) hS2 ?_
  refine runH 5 (.string ⟨#[115, 97, 114]⟩) (some 5) rfl (by kernel_rfl) (by kernel_rfl) rfl (by go_simp) hS2 ?_
  refine wpAnyH_done (by kernel_rfl) ?_ _
  go_simp
  have HL2 := Lib.hid hS2
  have HH2 := Lib.hid (HH.out.keep HB2.out)
  have HBB := Lib.hid (bnext HB1.out HB2.out)
  clear C6 hS2 HL1' he HH HL1 HB1
  have hc := rowcell HL2.out
  have c16 := HH2.out.at_
  rw [← HVA.out] at c16
  have cx := HH2.out.reg x hx
  rw [← HVX.out] at cx
  have cy := HH2.out.reg ym (by omega)
  rw [← HVY.out] at cy
  have cz := HH2.out.reg zm (by omega)
  rw [← HVZ.out] at cz
  go_wp2_with fail
  refine (HS16.out _).mono ?_; rintro e wx ⟨rfl, hwx⟩; subst hwx
  go_wp2_with fail
  refine (HWR.out _).mono ?_; rintro e wx ⟨rfl, hwx⟩; subst hwx
  go_upto_region 5 with fail
  go_quiet (fail)
  go_upto_region 6 with fail
  go_quiet (fail)
  go_upto_region 7 with fail
  go_quiet (fail)
  go_wp2_with fail
  refine (HS8.out _).mono ?_; rintro e w3 ⟨rfl, hw3⟩
  have hb3 : Below w2.heap.size w2 w3 := by rw [← hw3]; exact bdrewN (Below.refl _ _) _
  clear hw3 hc c16 cx cy cz
  have HL3 := Lib.hid (bkeep hb3 HL2.out)
  have HH3 := Lib.hid (HH2.out.keep hb3)
  have HB3 := Lib.hid (bnext HBB.out hb3)
  clear hb3 HL2 HH2 HBB
  go_wp2_with fail
  refine (HWN.out _).mono ?_; rintro e wx ⟨rfl, hwx⟩; subst hwx
  have hc := rowcell HL3.out
  go_wp2_with fail
  refine (HSV32.out _).mono ?_; rintro e wx ⟨rfl, hwx⟩; subst hwx
  go_wp2_with fail
  refine (HWA.out _).mono ?_; rintro e wx ⟨rfl, hwx⟩; subst hwx
  go_wp2_with fail
  have hov : 0 ≤ ov ∧ ov ≤ 4294967295 := bov
  have hnv : 0 ≤ nx ∧ nx ≤ 4294967295 := rn
  have HST := Lib.hid (show stepI m s 16 x y z = (setAt (setR s x ov) nx, 0) by rw [HOV.out, HQD.out, HSV.out, HP.out, HVY.out, HVZ.out, HYM.out, HZM.out, HNX.out]; rfl)
  have hfm : ∀ w, Calls Try.prog 9 #[.int .i64 16] w fun e w' => e = .returned (.int .i64 3) ∧ Below w.heap.size w w' := fun w => by have h := refForm_in 16 (by omega) (by omega) w; rw [show formOf (16 : Int).toNat = 3 from by decide] at h; exact h
  refine (hfm _).mono ?_; rintro e w4 ⟨rfl, hb4⟩
  have HL4 := Lib.hid (bkeep hb4 HL3.out)
  have HH4 := Lib.hid (HH3.out.keep hb4)
  have HC4 := Lib.hid ((Chg.of_below (dwS gy gb) HB3.out).trans (Chg.of_below (dwS gy gb) hb4) (fun _ _ h => h))
  clear hb4 hc hfm
  have hc := rowcell HL4.out
  have c16 := HH4.out.at_
  have fx2 : (x : Int).tmod 16 = x := by rw [Int.tmod_eq_emod_of_nonneg (by omega)]; omega
  have lx0 : (0 : Int) ≤ x := by omega
  have cx := HH4.out.reg x hx
  have fzx : w4.frozen? ⟨gy, x, none⟩ = false := HH4.out.rw.frozen _
  go_upto_region 130 with fail
  refine wp_region_still_tail 8 (by kernel_rfl) (by kernel_rfl) ?_
  simp only [List.take_succ_cons, List.take_zero, List.drop_succ_cons, List.drop_zero]
  change wpStill _ _ (World.drew w4) _ _ _
  iterate 8 still_step
  refine wpStill_nil ?_
  change wpList _ _ _ _ _ (World.drew w4)
  go_upto_region 131 with fail
  have hD5 : DW (World.drew (w4.setCell ⟨gy, x, none⟩ (.int .u32 ov))) gy gb N m A cap (setR s x ov) := (HH4.out.setR x hx _ hov.1 hov.2).keep (drewb _)
  have hC5 : Chg (dwS gy gb) w (World.drew (w4.setCell ⟨gy, x, none⟩ (.int .u32 ov))) := (HC4.out.trans (Chg.of_one (S := dwS gy gb) (one_setCell _ gy x _) (.inl rfl)) (fun _ _ h => h)).trans (Chg.of_below (dwS gy gb) (drewb _)) (fun _ _ h => h)
  generalize World.drew (w4.setCell ⟨gy, x, none⟩ (.int .u32 ov)) = w5 at *
  have HD5 := Lib.hid hD5
  have HC5 := Lib.hid hC5
  clear hD5 hC5 cx fzx hc HH4 HC4 HL4 c16
  have c16 := HD5.out.at_
  have fz16 : w5.frozen? ⟨gy, 16, none⟩ = false := HD5.out.rw.frozen _
  go_wp2_with fail
  go_ret
  refine ⟨?_, ?_, HC5.out.trans (Chg.of_one (S := dwS gy gb) (one_setCell _ gy 16 _) (.inl rfl)) (fun _ _ h => h)⟩
  · rw [HST.out]; rfl
  · rw [HST.out]; exact HD5.out.setAt _ hnv.1 hnv.2
set_option maxRecDepth 100000 in
set_option maxHeartbeats 16000000 in
theorem refStep_17 {w : World} {gy gb N m cap : Nat} {A : Option Addr} {s : Mach} (h : DW w gy gb N m A cap s) (x y z : Nat) (hx : x < 16) (hy : y ≤ 255) (hz : z ≤ 255) :
    Calls Try.prog 29 #[.pointer (some ⟨gy, 0, none⟩), .agg #[.int .u8 17, .int .u8 x, .int .u8 y, .int .u8 z]] w (RefP gy gb N m A cap s 17 x y z w) := by
  have hb1 := bnew w (.cells #[.int .u8 17, .int .u8 x, .int .u8 y, .int .u8 z] 24)
  have hl1 := heap_alloc_last w (.cells #[.int .u8 17, .int .u8 x, .int .u8 y, .int .u8 z] 24)
  have hh := h.keep hb1
  have hc := rowcell hl1
  obtain ⟨ym, zm, vx, vy, vz, va, nx, wd, sj, q4, far, sn, q8, nr, fym, lym, fzm, lzm, fx, lx, rx, ry, rz, ra, rn, fn2, rw0, fwd, rj, fq4, rf, rsn, fq8, rnr, HYM, HZM, HVX, HVY, HVZ, HNX, HWD, HSJ, HFAR, HSN, HNR, HVA, HS16, HWR, HS8, HWN, HQ4, HQ8, HVX2⟩ := stepPre h x y z hx hy hz
  have HB1 := Lib.hid hb1
  have HL1 := Lib.hid hl1
  have HH := Lib.hid hh
  clear hb1 hl1 hh h
  obtain ⟨ny, hny⟩ : ∃ n : Nat, (n : Int) = vy := ⟨vy.toNat, Int.toNat_of_nonneg ry.1⟩
  have HNY := Lib.hid hny
  have bny : ny < 4294967296 := by omega
  obtain ⟨c, hc0⟩ : ∃ c : Nat, (c : Int) = vz % 32 := ⟨(vz % 32).toNat, Int.toNat_of_nonneg (by omega)⟩
  have fc : vz % 32 = (c : Int) := hc0.symm
  have fc2 : vz.tmod 32 = (c : Int) := by rw [Int.tmod_eq_emod_of_nonneg rz.1]; exact fc
  have hc32 : c < 32 := by omega
  have HC0 := Lib.hid hc0
  have HW2 := Lib.hid (fun (r : Nat) (hr : r < 4294967296) (w : World) => refWrap_any ((r : Int) * 2) (by omega) (by omega) w)
  have hs0 : Value.int .u32 vy = .int .u32 ((rk ny 0 : Nat) : Int) := by rw [rk_zero ny bny, hny]
  have HS0 := Lib.hid hs0
  clear hny hc0 hs0
  go_enter Try.func29, Try.ntmps29
  go_upto_region 1 with fail
  obtain ⟨NI, hN⟩ : ∃ N, N = w.heap.size := ⟨_, rfl⟩
  rw [← hN] at hc ⊢
  have HN := Lib.hid hN
  generalize w.alloc (.cells #[.int .u8 17, .int .u8 x, .int .u8 y, .int .u8 z] 24) = w1 at *
  clear hN hc
  have hl1 := HL1.out
  rw [← HN.out] at hl1
  have hS0 : (fun w' : World => w'.heap[NI]? = some (.cells #[.int .u8 17, .int .u8 x, .int .u8 y, .int .u8 z] 24 (0, 0))) (World.drew w1) := hl1
  have HL1' := Lib.hid hl1
  clear hl1
  refine wp_region_held (S := fun w' : World => w'.heap[NI]? = some (.cells #[.int .u8 17, .int .u8 x, .int .u8 y, .int .u8 z] 24 (0, 0))) (by kernel_rfl) ?_
  change wpAnyH _ _ _ _ _ _ _ _ (World.drew _)
  refine takeH 1 (.pointer (some ⟨NI, 0, none⟩)) (some 28) rfl rfl (by kernel_rfl) (by kernel_rfl) (by kernel_rfl) (fun _ _ _ h => h) (.inl ⟨by kernel_rfl, fun w _ => by go_simp⟩) hS0 ?_
  refine takeH 2 (.int .u8 17) (some 29) rfl rfl (by kernel_rfl) (by kernel_rfl) (by kernel_rfl) (fun _ _ _ h => h) (.inl ⟨by kernel_rfl, fun w hw => by have hc := rowcell hw; go_simp⟩) hS0 ?_
  refine callH 0 rfl (by kernel_rfl) (by kernel_rfl) (some 27) rfl 22 #[] ?hrun ((refNames_any _).mono ?_)
  case hrun => go_simp
  rintro e w2 ⟨he, hw2⟩
  have hG : w2.heap[w1.heap.size]? = some (.cells nameVals 9) := by rw [← hw2]; exact heap_alloc_last w1.drew _
  have hb2 : Below w1.heap.size w1 w2 := by rw [← hw2]; exact bnext (drewb w1) (bnew w1.drew _)
  have hS2 := bkeep hb2 HL1'.out
  have C5 := rowcell hG
  have hsz : w1.drew.heap.size = w1.heap.size := rfl
  rw [hsz] at he
  obtain ⟨G, hGG⟩ : ∃ G, G = w1.heap.size := ⟨_, rfl⟩
  rw [← hGG] at he C5
  have HB2 := Lib.hid hb2
  clear hw2 hG hb2 hsz hS0 hGG
  refine ⟨_, he, hS2, ?_⟩
  have C6 : w2.cell? ⟨G, 17, none⟩ = some (.string ⟨#[114, 111, 116]⟩) := by rw [C5]; rfl
  clear C5
  refine runH 3 (.pointer (some ⟨G, 17, none⟩)) (some 30) rfl (by kernel_rfl) (by kernel_rfl) rfl (by go_simp) hS2 ?_
  refine runH 4 (.string ⟨#[114, 111, 116]⟩) (some 31) rfl (by kernel_rfl) (by kernel_rfl) rfl (by go_simp) hS2 ?_
  refine runH 5 (.string ⟨#[114, 111, 116]⟩) (some 5) rfl (by kernel_rfl) (by kernel_rfl) rfl (by go_simp) hS2 ?_
  refine wpAnyH_done (by kernel_rfl) ?_ _
  go_simp
  have HL2 := Lib.hid hS2
  have HH2 := Lib.hid (HH.out.keep HB2.out)
  have HBB := Lib.hid (bnext HB1.out HB2.out)
  clear C6 hS2 HL1' he HH HL1 HB1
  have hc := rowcell HL2.out
  have c16 := HH2.out.at_
  rw [← HVA.out] at c16
  have cx := HH2.out.reg x hx
  rw [← HVX.out] at cx
  have cy := HH2.out.reg ym (by omega)
  rw [← HVY.out] at cy
  have cz := HH2.out.reg zm (by omega)
  rw [← HVZ.out] at cz
  go_wp2_with fail
  refine (HS16.out _).mono ?_; rintro e wx ⟨rfl, hwx⟩; subst hwx
  go_wp2_with fail
  refine (HWR.out _).mono ?_; rintro e wx ⟨rfl, hwx⟩; subst hwx
  go_upto_region 5 with fail
  go_quiet (fail)
  go_upto_region 6 with fail
  go_quiet (fail)
  go_upto_region 7 with fail
  go_quiet (fail)
  go_wp2_with fail
  refine (HS8.out _).mono ?_; rintro e w3 ⟨rfl, hw3⟩
  have hb3 : Below w2.heap.size w2 w3 := by rw [← hw3]; exact bdrewN (Below.refl _ _) _
  clear hw3 hc c16 cx cy cz
  have HL3 := Lib.hid (bkeep hb3 HL2.out)
  have HH3 := Lib.hid (HH2.out.keep hb3)
  have HB3 := Lib.hid (bnext HBB.out hb3)
  clear hb3 HL2 HH2 HBB
  go_wp2_with fail
  refine (HWN.out _).mono ?_; rintro e wx ⟨rfl, hwx⟩; subst hwx
  have hc := rowcell HL3.out
  go_wp2_with fail
  go_loopw [13, 18] (fun s13 s18 wr => ∃ k : Nat, k ≤ c ∧ s18 = .int .u32 k ∧ s13 = .int .u32 (rk ny k : Nat) ∧ wr = w3) (fun _ s18 _ => c - (intOf s18).toNat)
  case atStart => exact ⟨0, by omega, rfl, HS0.out, rfl⟩
  case round =>
    obtain ⟨k, hk, rfl, rfl, rfl⟩ := hrel
    by_cases c0 : k < c
    · have c1 : (k : Int) < c := by omega
      obtain ⟨hstep, hr32⟩ := rk_step ny k bny (by omega)
      obtain ⟨r, hr⟩ : ∃ r, r = rk ny k := ⟨_, rfl⟩
      rw [← hr] at hr32 hstep ⊢
      have hw2 := HW2.out r hr32
      obtain ⟨r2, hr2⟩ : ∃ r2, r2 = r * 2 % 4294967296 := ⟨_, rfl⟩
      obtain ⟨r3, hr3⟩ : ∃ r3, r3 = r / 2147483648 := ⟨_, rfl⟩
      rw [← hr2, ← hr3] at hstep
      rw [show (r : Int) * 2 % 4294967296 = r2 by omega] at hw2
      have f3 : (r : Int) / 2147483648 = r3 := by omega
      have b2 : r2 + r3 < 4294967296 := by omega
      have HST0 := Lib.hid hstep
      have HWW := Lib.hid hw2
      clear hstep hw2 hr hr2 hr3
      go_wp2_with fail
      refine (HWW.out _).mono ?_; rintro e wx ⟨rfl, hwx⟩; subst hwx
      go_wp2_with fail
      go_roundw
      case rel => exact ⟨k + 1, by omega, by go_num, by rw [HST0.out]; go_num, by trivial⟩
      case measure => (simp [intOf]; try omega)
    · obtain rfl : k = c := by omega
      go_wp2_with fail
      have hrot := rotI_rk ny k bny hc32
      have hbb : 0 ≤ ((rk ny k : Nat) : Int) ∧ ((rk ny k : Nat) : Int) ≤ 4294967295 := by rw [← hrot]; exact ⟨bits_lo_u32 .or _ _, bits_hi_u32 .or _ _⟩
      have hov := hbb
      have hnv := rn
      have HST := Lib.hid (show stepI m s 17 x y z = (setAt (setR s x ((rk ny k : Nat) : Int)) nx, 0) by rw [← hrot, HC0.out, HNY.out, HVZ.out, HZM.out, HVY.out, HYM.out, HNX.out]; rfl)
      clear hrot
      have hfm : ∀ w, Calls Try.prog 9 #[.int .i64 17] w fun e w' => e = .returned (.int .i64 3) ∧ Below w.heap.size w w' := fun w => by have h := refForm_in 17 (by omega) (by omega) w; rw [show formOf (17 : Int).toNat = 3 from by decide] at h; exact h
      refine (hfm _).mono ?_; rintro e w4 ⟨rfl, hb4⟩
      have HL4 := Lib.hid (bkeep hb4 HL3.out)
      have HH4 := Lib.hid (HH3.out.keep hb4)
      have HC4 := Lib.hid ((Chg.of_below (dwS gy gb) HB3.out).trans (Chg.of_below (dwS gy gb) hb4) (fun _ _ h => h))
      clear hb4 hc hfm
      have hc := rowcell HL4.out
      have c16 := HH4.out.at_
      have fx2 : (x : Int).tmod 16 = x := by rw [Int.tmod_eq_emod_of_nonneg (by omega)]; omega
      have lx0 : (0 : Int) ≤ x := by omega
      have cx := HH4.out.reg x hx
      have fzx : w4.frozen? ⟨gy, x, none⟩ = false := HH4.out.rw.frozen _
      go_upto_region 130 with fail
      refine wp_region_still_tail 8 (by kernel_rfl) (by kernel_rfl) ?_
      simp only [List.take_succ_cons, List.take_zero, List.drop_succ_cons, List.drop_zero]
      change wpStill _ _ (World.drew w4) _ _ _
      iterate 8 still_step
      refine wpStill_nil ?_
      change wpList _ _ _ _ _ (World.drew w4)
      go_upto_region 131 with fail
      have hD5 : DW (World.drew (w4.setCell ⟨gy, x, none⟩ (.int .u32 ((rk ny k : Nat) : Int)))) gy gb N m A cap (setR s x ((rk ny k : Nat) : Int)) := (HH4.out.setR x hx _ hov.1 hov.2).keep (drewb _)
      have hC5 : Chg (dwS gy gb) w (World.drew (w4.setCell ⟨gy, x, none⟩ (.int .u32 ((rk ny k : Nat) : Int)))) := (HC4.out.trans (Chg.of_one (S := dwS gy gb) (one_setCell _ gy x _) (.inl rfl)) (fun _ _ h => h)).trans (Chg.of_below (dwS gy gb) (drewb _)) (fun _ _ h => h)
      generalize World.drew (w4.setCell ⟨gy, x, none⟩ (.int .u32 ((rk ny k : Nat) : Int))) = w5 at *
      have HD5 := Lib.hid hD5
      have HC5 := Lib.hid hC5
      clear hD5 hC5 cx fzx hc HH4 HC4 HL4 c16
      have c16 := HD5.out.at_
      have fz16 : w5.frozen? ⟨gy, 16, none⟩ = false := HD5.out.rw.frozen _
      go_wp2_with fail
      go_ret
      refine ⟨?_, ?_, HC5.out.trans (Chg.of_one (S := dwS gy gb) (one_setCell _ gy 16 _) (.inl rfl)) (fun _ _ h => h)⟩
      · rw [HST.out]; rfl
      · rw [HST.out]; exact HD5.out.setAt _ hnv.1 hnv.2
set_option maxRecDepth 100000 in
set_option maxHeartbeats 16000000 in
theorem refStep_21 {w : World} {gy gb N m cap : Nat} {A : Option Addr} {s : Mach} (h : DW w gy gb N m A cap s) (x y z : Nat) (hx : x < 16) (hy : y ≤ 255) (hz : z ≤ 255) :
    Calls Try.prog 29 #[.pointer (some ⟨gy, 0, none⟩), .agg #[.int .u8 21, .int .u8 x, .int .u8 y, .int .u8 z]] w (RefP gy gb N m A cap s 21 x y z w) := by
  have hb1 := bnew w (.cells #[.int .u8 21, .int .u8 x, .int .u8 y, .int .u8 z] 24)
  have hl1 := heap_alloc_last w (.cells #[.int .u8 21, .int .u8 x, .int .u8 y, .int .u8 z] 24)
  have hh := h.keep hb1
  have hc := rowcell hl1
  obtain ⟨ym, zm, vx, vy, vz, va, nx, wd, sj, q4, far, sn, q8, nr, fym, lym, fzm, lzm, fx, lx, rx, ry, rz, ra, rn, fn2, rw0, fwd, rj, fq4, rf, rsn, fq8, rnr, HYM, HZM, HVX, HVY, HVZ, HNX, HWD, HSJ, HFAR, HSN, HNR, HVA, HS16, HWR, HS8, HWN, HQ4, HQ8, HVX2⟩ := stepPre h x y z hx hy hz
  have HB1 := Lib.hid hb1
  have HL1 := Lib.hid hl1
  have HH := Lib.hid hh
  clear hb1 hl1 hh h
  go_enter Try.func29, Try.ntmps29
  go_upto_region 1 with fail
  obtain ⟨NI, hN⟩ : ∃ N, N = w.heap.size := ⟨_, rfl⟩
  rw [← hN] at hc ⊢
  have HN := Lib.hid hN
  generalize w.alloc (.cells #[.int .u8 21, .int .u8 x, .int .u8 y, .int .u8 z] 24) = w1 at *
  clear hN hc
  have hl1 := HL1.out
  rw [← HN.out] at hl1
  have hS0 : (fun w' : World => w'.heap[NI]? = some (.cells #[.int .u8 21, .int .u8 x, .int .u8 y, .int .u8 z] 24 (0, 0))) (World.drew w1) := hl1
  have HL1' := Lib.hid hl1
  clear hl1
  refine wp_region_held (S := fun w' : World => w'.heap[NI]? = some (.cells #[.int .u8 21, .int .u8 x, .int .u8 y, .int .u8 z] 24 (0, 0))) (by kernel_rfl) ?_
  change wpAnyH _ _ _ _ _ _ _ _ (World.drew _)
  refine takeH 1 (.pointer (some ⟨NI, 0, none⟩)) (some 28) rfl rfl (by kernel_rfl) (by kernel_rfl) (by kernel_rfl) (fun _ _ _ h => h) (.inl ⟨by kernel_rfl, fun w _ => by go_simp⟩) hS0 ?_
  refine takeH 2 (.int .u8 21) (some 29) rfl rfl (by kernel_rfl) (by kernel_rfl) (by kernel_rfl) (fun _ _ _ h => h) (.inl ⟨by kernel_rfl, fun w hw => by have hc := rowcell hw; go_simp⟩) hS0 ?_
  refine callH 0 rfl (by kernel_rfl) (by kernel_rfl) (some 27) rfl 22 #[] ?hrun ((refNames_any _).mono ?_)
  case hrun => go_simp
  rintro e w2 ⟨he, hw2⟩
  have hG : w2.heap[w1.heap.size]? = some (.cells nameVals 9) := by rw [← hw2]; exact heap_alloc_last w1.drew _
  have hb2 : Below w1.heap.size w1 w2 := by rw [← hw2]; exact bnext (drewb w1) (bnew w1.drew _)
  have hS2 := bkeep hb2 HL1'.out
  have C5 := rowcell hG
  have hsz : w1.drew.heap.size = w1.heap.size := rfl
  rw [hsz] at he
  obtain ⟨G, hGG⟩ : ∃ G, G = w1.heap.size := ⟨_, rfl⟩
  rw [← hGG] at he C5
  have HB2 := Lib.hid hb2
  clear hw2 hG hb2 hsz hS0 hGG
  refine ⟨_, he, hS2, ?_⟩
  have C6 : w2.cell? ⟨G, 21, none⟩ = some (.string ⟨#[97, 100, 100, 105]⟩) := by rw [C5]; rfl
  clear C5
  refine runH 3 (.pointer (some ⟨G, 21, none⟩)) (some 30) rfl (by kernel_rfl) (by kernel_rfl) rfl (by go_simp) hS2 ?_
  refine runH 4 (.string ⟨#[97, 100, 100, 105]⟩) (some 31) rfl (by kernel_rfl) (by kernel_rfl) rfl (by go_simp) hS2 ?_
  refine runH 5 (.string ⟨#[97, 100, 100, 105]⟩) (some 5) rfl (by kernel_rfl) (by kernel_rfl) rfl (by go_simp) hS2 ?_
  refine wpAnyH_done (by kernel_rfl) ?_ _
  go_simp
  have HL2 := Lib.hid hS2
  have HH2 := Lib.hid (HH.out.keep HB2.out)
  have HBB := Lib.hid (bnext HB1.out HB2.out)
  clear C6 hS2 HL1' he HH HL1 HB1
  have hc := rowcell HL2.out
  have c16 := HH2.out.at_
  rw [← HVA.out] at c16
  have cx := HH2.out.reg x hx
  rw [← HVX.out] at cx
  have cy := HH2.out.reg ym (by omega)
  rw [← HVY.out] at cy
  have cz := HH2.out.reg zm (by omega)
  rw [← HVZ.out] at cz
  go_wp2_with fail
  refine (HS16.out _).mono ?_; rintro e wx ⟨rfl, hwx⟩; subst hwx
  go_wp2_with fail
  refine (HWR.out _).mono ?_; rintro e wx ⟨rfl, hwx⟩; subst hwx
  go_upto_region 5 with fail
  go_quiet (fail)
  go_upto_region 6 with fail
  go_quiet (fail)
  go_upto_region 7 with fail
  go_quiet (fail)
  go_wp2_with fail
  refine (HS8.out _).mono ?_; rintro e w3 ⟨rfl, hw3⟩
  have hb3 : Below w2.heap.size w2 w3 := by rw [← hw3]; exact bdrewN (Below.refl _ _) _
  clear hw3 hc c16 cx cy cz
  have HL3 := Lib.hid (bkeep hb3 HL2.out)
  have HH3 := Lib.hid (HH2.out.keep hb3)
  have HB3 := Lib.hid (bnext HBB.out hb3)
  clear hb3 HL2 HH2 HBB
  go_wp2_with fail
  refine (HWN.out _).mono ?_; rintro e wx ⟨rfl, hwx⟩; subst hwx
  have hc := rowcell HL3.out
  go_wp2_with fail
  have hov : 0 ≤ nr ∧ nr ≤ 4294967295 := rnr
  have hnv : 0 ≤ nx ∧ nx ≤ 4294967295 := rn
  have HST := Lib.hid (show stepI m s 21 x y z = (setAt (setR s x nr) nx, 0) by rw [HNR.out, HSN.out, HVY.out, HYM.out, HNX.out]; rfl)
  have hfm : ∀ w, Calls Try.prog 9 #[.int .i64 21] w fun e w' => e = .returned (.int .i64 4) ∧ Below w.heap.size w w' := fun w => by have h := refForm_in 21 (by omega) (by omega) w; rw [show formOf (21 : Int).toNat = 4 from by decide] at h; exact h
  refine (hfm _).mono ?_; rintro e w4 ⟨rfl, hb4⟩
  have HL4 := Lib.hid (bkeep hb4 HL3.out)
  have HH4 := Lib.hid (HH3.out.keep hb4)
  have HC4 := Lib.hid ((Chg.of_below (dwS gy gb) HB3.out).trans (Chg.of_below (dwS gy gb) hb4) (fun _ _ h => h))
  clear hb4 hc hfm
  have hc := rowcell HL4.out
  have c16 := HH4.out.at_
  have fx2 : (x : Int).tmod 16 = x := by rw [Int.tmod_eq_emod_of_nonneg (by omega)]; omega
  have lx0 : (0 : Int) ≤ x := by omega
  have cx := HH4.out.reg x hx
  have fzx : w4.frozen? ⟨gy, x, none⟩ = false := HH4.out.rw.frozen _
  go_upto_region 130 with fail
  refine wp_region_still_tail 8 (by kernel_rfl) (by kernel_rfl) ?_
  simp only [List.take_succ_cons, List.take_zero, List.drop_succ_cons, List.drop_zero]
  change wpStill _ _ (World.drew w4) _ _ _
  iterate 8 still_step
  refine wpStill_nil ?_
  change wpList _ _ _ _ _ (World.drew w4)
  go_upto_region 131 with fail
  have hD5 : DW (World.drew (w4.setCell ⟨gy, x, none⟩ (.int .u32 nr))) gy gb N m A cap (setR s x nr) := (HH4.out.setR x hx _ hov.1 hov.2).keep (drewb _)
  have hC5 : Chg (dwS gy gb) w (World.drew (w4.setCell ⟨gy, x, none⟩ (.int .u32 nr))) := (HC4.out.trans (Chg.of_one (S := dwS gy gb) (one_setCell _ gy x _) (.inl rfl)) (fun _ _ h => h)).trans (Chg.of_below (dwS gy gb) (drewb _)) (fun _ _ h => h)
  generalize World.drew (w4.setCell ⟨gy, x, none⟩ (.int .u32 nr)) = w5 at *
  have HD5 := Lib.hid hD5
  have HC5 := Lib.hid hC5
  clear hD5 hC5 cx fzx hc HH4 HC4 HL4 c16
  have c16 := HD5.out.at_
  have fz16 : w5.frozen? ⟨gy, 16, none⟩ = false := HD5.out.rw.frozen _
  go_wp2_with fail
  go_ret
  refine ⟨?_, ?_, HC5.out.trans (Chg.of_one (S := dwS gy gb) (one_setCell _ gy 16 _) (.inl rfl)) (fun _ _ h => h)⟩
  · rw [HST.out]; rfl
  · rw [HST.out]; exact HD5.out.setAt _ hnv.1 hnv.2
set_option maxRecDepth 100000 in
set_option maxHeartbeats 16000000 in
theorem refStep_30 {w : World} {gy gb N m cap : Nat} {A : Option Addr} {s : Mach} (h : DW w gy gb N m A cap s) (x y z : Nat) (hx : x < 16) (hy : y ≤ 255) (hz : z ≤ 255) :
    Calls Try.prog 29 #[.pointer (some ⟨gy, 0, none⟩), .agg #[.int .u8 30, .int .u8 x, .int .u8 y, .int .u8 z]] w (RefP gy gb N m A cap s 30 x y z w) := by
  have hb1 := bnew w (.cells #[.int .u8 30, .int .u8 x, .int .u8 y, .int .u8 z] 24)
  have hl1 := heap_alloc_last w (.cells #[.int .u8 30, .int .u8 x, .int .u8 y, .int .u8 z] 24)
  have hh := h.keep hb1
  have hc := rowcell hl1
  obtain ⟨ym, zm, vx, vy, vz, va, nx, wd, sj, q4, far, sn, q8, nr, fym, lym, fzm, lzm, fx, lx, rx, ry, rz, ra, rn, fn2, rw0, fwd, rj, fq4, rf, rsn, fq8, rnr, HYM, HZM, HVX, HVY, HVZ, HNX, HWD, HSJ, HFAR, HSN, HNR, HVA, HS16, HWR, HS8, HWN, HQ4, HQ8, HVX2⟩ := stepPre h x y z hx hy hz
  have HB1 := Lib.hid hb1
  have HL1 := Lib.hid hl1
  have HH := Lib.hid hh
  clear hb1 hl1 hh h
  go_enter Try.func29, Try.ntmps29
  go_upto_region 1 with fail
  obtain ⟨NI, hN⟩ : ∃ N, N = w.heap.size := ⟨_, rfl⟩
  rw [← hN] at hc ⊢
  have HN := Lib.hid hN
  generalize w.alloc (.cells #[.int .u8 30, .int .u8 x, .int .u8 y, .int .u8 z] 24) = w1 at *
  clear hN hc
  have hl1 := HL1.out
  rw [← HN.out] at hl1
  have hS0 : (fun w' : World => w'.heap[NI]? = some (.cells #[.int .u8 30, .int .u8 x, .int .u8 y, .int .u8 z] 24 (0, 0))) (World.drew w1) := hl1
  have HL1' := Lib.hid hl1
  clear hl1
  refine wp_region_held (S := fun w' : World => w'.heap[NI]? = some (.cells #[.int .u8 30, .int .u8 x, .int .u8 y, .int .u8 z] 24 (0, 0))) (by kernel_rfl) ?_
  change wpAnyH _ _ _ _ _ _ _ _ (World.drew _)
  refine takeH 1 (.pointer (some ⟨NI, 0, none⟩)) (some 28) rfl rfl (by kernel_rfl) (by kernel_rfl) (by kernel_rfl) (fun _ _ _ h => h) (.inl ⟨by kernel_rfl, fun w _ => by go_simp⟩) hS0 ?_
  refine takeH 2 (.int .u8 30) (some 29) rfl rfl (by kernel_rfl) (by kernel_rfl) (by kernel_rfl) (fun _ _ _ h => h) (.inl ⟨by kernel_rfl, fun w hw => by have hc := rowcell hw; go_simp⟩) hS0 ?_
  refine callH 0 rfl (by kernel_rfl) (by kernel_rfl) (some 27) rfl 22 #[] ?hrun ((refNames_any _).mono ?_)
  case hrun => go_simp
  rintro e w2 ⟨he, hw2⟩
  have hG : w2.heap[w1.heap.size]? = some (.cells nameVals 9) := by rw [← hw2]; exact heap_alloc_last w1.drew _
  have hb2 : Below w1.heap.size w1 w2 := by rw [← hw2]; exact bnext (drewb w1) (bnew w1.drew _)
  have hS2 := bkeep hb2 HL1'.out
  have C5 := rowcell hG
  have hsz : w1.drew.heap.size = w1.heap.size := rfl
  rw [hsz] at he
  obtain ⟨G, hGG⟩ : ∃ G, G = w1.heap.size := ⟨_, rfl⟩
  rw [← hGG] at he C5
  have HB2 := Lib.hid hb2
  clear hw2 hG hb2 hsz hS0 hGG
  refine ⟨_, he, hS2, ?_⟩
  have C6 : w2.cell? ⟨G, 30, none⟩ = some (.string ⟨#[106, 109, 112]⟩) := by rw [C5]; rfl
  clear C5
  refine runH 3 (.pointer (some ⟨G, 30, none⟩)) (some 30) rfl (by kernel_rfl) (by kernel_rfl) rfl (by go_simp) hS2 ?_
  refine runH 4 (.string ⟨#[106, 109, 112]⟩) (some 31) rfl (by kernel_rfl) (by kernel_rfl) rfl (by go_simp) hS2 ?_
  refine runH 5 (.string ⟨#[106, 109, 112]⟩) (some 5) rfl (by kernel_rfl) (by kernel_rfl) rfl (by go_simp) hS2 ?_
  refine wpAnyH_done (by kernel_rfl) ?_ _
  go_simp
  have HL2 := Lib.hid hS2
  have HH2 := Lib.hid (HH.out.keep HB2.out)
  have HBB := Lib.hid (bnext HB1.out HB2.out)
  clear C6 hS2 HL1' he HH HL1 HB1
  have hc := rowcell HL2.out
  have c16 := HH2.out.at_
  rw [← HVA.out] at c16
  have cx := HH2.out.reg x hx
  rw [← HVX.out] at cx
  have cy := HH2.out.reg ym (by omega)
  rw [← HVY.out] at cy
  have cz := HH2.out.reg zm (by omega)
  rw [← HVZ.out] at cz
  go_wp2_with fail
  refine (HS16.out _).mono ?_; rintro e wx ⟨rfl, hwx⟩; subst hwx
  go_wp2_with fail
  refine (HWR.out _).mono ?_; rintro e wx ⟨rfl, hwx⟩; subst hwx
  go_upto_region 5 with fail
  go_quiet (fail)
  go_upto_region 6 with fail
  go_quiet (fail)
  go_upto_region 7 with fail
  go_quiet (fail)
  go_wp2_with fail
  refine (HS8.out _).mono ?_; rintro e w3 ⟨rfl, hw3⟩
  have hb3 : Below w2.heap.size w2 w3 := by rw [← hw3]; exact bdrewN (Below.refl _ _) _
  clear hw3 hc c16 cx cy cz
  have HL3 := Lib.hid (bkeep hb3 HL2.out)
  have HH3 := Lib.hid (HH2.out.keep hb3)
  have HB3 := Lib.hid (bnext HBB.out hb3)
  clear hb3 HL2 HH2 HBB
  go_wp2_with fail
  refine (HWN.out _).mono ?_; rintro e wx ⟨rfl, hwx⟩; subst hwx
  have hc := rowcell HL3.out
  go_wp2_with fail
  have hov : 0 ≤ vx ∧ vx ≤ 4294967295 := rx
  have hnv : 0 ≤ far ∧ far ≤ 4294967295 := rf
  have HST := Lib.hid (show stepI m s 30 x y z = (setAt s far, 0) by rw [HFAR.out, HNX.out]; rfl)
  have hfm : ∀ w, Calls Try.prog 9 #[.int .i64 30] w fun e w' => e = .returned (.int .i64 6) ∧ Below w.heap.size w w' := fun w => by have h := refForm_in 30 (by omega) (by omega) w; rw [show formOf (30 : Int).toNat = 6 from by decide] at h; exact h
  refine (hfm _).mono ?_; rintro e w4 ⟨rfl, hb4⟩
  have HL4 := Lib.hid (bkeep hb4 HL3.out)
  have HH4 := Lib.hid (HH3.out.keep hb4)
  have HC4 := Lib.hid ((Chg.of_below (dwS gy gb) HB3.out).trans (Chg.of_below (dwS gy gb) hb4) (fun _ _ h => h))
  clear hb4 hc hfm
  have hc := rowcell HL4.out
  have c16 := HH4.out.at_
  go_upto_region 131 with fail
  obtain ⟨w5, hw5⟩ : ∃ w5, w5 = w4 := ⟨_, rfl⟩
  rw [← hw5] at HH4 HC4 ⊢
  have HD5 := HH4
  have HC5 := HC4
  clear hw5 hc c16 HH4 HC4 HL4
  have c16 := HD5.out.at_
  have fz16 : w5.frozen? ⟨gy, 16, none⟩ = false := HD5.out.rw.frozen _
  go_wp2_with fail
  go_ret
  refine ⟨?_, ?_, HC5.out.trans (Chg.of_one (S := dwS gy gb) (one_setCell _ gy 16 _) (.inl rfl)) (fun _ _ h => h)⟩
  · rw [HST.out]; rfl
  · rw [HST.out]; exact HD5.out.setAt _ hnv.1 hnv.2
set_option maxRecDepth 100000 in
set_option maxHeartbeats 16000000 in
theorem refStep_33 {w : World} {gy gb N m cap : Nat} {A : Option Addr} {s : Mach} (h : DW w gy gb N m A cap s) (x y z : Nat) (hx : x < 16) (hy : y ≤ 255) (hz : z ≤ 255) :
    Calls Try.prog 29 #[.pointer (some ⟨gy, 0, none⟩), .agg #[.int .u8 33, .int .u8 x, .int .u8 y, .int .u8 z]] w (RefP gy gb N m A cap s 33 x y z w) := by
  have hb1 := bnew w (.cells #[.int .u8 33, .int .u8 x, .int .u8 y, .int .u8 z] 24)
  have hl1 := heap_alloc_last w (.cells #[.int .u8 33, .int .u8 x, .int .u8 y, .int .u8 z] 24)
  have hh := h.keep hb1
  have hc := rowcell hl1
  obtain ⟨ym, zm, vx, vy, vz, va, nx, wd, sj, q4, far, sn, q8, nr, fym, lym, fzm, lzm, fx, lx, rx, ry, rz, ra, rn, fn2, rw0, fwd, rj, fq4, rf, rsn, fq8, rnr, HYM, HZM, HVX, HVY, HVZ, HNX, HWD, HSJ, HFAR, HSN, HNR, HVA, HS16, HWR, HS8, HWN, HQ4, HQ8, HVX2⟩ := stepPre h x y z hx hy hz
  have HB1 := Lib.hid hb1
  have HL1 := Lib.hid hl1
  have HH := Lib.hid hh
  clear hb1 hl1 hh h
  go_enter Try.func29, Try.ntmps29
  go_upto_region 1 with fail
  obtain ⟨NI, hN⟩ : ∃ N, N = w.heap.size := ⟨_, rfl⟩
  rw [← hN] at hc ⊢
  have HN := Lib.hid hN
  generalize w.alloc (.cells #[.int .u8 33, .int .u8 x, .int .u8 y, .int .u8 z] 24) = w1 at *
  clear hN hc
  have hl1 := HL1.out
  rw [← HN.out] at hl1
  have hS0 : (fun w' : World => w'.heap[NI]? = some (.cells #[.int .u8 33, .int .u8 x, .int .u8 y, .int .u8 z] 24 (0, 0))) (World.drew w1) := hl1
  have HL1' := Lib.hid hl1
  clear hl1
  refine wp_region_held (S := fun w' : World => w'.heap[NI]? = some (.cells #[.int .u8 33, .int .u8 x, .int .u8 y, .int .u8 z] 24 (0, 0))) (by kernel_rfl) ?_
  change wpAnyH _ _ _ _ _ _ _ _ (World.drew _)
  refine takeH 1 (.pointer (some ⟨NI, 0, none⟩)) (some 28) rfl rfl (by kernel_rfl) (by kernel_rfl) (by kernel_rfl) (fun _ _ _ h => h) (.inl ⟨by kernel_rfl, fun w _ => by go_simp⟩) hS0 ?_
  refine takeH 2 (.int .u8 33) (some 29) rfl rfl (by kernel_rfl) (by kernel_rfl) (by kernel_rfl) (fun _ _ _ h => h) (.inl ⟨by kernel_rfl, fun w hw => by have hc := rowcell hw; go_simp⟩) hS0 ?_
  refine callH 0 rfl (by kernel_rfl) (by kernel_rfl) (some 27) rfl 22 #[] ?hrun ((refNames_any _).mono ?_)
  case hrun => go_simp
  rintro e w2 ⟨he, hw2⟩
  have hG : w2.heap[w1.heap.size]? = some (.cells nameVals 9) := by rw [← hw2]; exact heap_alloc_last w1.drew _
  have hb2 : Below w1.heap.size w1 w2 := by rw [← hw2]; exact bnext (drewb w1) (bnew w1.drew _)
  have hS2 := bkeep hb2 HL1'.out
  have C5 := rowcell hG
  have hsz : w1.drew.heap.size = w1.heap.size := rfl
  rw [hsz] at he
  obtain ⟨G, hGG⟩ : ∃ G, G = w1.heap.size := ⟨_, rfl⟩
  rw [← hGG] at he C5
  have HB2 := Lib.hid hb2
  clear hw2 hG hb2 hsz hS0 hGG
  refine ⟨_, he, hS2, ?_⟩
  have C6 : w2.cell? ⟨G, 33, none⟩ = some (.string ⟨#[99, 97, 108, 108]⟩) := by rw [C5]; rfl
  clear C5
  refine runH 3 (.pointer (some ⟨G, 33, none⟩)) (some 30) rfl (by kernel_rfl) (by kernel_rfl) rfl (by go_simp) hS2 ?_
  refine runH 4 (.string ⟨#[99, 97, 108, 108]⟩) (some 31) rfl (by kernel_rfl) (by kernel_rfl) rfl (by go_simp) hS2 ?_
  refine runH 5 (.string ⟨#[99, 97, 108, 108]⟩) (some 5) rfl (by kernel_rfl) (by kernel_rfl) rfl (by go_simp) hS2 ?_
  refine wpAnyH_done (by kernel_rfl) ?_ _
  go_simp
  have HL2 := Lib.hid hS2
  have HH2 := Lib.hid (HH.out.keep HB2.out)
  have HBB := Lib.hid (bnext HB1.out HB2.out)
  clear C6 hS2 HL1' he HH HL1 HB1
  have hc := rowcell HL2.out
  have c16 := HH2.out.at_
  rw [← HVA.out] at c16
  have cx := HH2.out.reg x hx
  rw [← HVX.out] at cx
  have cy := HH2.out.reg ym (by omega)
  rw [← HVY.out] at cy
  have cz := HH2.out.reg zm (by omega)
  rw [← HVZ.out] at cz
  go_wp2_with fail
  refine (HS16.out _).mono ?_; rintro e wx ⟨rfl, hwx⟩; subst hwx
  go_wp2_with fail
  refine (HWR.out _).mono ?_; rintro e wx ⟨rfl, hwx⟩; subst hwx
  go_upto_region 5 with fail
  go_quiet (fail)
  go_upto_region 6 with fail
  go_quiet (fail)
  go_upto_region 7 with fail
  go_quiet (fail)
  go_wp2_with fail
  refine (HS8.out _).mono ?_; rintro e w3 ⟨rfl, hw3⟩
  have hb3 : Below w2.heap.size w2 w3 := by rw [← hw3]; exact bdrewN (Below.refl _ _) _
  clear hw3 hc c16 cx cy cz
  have HL3 := Lib.hid (bkeep hb3 HL2.out)
  have HH3 := Lib.hid (HH2.out.keep hb3)
  have HB3 := Lib.hid (bnext HBB.out hb3)
  clear hb3 HL2 HH2 HBB
  go_wp2_with fail
  refine (HWN.out _).mono ?_; rintro e wx ⟨rfl, hwx⟩; subst hwx
  have hc := rowcell HL3.out
  have c15 := HH3.out.reg 15 (by omega)
  have fz15 : w3.frozen? ⟨gy, 15, none⟩ = false := HH3.out.rw.frozen _
  go_wp2_with fail
  have hls : (w3.setCell ⟨gy, 15, none⟩ (.int .u32 nx)).heap[NI]? = some (.cells #[.int .u8 33, .int .u8 x, .int .u8 y, .int .u8 z] 24 (0, 0)) := (one_setCell w3 gy 15 _).blk HL3.out (fun e => ne_ty HL3.out (rowIs_arr HH3.out.rw) (by decide) (by injection e with e; exact e.symm))
  have hhs : DW (w3.setCell ⟨gy, 15, none⟩ (.int .u32 nx)) gy gb N m A cap (setR s 15 nx) := HH3.out.setR 15 (by omega) nx rn.1 rn.2
  have hcs : Chg (dwS gy gb) w (w3.setCell ⟨gy, 15, none⟩ (.int .u32 nx)) := (Chg.of_below (dwS gy gb) HB3.out).trans (Chg.of_one (S := dwS gy gb) (one_setCell w3 gy 15 _) (.inl rfl)) (fun _ _ h => h)
  generalize w3.setCell ⟨gy, 15, none⟩ (.int .u32 nx) = w3s at *
  have HLS := Lib.hid hls
  have HHS := Lib.hid hhs
  have HCS := Lib.hid hcs
  clear hls hhs hcs c15 fz15
  have hov : 0 ≤ vx ∧ vx ≤ 4294967295 := rx
  have hnv : 0 ≤ far ∧ far ≤ 4294967295 := rf
  have HST := Lib.hid (show stepI m s 33 x y z = (setAt (setR s 15 nx) far, 0) by rw [HFAR.out, HNX.out]; rfl)
  have hfm : ∀ w, Calls Try.prog 9 #[.int .i64 33] w fun e w' => e = .returned (.int .i64 6) ∧ Below w.heap.size w w' := fun w => by have h := refForm_in 33 (by omega) (by omega) w; rw [show formOf (33 : Int).toNat = 6 from by decide] at h; exact h
  refine (hfm _).mono ?_; rintro e w4 ⟨rfl, hb4⟩
  have HL4 := Lib.hid (bkeep hb4 HLS.out)
  have HH4 := Lib.hid (HHS.out.keep hb4)
  have HC4 := Lib.hid (HCS.out.trans (Chg.of_below (dwS gy gb) hb4) (fun _ _ h => h))
  clear hb4 hc hfm
  have hc := rowcell HL4.out
  have c16 := HH4.out.at_
  go_upto_region 131 with fail
  obtain ⟨w5, hw5⟩ : ∃ w5, w5 = w4 := ⟨_, rfl⟩
  rw [← hw5] at HH4 HC4 ⊢
  have HD5 := HH4
  have HC5 := HC4
  clear hw5 hc c16 HH4 HC4 HL4
  have c16 := HD5.out.at_
  have fz16 : w5.frozen? ⟨gy, 16, none⟩ = false := HD5.out.rw.frozen _
  go_wp2_with fail
  go_ret
  refine ⟨?_, ?_, HC5.out.trans (Chg.of_one (S := dwS gy gb) (one_setCell _ gy 16 _) (.inl rfl)) (fun _ _ h => h)⟩
  · rw [HST.out]; rfl
  · rw [HST.out]; exact HD5.out.setAt _ hnv.1 hnv.2
set_option maxRecDepth 100000 in
set_option maxHeartbeats 16000000 in
theorem refStep_34 {w : World} {gy gb N m cap : Nat} {A : Option Addr} {s : Mach} (h : DW w gy gb N m A cap s) (x y z : Nat) (hx : x < 16) (hy : y ≤ 255) (hz : z ≤ 255) :
    Calls Try.prog 29 #[.pointer (some ⟨gy, 0, none⟩), .agg #[.int .u8 34, .int .u8 x, .int .u8 y, .int .u8 z]] w (RefP gy gb N m A cap s 34 x y z w) := by
  have hb1 := bnew w (.cells #[.int .u8 34, .int .u8 x, .int .u8 y, .int .u8 z] 24)
  have hl1 := heap_alloc_last w (.cells #[.int .u8 34, .int .u8 x, .int .u8 y, .int .u8 z] 24)
  have hh := h.keep hb1
  have hc := rowcell hl1
  obtain ⟨ym, zm, vx, vy, vz, va, nx, wd, sj, q4, far, sn, q8, nr, fym, lym, fzm, lzm, fx, lx, rx, ry, rz, ra, rn, fn2, rw0, fwd, rj, fq4, rf, rsn, fq8, rnr, HYM, HZM, HVX, HVY, HVZ, HNX, HWD, HSJ, HFAR, HSN, HNR, HVA, HS16, HWR, HS8, HWN, HQ4, HQ8, HVX2⟩ := stepPre h x y z hx hy hz
  have HB1 := Lib.hid hb1
  have HL1 := Lib.hid hl1
  have HH := Lib.hid hh
  clear hb1 hl1 hh h
  go_enter Try.func29, Try.ntmps29
  go_upto_region 1 with fail
  obtain ⟨NI, hN⟩ : ∃ N, N = w.heap.size := ⟨_, rfl⟩
  rw [← hN] at hc ⊢
  have HN := Lib.hid hN
  generalize w.alloc (.cells #[.int .u8 34, .int .u8 x, .int .u8 y, .int .u8 z] 24) = w1 at *
  clear hN hc
  have hl1 := HL1.out
  rw [← HN.out] at hl1
  have hS0 : (fun w' : World => w'.heap[NI]? = some (.cells #[.int .u8 34, .int .u8 x, .int .u8 y, .int .u8 z] 24 (0, 0))) (World.drew w1) := hl1
  have HL1' := Lib.hid hl1
  clear hl1
  refine wp_region_held (S := fun w' : World => w'.heap[NI]? = some (.cells #[.int .u8 34, .int .u8 x, .int .u8 y, .int .u8 z] 24 (0, 0))) (by kernel_rfl) ?_
  change wpAnyH _ _ _ _ _ _ _ _ (World.drew _)
  refine takeH 1 (.pointer (some ⟨NI, 0, none⟩)) (some 28) rfl rfl (by kernel_rfl) (by kernel_rfl) (by kernel_rfl) (fun _ _ _ h => h) (.inl ⟨by kernel_rfl, fun w _ => by go_simp⟩) hS0 ?_
  refine takeH 2 (.int .u8 34) (some 29) rfl rfl (by kernel_rfl) (by kernel_rfl) (by kernel_rfl) (fun _ _ _ h => h) (.inl ⟨by kernel_rfl, fun w hw => by have hc := rowcell hw; go_simp⟩) hS0 ?_
  refine callH 0 rfl (by kernel_rfl) (by kernel_rfl) (some 27) rfl 22 #[] ?hrun ((refNames_any _).mono ?_)
  case hrun => go_simp
  rintro e w2 ⟨he, hw2⟩
  have hG : w2.heap[w1.heap.size]? = some (.cells nameVals 9) := by rw [← hw2]; exact heap_alloc_last w1.drew _
  have hb2 : Below w1.heap.size w1 w2 := by rw [← hw2]; exact bnext (drewb w1) (bnew w1.drew _)
  have hS2 := bkeep hb2 HL1'.out
  have C5 := rowcell hG
  have hsz : w1.drew.heap.size = w1.heap.size := rfl
  rw [hsz] at he
  obtain ⟨G, hGG⟩ : ∃ G, G = w1.heap.size := ⟨_, rfl⟩
  rw [← hGG] at he C5
  have HB2 := Lib.hid hb2
  clear hw2 hG hb2 hsz hS0 hGG
  refine ⟨_, he, hS2, ?_⟩
  have C6 : w2.cell? ⟨G, 34, none⟩ = some (.string ⟨#[114, 101, 116]⟩) := by rw [C5]; rfl
  clear C5
  refine runH 3 (.pointer (some ⟨G, 34, none⟩)) (some 30) rfl (by kernel_rfl) (by kernel_rfl) rfl (by go_simp) hS2 ?_
  refine runH 4 (.string ⟨#[114, 101, 116]⟩) (some 31) rfl (by kernel_rfl) (by kernel_rfl) rfl (by go_simp) hS2 ?_
  refine runH 5 (.string ⟨#[114, 101, 116]⟩) (some 5) rfl (by kernel_rfl) (by kernel_rfl) rfl (by go_simp) hS2 ?_
  refine wpAnyH_done (by kernel_rfl) ?_ _
  go_simp
  have HL2 := Lib.hid hS2
  have HH2 := Lib.hid (HH.out.keep HB2.out)
  have HBB := Lib.hid (bnext HB1.out HB2.out)
  clear C6 hS2 HL1' he HH HL1 HB1
  have hc := rowcell HL2.out
  have c16 := HH2.out.at_
  rw [← HVA.out] at c16
  have cx := HH2.out.reg x hx
  rw [← HVX.out] at cx
  have cy := HH2.out.reg ym (by omega)
  rw [← HVY.out] at cy
  have cz := HH2.out.reg zm (by omega)
  rw [← HVZ.out] at cz
  go_wp2_with fail
  refine (HS16.out _).mono ?_; rintro e wx ⟨rfl, hwx⟩; subst hwx
  go_wp2_with fail
  refine (HWR.out _).mono ?_; rintro e wx ⟨rfl, hwx⟩; subst hwx
  go_upto_region 5 with fail
  go_quiet (fail)
  go_upto_region 6 with fail
  go_quiet (fail)
  go_upto_region 7 with fail
  go_quiet (fail)
  go_wp2_with fail
  refine (HS8.out _).mono ?_; rintro e w3 ⟨rfl, hw3⟩
  have hb3 : Below w2.heap.size w2 w3 := by rw [← hw3]; exact bdrewN (Below.refl _ _) _
  clear hw3 hc c16 cx cy cz
  have HL3 := Lib.hid (bkeep hb3 HL2.out)
  have HH3 := Lib.hid (HH2.out.keep hb3)
  have HB3 := Lib.hid (bnext HBB.out hb3)
  clear hb3 HL2 HH2 HBB
  go_wp2_with fail
  refine (HWN.out _).mono ?_; rintro e wx ⟨rfl, hwx⟩; subst hwx
  have hc := rowcell HL3.out
  have c15 := HH3.out.reg 15 (by omega)
  have r15 := HH3.out.wf.r0 15 (by omega)
  obtain ⟨v15, h15⟩ : ∃ k, k = s.R 15 := ⟨_, rfl⟩
  rw [← h15] at c15 r15
  have H15 := Lib.hid h15
  clear h15
  go_wp2_with fail
  have hov : 0 ≤ vx ∧ vx ≤ 4294967295 := rx
  have hnv : 0 ≤ v15 ∧ v15 ≤ 4294967295 := r15
  have HST := Lib.hid (show stepI m s 34 x y z = (setAt s v15, 0) by rw [H15.out]; rfl)
  have hfm : ∀ w, Calls Try.prog 9 #[.int .i64 34] w fun e w' => e = .returned (.int .i64 0) ∧ Below w.heap.size w w' := fun w => by have h := refForm_in 34 (by omega) (by omega) w; rw [show formOf (34 : Int).toNat = 0 from by decide] at h; exact h
  refine (hfm _).mono ?_; rintro e w4 ⟨rfl, hb4⟩
  have HL4 := Lib.hid (bkeep hb4 HL3.out)
  have HH4 := Lib.hid (HH3.out.keep hb4)
  have HC4 := Lib.hid ((Chg.of_below (dwS gy gb) HB3.out).trans (Chg.of_below (dwS gy gb) hb4) (fun _ _ h => h))
  clear hb4 hc hfm
  have hc := rowcell HL4.out
  have c16 := HH4.out.at_
  go_upto_region 131 with fail
  obtain ⟨w5, hw5⟩ : ∃ w5, w5 = w4 := ⟨_, rfl⟩
  rw [← hw5] at HH4 HC4 ⊢
  have HD5 := HH4
  have HC5 := HC4
  clear hw5 hc c16 HH4 HC4 HL4
  have c16 := HD5.out.at_
  have fz16 : w5.frozen? ⟨gy, 16, none⟩ = false := HD5.out.rw.frozen _
  go_wp2_with fail
  go_ret
  refine ⟨?_, ?_, HC5.out.trans (Chg.of_one (S := dwS gy gb) (one_setCell _ gy 16 _) (.inl rfl)) (fun _ _ h => h)⟩
  · rw [HST.out]; rfl
  · rw [HST.out]; exact HD5.out.setAt _ hnv.1 hnv.2
set_option maxRecDepth 100000 in
set_option maxHeartbeats 16000000 in
theorem refStep_35 {w : World} {gy gb N m cap : Nat} {A : Option Addr} {s : Mach} (h : DW w gy gb N m A cap s) (x y z : Nat) (hx : x < 16) (hy : y ≤ 255) (hz : z ≤ 255) :
    Calls Try.prog 29 #[.pointer (some ⟨gy, 0, none⟩), .agg #[.int .u8 35, .int .u8 x, .int .u8 y, .int .u8 z]] w (RefP gy gb N m A cap s 35 x y z w) := by
  have hb1 := bnew w (.cells #[.int .u8 35, .int .u8 x, .int .u8 y, .int .u8 z] 24)
  have hl1 := heap_alloc_last w (.cells #[.int .u8 35, .int .u8 x, .int .u8 y, .int .u8 z] 24)
  have hh := h.keep hb1
  have hc := rowcell hl1
  obtain ⟨ym, zm, vx, vy, vz, va, nx, wd, sj, q4, far, sn, q8, nr, fym, lym, fzm, lzm, fx, lx, rx, ry, rz, ra, rn, fn2, rw0, fwd, rj, fq4, rf, rsn, fq8, rnr, HYM, HZM, HVX, HVY, HVZ, HNX, HWD, HSJ, HFAR, HSN, HNR, HVA, HS16, HWR, HS8, HWN, HQ4, HQ8, HVX2⟩ := stepPre h x y z hx hy hz
  have HB1 := Lib.hid hb1
  have HL1 := Lib.hid hl1
  have HH := Lib.hid hh
  clear hb1 hl1 hh h
  go_enter Try.func29, Try.ntmps29
  go_upto_region 1 with fail
  obtain ⟨NI, hN⟩ : ∃ N, N = w.heap.size := ⟨_, rfl⟩
  rw [← hN] at hc ⊢
  have HN := Lib.hid hN
  generalize w.alloc (.cells #[.int .u8 35, .int .u8 x, .int .u8 y, .int .u8 z] 24) = w1 at *
  clear hN hc
  have hl1 := HL1.out
  rw [← HN.out] at hl1
  have hS0 : (fun w' : World => w'.heap[NI]? = some (.cells #[.int .u8 35, .int .u8 x, .int .u8 y, .int .u8 z] 24 (0, 0))) (World.drew w1) := hl1
  have HL1' := Lib.hid hl1
  clear hl1
  refine wp_region_held (S := fun w' : World => w'.heap[NI]? = some (.cells #[.int .u8 35, .int .u8 x, .int .u8 y, .int .u8 z] 24 (0, 0))) (by kernel_rfl) ?_
  change wpAnyH _ _ _ _ _ _ _ _ (World.drew _)
  refine takeH 1 (.pointer (some ⟨NI, 0, none⟩)) (some 28) rfl rfl (by kernel_rfl) (by kernel_rfl) (by kernel_rfl) (fun _ _ _ h => h) (.inl ⟨by kernel_rfl, fun w _ => by go_simp⟩) hS0 ?_
  refine takeH 2 (.int .u8 35) (some 29) rfl rfl (by kernel_rfl) (by kernel_rfl) (by kernel_rfl) (fun _ _ _ h => h) (.inl ⟨by kernel_rfl, fun w hw => by have hc := rowcell hw; go_simp⟩) hS0 ?_
  refine callH 0 rfl (by kernel_rfl) (by kernel_rfl) (some 27) rfl 22 #[] ?hrun ((refNames_any _).mono ?_)
  case hrun => go_simp
  rintro e w2 ⟨he, hw2⟩
  have hG : w2.heap[w1.heap.size]? = some (.cells nameVals 9) := by rw [← hw2]; exact heap_alloc_last w1.drew _
  have hb2 : Below w1.heap.size w1 w2 := by rw [← hw2]; exact bnext (drewb w1) (bnew w1.drew _)
  have hS2 := bkeep hb2 HL1'.out
  have C5 := rowcell hG
  have hsz : w1.drew.heap.size = w1.heap.size := rfl
  rw [hsz] at he
  obtain ⟨G, hGG⟩ : ∃ G, G = w1.heap.size := ⟨_, rfl⟩
  rw [← hGG] at he C5
  have HB2 := Lib.hid hb2
  clear hw2 hG hb2 hsz hS0 hGG
  refine ⟨_, he, hS2, ?_⟩
  have C6 : w2.cell? ⟨G, 35, none⟩ = some (.string ⟨#[106, 114]⟩) := by rw [C5]; rfl
  clear C5
  refine runH 3 (.pointer (some ⟨G, 35, none⟩)) (some 30) rfl (by kernel_rfl) (by kernel_rfl) rfl (by go_simp) hS2 ?_
  refine runH 4 (.string ⟨#[106, 114]⟩) (some 31) rfl (by kernel_rfl) (by kernel_rfl) rfl (by go_simp) hS2 ?_
  refine runH 5 (.string ⟨#[106, 114]⟩) (some 5) rfl (by kernel_rfl) (by kernel_rfl) rfl (by go_simp) hS2 ?_
  refine wpAnyH_done (by kernel_rfl) ?_ _
  go_simp
  have HL2 := Lib.hid hS2
  have HH2 := Lib.hid (HH.out.keep HB2.out)
  have HBB := Lib.hid (bnext HB1.out HB2.out)
  clear C6 hS2 HL1' he HH HL1 HB1
  have hc := rowcell HL2.out
  have c16 := HH2.out.at_
  rw [← HVA.out] at c16
  have cx := HH2.out.reg x hx
  rw [← HVX.out] at cx
  have cy := HH2.out.reg ym (by omega)
  rw [← HVY.out] at cy
  have cz := HH2.out.reg zm (by omega)
  rw [← HVZ.out] at cz
  go_wp2_with fail
  refine (HS16.out _).mono ?_; rintro e wx ⟨rfl, hwx⟩; subst hwx
  go_wp2_with fail
  refine (HWR.out _).mono ?_; rintro e wx ⟨rfl, hwx⟩; subst hwx
  go_upto_region 5 with fail
  go_quiet (fail)
  go_upto_region 6 with fail
  go_quiet (fail)
  go_upto_region 7 with fail
  go_quiet (fail)
  go_wp2_with fail
  refine (HS8.out _).mono ?_; rintro e w3 ⟨rfl, hw3⟩
  have hb3 : Below w2.heap.size w2 w3 := by rw [← hw3]; exact bdrewN (Below.refl _ _) _
  clear hw3 hc c16 cx cy cz
  have HL3 := Lib.hid (bkeep hb3 HL2.out)
  have HH3 := Lib.hid (HH2.out.keep hb3)
  have HB3 := Lib.hid (bnext HBB.out hb3)
  clear hb3 HL2 HH2 HBB
  go_wp2_with fail
  refine (HWN.out _).mono ?_; rintro e wx ⟨rfl, hwx⟩; subst hwx
  have hc := rowcell HL3.out
  go_wp2_with fail
  have hov : 0 ≤ vx ∧ vx ≤ 4294967295 := rx
  have hnv : 0 ≤ vx ∧ vx ≤ 4294967295 := rx
  have HST := Lib.hid (show stepI m s 35 x y z = (setAt (setR s x vx) vx, 0) by rw [show setR s x vx = s from by rw [HVX.out]; exact setR_same s x, HVX2.out]; rfl)
  have hfm : ∀ w, Calls Try.prog 9 #[.int .i64 35] w fun e w' => e = .returned (.int .i64 1) ∧ Below w.heap.size w w' := fun w => by have h := refForm_in 35 (by omega) (by omega) w; rw [show formOf (35 : Int).toNat = 1 from by decide] at h; exact h
  refine (hfm _).mono ?_; rintro e w4 ⟨rfl, hb4⟩
  have HL4 := Lib.hid (bkeep hb4 HL3.out)
  have HH4 := Lib.hid (HH3.out.keep hb4)
  have HC4 := Lib.hid ((Chg.of_below (dwS gy gb) HB3.out).trans (Chg.of_below (dwS gy gb) hb4) (fun _ _ h => h))
  clear hb4 hc hfm
  have hc := rowcell HL4.out
  have c16 := HH4.out.at_
  have fx2 : (x : Int).tmod 16 = x := by rw [Int.tmod_eq_emod_of_nonneg (by omega)]; omega
  have lx0 : (0 : Int) ≤ x := by omega
  have cx := HH4.out.reg x hx
  have fzx : w4.frozen? ⟨gy, x, none⟩ = false := HH4.out.rw.frozen _
  go_upto_region 130 with fail
  refine wp_region_still_tail 8 (by kernel_rfl) (by kernel_rfl) ?_
  simp only [List.take_succ_cons, List.take_zero, List.drop_succ_cons, List.drop_zero]
  change wpStill _ _ (World.drew w4) _ _ _
  iterate 8 still_step
  refine wpStill_nil ?_
  change wpList _ _ _ _ _ (World.drew w4)
  go_upto_region 131 with fail
  have hD5 : DW (World.drew (w4.setCell ⟨gy, x, none⟩ (.int .u32 vx))) gy gb N m A cap (setR s x vx) := (HH4.out.setR x hx _ hov.1 hov.2).keep (drewb _)
  have hC5 : Chg (dwS gy gb) w (World.drew (w4.setCell ⟨gy, x, none⟩ (.int .u32 vx))) := (HC4.out.trans (Chg.of_one (S := dwS gy gb) (one_setCell _ gy x _) (.inl rfl)) (fun _ _ h => h)).trans (Chg.of_below (dwS gy gb) (drewb _)) (fun _ _ h => h)
  generalize World.drew (w4.setCell ⟨gy, x, none⟩ (.int .u32 vx)) = w5 at *
  have HD5 := Lib.hid hD5
  have HC5 := Lib.hid hC5
  clear hD5 hC5 cx fzx hc HH4 HC4 HL4 c16
  have c16 := HD5.out.at_
  have fz16 : w5.frozen? ⟨gy, 16, none⟩ = false := HD5.out.rw.frozen _
  go_wp2_with fail
  go_ret
  refine ⟨?_, ?_, HC5.out.trans (Chg.of_one (S := dwS gy gb) (one_setCell _ gy 16 _) (.inl rfl)) (fun _ _ h => h)⟩
  · rw [HST.out]; rfl
  · rw [HST.out]; exact HD5.out.setAt _ hnv.1 hnv.2
set_option maxRecDepth 100000 in
set_option maxHeartbeats 16000000 in
theorem refStep_38 {w : World} {gy gb N m cap : Nat} {A : Option Addr} {s : Mach} (h : DW w gy gb N m A cap s) (x y z : Nat) (hx : x < 16) (hy : y ≤ 255) (hz : z ≤ 255) :
    Calls Try.prog 29 #[.pointer (some ⟨gy, 0, none⟩), .agg #[.int .u8 38, .int .u8 x, .int .u8 y, .int .u8 z]] w (RefP gy gb N m A cap s 38 x y z w) := by
  have hb1 := bnew w (.cells #[.int .u8 38, .int .u8 x, .int .u8 y, .int .u8 z] 24)
  have hl1 := heap_alloc_last w (.cells #[.int .u8 38, .int .u8 x, .int .u8 y, .int .u8 z] 24)
  have hh := h.keep hb1
  have hc := rowcell hl1
  obtain ⟨ym, zm, vx, vy, vz, va, nx, wd, sj, q4, far, sn, q8, nr, fym, lym, fzm, lzm, fx, lx, rx, ry, rz, ra, rn, fn2, rw0, fwd, rj, fq4, rf, rsn, fq8, rnr, HYM, HZM, HVX, HVY, HVZ, HNX, HWD, HSJ, HFAR, HSN, HNR, HVA, HS16, HWR, HS8, HWN, HQ4, HQ8, HVX2⟩ := stepPre h x y z hx hy hz
  have HB1 := Lib.hid hb1
  have HL1 := Lib.hid hl1
  have HH := Lib.hid hh
  clear hb1 hl1 hh h
  obtain ⟨ny, hny⟩ : ∃ n : Nat, (n : Int) = vy := ⟨vy.toNat, Int.toNat_of_nonneg ry.1⟩
  have HNY := Lib.hid hny
  have bny : ny < 4294967296 := by omega
  clear hny
  go_enter Try.func29, Try.ntmps29
  go_upto_region 1 with fail
  obtain ⟨NI, hN⟩ : ∃ N, N = w.heap.size := ⟨_, rfl⟩
  rw [← hN] at hc ⊢
  have HN := Lib.hid hN
  generalize w.alloc (.cells #[.int .u8 38, .int .u8 x, .int .u8 y, .int .u8 z] 24) = w1 at *
  clear hN hc
  have hl1 := HL1.out
  rw [← HN.out] at hl1
  have hS0 : (fun w' : World => w'.heap[NI]? = some (.cells #[.int .u8 38, .int .u8 x, .int .u8 y, .int .u8 z] 24 (0, 0))) (World.drew w1) := hl1
  have HL1' := Lib.hid hl1
  clear hl1
  refine wp_region_held (S := fun w' : World => w'.heap[NI]? = some (.cells #[.int .u8 38, .int .u8 x, .int .u8 y, .int .u8 z] 24 (0, 0))) (by kernel_rfl) ?_
  change wpAnyH _ _ _ _ _ _ _ _ (World.drew _)
  refine takeH 1 (.pointer (some ⟨NI, 0, none⟩)) (some 28) rfl rfl (by kernel_rfl) (by kernel_rfl) (by kernel_rfl) (fun _ _ _ h => h) (.inl ⟨by kernel_rfl, fun w _ => by go_simp⟩) hS0 ?_
  refine takeH 2 (.int .u8 38) (some 29) rfl rfl (by kernel_rfl) (by kernel_rfl) (by kernel_rfl) (fun _ _ _ h => h) (.inl ⟨by kernel_rfl, fun w hw => by have hc := rowcell hw; go_simp⟩) hS0 ?_
  refine callH 0 rfl (by kernel_rfl) (by kernel_rfl) (some 27) rfl 22 #[] ?hrun ((refNames_any _).mono ?_)
  case hrun => go_simp
  rintro e w2 ⟨he, hw2⟩
  have hG : w2.heap[w1.heap.size]? = some (.cells nameVals 9) := by rw [← hw2]; exact heap_alloc_last w1.drew _
  have hb2 : Below w1.heap.size w1 w2 := by rw [← hw2]; exact bnext (drewb w1) (bnew w1.drew _)
  have hS2 := bkeep hb2 HL1'.out
  have C5 := rowcell hG
  have hsz : w1.drew.heap.size = w1.heap.size := rfl
  rw [hsz] at he
  obtain ⟨G, hGG⟩ : ∃ G, G = w1.heap.size := ⟨_, rfl⟩
  rw [← hGG] at he C5
  have HB2 := Lib.hid hb2
  clear hw2 hG hb2 hsz hS0 hGG
  refine ⟨_, he, hS2, ?_⟩
  have C6 : w2.cell? ⟨G, 38, none⟩ = some (.string ⟨#[112, 111, 112]⟩) := by rw [C5]; rfl
  clear C5
  refine runH 3 (.pointer (some ⟨G, 38, none⟩)) (some 30) rfl (by kernel_rfl) (by kernel_rfl) rfl (by go_simp) hS2 ?_
  refine runH 4 (.string ⟨#[112, 111, 112]⟩) (some 31) rfl (by kernel_rfl) (by kernel_rfl) rfl (by go_simp) hS2 ?_
  refine runH 5 (.string ⟨#[112, 111, 112]⟩) (some 5) rfl (by kernel_rfl) (by kernel_rfl) rfl (by go_simp) hS2 ?_
  refine wpAnyH_done (by kernel_rfl) ?_ _
  go_simp
  have HL2 := Lib.hid hS2
  have HH2 := Lib.hid (HH.out.keep HB2.out)
  have HBB := Lib.hid (bnext HB1.out HB2.out)
  clear C6 hS2 HL1' he HH HL1 HB1
  have hc := rowcell HL2.out
  have c16 := HH2.out.at_
  rw [← HVA.out] at c16
  have cx := HH2.out.reg x hx
  rw [← HVX.out] at cx
  have cy := HH2.out.reg ym (by omega)
  rw [← HVY.out] at cy
  have cz := HH2.out.reg zm (by omega)
  rw [← HVZ.out] at cz
  go_wp2_with fail
  refine (HS16.out _).mono ?_; rintro e wx ⟨rfl, hwx⟩; subst hwx
  go_wp2_with fail
  refine (HWR.out _).mono ?_; rintro e wx ⟨rfl, hwx⟩; subst hwx
  go_upto_region 5 with fail
  go_quiet (fail)
  go_upto_region 6 with fail
  go_quiet (fail)
  go_upto_region 7 with fail
  go_quiet (fail)
  go_wp2_with fail
  refine (HS8.out _).mono ?_; rintro e w3 ⟨rfl, hw3⟩
  have hb3 : Below w2.heap.size w2 w3 := by rw [← hw3]; exact bdrewN (Below.refl _ _) _
  clear hw3 hc c16 cx cy cz
  have HL3 := Lib.hid (bkeep hb3 HL2.out)
  have HH3 := Lib.hid (HH2.out.keep hb3)
  have HB3 := Lib.hid (bnext HBB.out hb3)
  clear hb3 HL2 HH2 HBB
  go_wp2_with fail
  refine (HWN.out _).mono ?_; rintro e wx ⟨rfl, hwx⟩; subst hwx
  have hc := rowcell HL3.out
  go_wp2_with fail
  go_loopw [13, 19] (fun s13 sk wr => ∃ k : Nat, k ≤ 32 ∧ sk = .int .i64 k ∧ s13 = .int .u32 (bs ny k : Nat) ∧ wr = w3) (fun _ sk _ => 32 - (intOf sk).toNat)
  case atStart => exact ⟨0, by omega, rfl, rfl, rfl⟩
  case round =>
    obtain ⟨k, hk, rfl, rfl, rfl⟩ := hrel
    have hb32 := bs_le ny k
    by_cases c : k < 32
    · have c1 : (k : Int) < 32 := by omega
      obtain ⟨b, hb⟩ : ∃ b, b = ny / 2 ^ k % 2 := ⟨_, rfl⟩
      have hb2 : b < 2 := by omega
      obtain ⟨t, ht⟩ : ∃ t, t = ny / 2 ^ k := ⟨_, rfl⟩
      have f1 : vy / 2 ^ k = t := by rw [ht, ← HNY.out]; simp
      have f2 : (t : Int) % 2 = b := by rw [hb, ← ht]; simp
      obtain ⟨q, hq⟩ : ∃ q, q = bs ny k := ⟨_, rfl⟩
      have hq2 : bs ny (k + 1) = q + b := by rw [hq, hb]; rfl
      rw [← hq] at hb32 ⊢
      have HQ2 := Lib.hid hq2
      have HT := Lib.hid ht
      clear hb ht hq hq2
      go_wp2_with fail
      go_roundw
      case rel => exact ⟨k + 1, by omega, by go_num, by rw [HQ2.out]; go_num, by trivial⟩
      case measure => (simp [intOf]; try omega)
    · obtain rfl : k = 32 := by omega
      go_wp2_with fail
      have hov : 0 ≤ ((bs ny 32 : Nat) : Int) ∧ ((bs ny 32 : Nat) : Int) ≤ 4294967295 := by omega
      have hnv := rn
      have HST := Lib.hid (show stepI m s 38 x y z = (setAt (setR s x ((bs ny 32 : Nat) : Int)) nx, 0) by rw [← popI_bs ny bny, HNY.out, HVY.out, HYM.out, HNX.out]; rfl)
      have hfm : ∀ w, Calls Try.prog 9 #[.int .i64 38] w fun e w' => e = .returned (.int .i64 2) ∧ Below w.heap.size w w' := fun w => by have h := refForm_in 38 (by omega) (by omega) w; rw [show formOf (38 : Int).toNat = 2 from by decide] at h; exact h
      refine (hfm _).mono ?_; rintro e w4 ⟨rfl, hb4⟩
      have HL4 := Lib.hid (bkeep hb4 HL3.out)
      have HH4 := Lib.hid (HH3.out.keep hb4)
      have HC4 := Lib.hid ((Chg.of_below (dwS gy gb) HB3.out).trans (Chg.of_below (dwS gy gb) hb4) (fun _ _ h => h))
      clear hb4 hc hfm
      have hc := rowcell HL4.out
      have c16 := HH4.out.at_
      have fx2 : (x : Int).tmod 16 = x := by rw [Int.tmod_eq_emod_of_nonneg (by omega)]; omega
      have lx0 : (0 : Int) ≤ x := by omega
      have cx := HH4.out.reg x hx
      have fzx : w4.frozen? ⟨gy, x, none⟩ = false := HH4.out.rw.frozen _
      go_upto_region 130 with fail
      refine wp_region_still_tail 8 (by kernel_rfl) (by kernel_rfl) ?_
      simp only [List.take_succ_cons, List.take_zero, List.drop_succ_cons, List.drop_zero]
      change wpStill _ _ (World.drew w4) _ _ _
      iterate 8 still_step
      refine wpStill_nil ?_
      change wpList _ _ _ _ _ (World.drew w4)
      go_upto_region 131 with fail
      have hD5 : DW (World.drew (w4.setCell ⟨gy, x, none⟩ (.int .u32 ((bs ny 32 : Nat) : Int)))) gy gb N m A cap (setR s x ((bs ny 32 : Nat) : Int)) := (HH4.out.setR x hx _ hov.1 hov.2).keep (drewb _)
      have hC5 : Chg (dwS gy gb) w (World.drew (w4.setCell ⟨gy, x, none⟩ (.int .u32 ((bs ny 32 : Nat) : Int)))) := (HC4.out.trans (Chg.of_one (S := dwS gy gb) (one_setCell _ gy x _) (.inl rfl)) (fun _ _ h => h)).trans (Chg.of_below (dwS gy gb) (drewb _)) (fun _ _ h => h)
      generalize World.drew (w4.setCell ⟨gy, x, none⟩ (.int .u32 ((bs ny 32 : Nat) : Int))) = w5 at *
      have HD5 := Lib.hid hD5
      have HC5 := Lib.hid hC5
      clear hD5 hC5 cx fzx hc HH4 HC4 HL4 c16
      have c16 := HD5.out.at_
      have fz16 : w5.frozen? ⟨gy, 16, none⟩ = false := HD5.out.rw.frozen _
      go_wp2_with fail
      go_ret
      refine ⟨?_, ?_, HC5.out.trans (Chg.of_one (S := dwS gy gb) (one_setCell _ gy 16 _) (.inl rfl)) (fun _ _ h => h)⟩
      · rw [HST.out]; rfl
      · rw [HST.out]; exact HD5.out.setAt _ hnv.1 hnv.2
end Go.Proofs.Ytapcbfeifeobhaa
