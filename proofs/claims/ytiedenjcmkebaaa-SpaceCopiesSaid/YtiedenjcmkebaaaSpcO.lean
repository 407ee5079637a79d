/- Memory of a process: Copy, where there is room. -/
import Derived.Test.YtiedenjcmkebaaaSpcN
set_option linter.unusedVariables false
set_option linter.unusedSimpArgs false
namespace Go.Proofs.Ytiedenjcmkebaaa
open Go.RowKit

section
variable {w w' w0 : World} {base gs g gm lab l : Nat} {ps : List (Nat × Nat)} {v : Value} {a : Option Addr} {us : Nat → Nat} {F : Nat × Nat → Option (Nat → Nat)} {rs : List RegL}
theorem pages_at (hs : SpV w base gs g lab ps v) {i : Nat} (hi : i < ps.length) : ∃ q off c, v = .slice (some ⟨q, off, none⟩) ps.length c ∧ w.cell? ⟨q, off + i * 2, none⟩ = some (.int .u8 (ps.getD i (0, 0)).1) ∧ w.cell? ⟨q, off + i * 2 + 1, none⟩ = some (.int .u16 (ps.getD i (0, 0)).2) := by
  obtain ⟨q, off, c, h1, _, _, _, h2⟩ := page_cells (SR.of_own hs.ov) (by omega)
  have := h2 i hi
  refine ⟨q, off, c, h1, ?_, ?_⟩
  · rw [List.getD_eq_getElem?_getD, List.getElem?_eq_getElem hi]; exact this.1
  · rw [List.getD_eq_getElem?_getD, List.getElem?_eq_getElem hi]; exact this.2
set_option maxRecDepth 100000 in
set_option maxHeartbeats 8000000 in
theorem spaceCopy_in (hp : ConfP w0 a rs) (hb : Below w0.heap.size w0 w) (ht : FP w g gm a us F) (hs : SpV w base gs g lab ps v) (ok : SpOk F ps) (hc : Cont us F) (g0 : w0.heap.size ≤ g) (g1 : w0.heap.size ≤ gm)
    (hl : l < rs.length) (h64 : rs.length ≤ 64) (hfr : rs[l].fr < 65536) (hroom : us l + ps.length ≤ rs[l].fr) (hl255 : l ≤ 255) :
    Calls Try.prog 35 #[.pointer (some ⟨gs, 0, none⟩), .int .i64 l] w fun e w' => ∃ gd vd Fd, e = .returned (.tuple #[.pointer (some ⟨gd, 0, none⟩), .int .i64 0]) ∧ w.heap.size ≤ gd ∧ FP w' g gm a (setN us l (us l + ps.length)) Fd ∧
      CopyI F Fd ps l (us l) ps.length ps.length ∧ SpV w' w.heap.size gd g l (morePs l (us l) ps.length) vd ∧ Chg (fun k => k = g ∨ k = gm) w w' := by
  obtain ⟨A, c, hv⟩ := own_form hs.ov
  have h16 : ∀ w', Chg (fun k => k = g ∨ k = gm) w w' → w'.cell? ⟨gs, 0, none⟩ = some (.pointer (some ⟨g, 0, none⟩)) ∧ w'.cell? ⟨gs, 2, none⟩ = some (.slice A ps.length c) := fun w' h => by
    have h2 := hs.chg2 ht h
    rw [hv] at h2
    exact ⟨h2.c0, h2.c2⟩
  have h32 := ok.len
  obtain ⟨n, hn⟩ : ∃ n, n = ps.length := ⟨_, rfl⟩
  rw [← hn] at h16 h32 hroom
  have HN := Lib.hid hn
  have H16 := Lib.hid h16
  have CN := Lib.hid (spaceNew_up hp (hb.trans ((drewb w).mono hb.size)) (ht.keep (drewb w)) hc g0 g1 hl h64 n (by omega) hfr hroom)
  have HC := Lib.hid hc
  have HS := Lib.hid hs
  have HT := Lib.hid ht
  have HO := Lib.hid ok
  have HU := Lib.hid (show us l + n < 65536 by omega)
  have HV := Lib.hid (show v = .slice A n c by rw [hn]; exact hv)
  rw [← hn]
  clear hp hb ht hs ok hc g0 g1 h64 hfr hroom hn hv h16
  go_enter Try.func35, Try.ntmps35
  go_upto_region 3 with fail
  refine wp_region_held (S := Chg (fun k => k = g ∨ k = gm) w) (by kernel_rfl) ?_
  change wpAnyH _ _ _ _ _ _ _ _ (World.drew _)
  have hS : Chg (fun k => k = g ∨ k = gm) w (World.drew w) := Chg.of_below _ (drewb w)
  refine takeH 0 (.pointer (some ⟨gs, 0, none⟩)) (some 13) rfl rfl (by kernel_rfl) (by kernel_rfl) (by kernel_rfl) (fun _ _ _ h => h) (.inl ⟨by kernel_rfl, fun w _ => by go_simp⟩) hS ?_
  refine takeH 1 (.pointer (some ⟨gs, 0, none⟩)) (some 14) rfl rfl (by kernel_rfl) (by kernel_rfl) (by kernel_rfl) (fun _ _ _ h => h) (.inl ⟨by kernel_rfl, fun w _ => by go_simp⟩) hS ?_
  refine takeH 2 (.pointer (some ⟨gs, 0, none⟩)) (some 15) rfl rfl (by kernel_rfl) (by kernel_rfl) (by kernel_rfl) (fun _ _ _ h => h) (.inl ⟨by kernel_rfl, fun w _ => by go_simp⟩) hS ?_
  refine takeH 3 (.pointer (some ⟨g, 0, none⟩)) (some 16) rfl rfl (by kernel_rfl) (by kernel_rfl) (by kernel_rfl) (fun _ _ _ h => h) (.inl ⟨by kernel_rfl, fun w hw => by have hc := (fun w hw => (H16.out w hw).1) w hw; go_simp⟩) hS ?_
  refine takeH 4 (.int .i64 l) (some 17) rfl rfl (by kernel_rfl) (by kernel_rfl) (by kernel_rfl) (fun _ _ _ h => h) (.inl ⟨by kernel_rfl, fun w _ => by go_simp⟩) hS ?_
  refine takeH 5 (.pointer (some ⟨gs, 0, none⟩)) (some 18) rfl rfl (by kernel_rfl) (by kernel_rfl) (by kernel_rfl) (fun _ _ _ h => h) (.inl ⟨by kernel_rfl, fun w _ => by go_simp⟩) hS ?_
  refine takeH 6 (.pointer (some ⟨gs, 0, none⟩)) (some 19) rfl rfl (by kernel_rfl) (by kernel_rfl) (by kernel_rfl) (fun _ _ _ h => h) (.inl ⟨by kernel_rfl, fun w _ => by go_simp⟩) hS ?_
  refine takeH 7 (.pointer (some ⟨gs, 2, none⟩)) (some 20) rfl rfl (by kernel_rfl) (by kernel_rfl) (by kernel_rfl) (fun _ _ _ h => h) (.inl ⟨by kernel_rfl, fun w _ => by go_simp⟩) hS ?_
  refine takeH 8 (.slice A n c) (some 21) rfl rfl (by kernel_rfl) (by kernel_rfl) (by kernel_rfl) (fun _ _ _ h => h) (.inl ⟨by kernel_rfl, fun w hw => by have hc := (fun w hw => (H16.out w hw).2) w hw; go_simp⟩) hS ?_
  refine takeH 9 (.int .i64 n) (some 22) rfl rfl (by kernel_rfl) (by kernel_rfl) (by kernel_rfl) (fun _ _ _ h => h) (.inl ⟨by kernel_rfl, fun w _ => by go_simp⟩) hS ?_
  refine callH 10 rfl (by kernel_rfl) (by kernel_rfl) (some 23) rfl 21 #[.pointer (some ⟨g, 0, none⟩), .int .i64 l, .int .i64 n] ?hrun (CN.out.mono ?_)
  case hrun => go_simp
  rintro e w5 ⟨gd, vd, he, hgd, hT5, hS5, hC5⟩
  have hS5' : Chg (fun k => k = g ∨ k = gm) w w5 := hS.trans hC5 (fun k _ h => h)
  refine ⟨_, he, hS5', ?_⟩
  clear he
  refine takeH 11 (.tuple #[.pointer (some ⟨gd, 0, none⟩), .int .i64 0]) (some 12) rfl rfl (by kernel_rfl) (by kernel_rfl) (by kernel_rfl) (fun _ _ _ h => h) (.inl ⟨by kernel_rfl, fun w _ => by go_simp⟩) hS5' ?_
  refine takeH 12 (.pointer (some ⟨gd, 0, none⟩)) (some 24) rfl rfl (by kernel_rfl) (by kernel_rfl) (by kernel_rfl) (fun _ _ _ h => h) (.inl ⟨by kernel_rfl, fun w _ => by go_simp⟩) hS5' ?_
  refine takeH 13 (.int .i64 0) (some 25) rfl rfl (by kernel_rfl) (by kernel_rfl) (by kernel_rfl) (fun _ _ _ h => h) (.inl ⟨by kernel_rfl, fun w _ => by go_simp⟩) hS5' ?_
  refine takeH 14 (.pointer (some ⟨gd, 0, none⟩)) (some 6) rfl rfl (by kernel_rfl) (by kernel_rfl) (by kernel_rfl) (fun _ _ _ h => h) (.inl ⟨by kernel_rfl, fun w _ => by go_simp⟩) hS5' ?_
  refine takeH 15 (.int .i64 0) (some 7) rfl rfl (by kernel_rfl) (by kernel_rfl) (by kernel_rfl) (fun _ _ _ h => h) (.inl ⟨by kernel_rfl, fun w _ => by go_simp⟩) hS5' ?_
  refine wpAnyH_done (by kernel_rfl) ?_ _
  go_simp
  have HT5 := Lib.hid hT5
  have HD5 := Lib.hid (show SpV w5 w.heap.size gd g l (morePs l (us l) n) vd from ⟨hS5.row, own_lower hS5.ov (drewb w).size, Nat.le_trans (drewb w).size hS5.bs⟩)
  have HC5 := Lib.hid hS5'
  have HGD := Lib.hid (show w.heap.size ≤ gd from Nat.le_trans (drewb w).size hgd)
  have HS5 := Lib.hid (HS.out.chg2 HT.out hS5')
  have c2 := (H16.out w5 hS5').2
  clear hS hT5 hS5 hC5 hS5' hgd
  go_wp2_with fail
  clear c2
  go_loopw [34] (fun r wx => ∃ (j : Nat) (Fr : Nat × Nat → Option (Nat → Nat)), j ≤ n ∧ r = .int .i64 j ∧ FP wx g gm a (setN us l (us l + n)) Fr ∧ CopyI F Fr ps l (us l) n j ∧ Chg (fun k => k = g ∨ k = gm) w5 wx) (fun r _ => n - (intOf r).toNat)
  case atStart => exact ⟨0, _, by omega, rfl, HT5.out, CopyI.start F ps l (us l) n, Chg.refl _ _⟩
  case round =>
    obtain ⟨j, Fr, hj, rfl, htr, hci, hch⟩ := hrel
    have HTR := Lib.hid htr
    have HCI := Lib.hid hci
    have HCH := Lib.hid hch
    have HSR := Lib.hid (HS5.out.chg2 HT5.out hch)
    have HDR := Lib.hid (HD5.out.chg2 HT5.out hch)
    clear htr hci hch
    by_cases hjn : j < n
    · have f1 : (j : Int) < n := by omega
      have hjp : j < ps.length := by rw [← HN.out]; exact hjn
      obtain ⟨q1, o1, c1, hv1, e1, e2⟩ := pages_at HSR.out hjp
      obtain ⟨q2, o2, c2', hv2, e3, e4⟩ := pages_at HDR.out (i := j) (by rw [morePs_len]; exact hjn)
      rw [HV.out] at hv1
      have hcc : A = some ⟨q1, o1, none⟩ ∧ c = c1 := by
        simp only [Value.slice.injEq] at hv1
        exact ⟨hv1.1, hv1.2.2⟩
      obtain ⟨rfl, rfl⟩ := hcc
      have d2 := HDR.out.c2
      rw [hv2, morePs_len] at d2
      have c0 := HSR.out.c0
      obtain ⟨p, hp⟩ : ∃ p, p = ps.getD j (0, 0) := ⟨_, rfl⟩
      rw [← hp] at e1 e2
      have hmem : p ∈ ps := by rw [hp]; exact HO.out.at hjp
      obtain ⟨f, hf⟩ := Option.isSome_iff_exists.1 (HO.out.is p hmem)
      obtain ⟨y, hy⟩ : ∃ y, y = us l + j := ⟨_, rfl⟩
      have hyy : (morePs l (us l) n).getD j (0, 0) = (l, y) := by
        rw [hy, List.getD_eq_getElem?_getD]
        simp [morePs, hjn]
      rw [hyy] at e3 e4
      have hyb : y ≤ 65535 := by rw [hy]; have := HU.out; omega
      have hpno : p ∉ morePs l (us l) n := fun hm => by
        obtain ⟨i, h1, h2⟩ := mem_morePs.1 hm
        have h3 := (HC.out l (us l + i)).2 (by omega)
        rw [h2, h3] at hf
        cases hf
      have hfp := HCI.out.old p hpno
      rw [hf] at hfp
      have hfd : (Fr (l, y)).isSome = true := by
        rw [hy, HCI.out.new j hjn, if_neg (Nat.lt_irrefl j)]; rfl
      have hpp := HO.out.p1 p hmem
      have hbn := bnew wr (.cells #[.int .u8 p.1, .int .u16 p.2] 157)
      have hlast := heap_alloc_last wr (.cells #[.int .u8 p.1, .int .u16 p.2] 157)
      have hst := HCI.out.step hjn (by rw [← hp]; exact hf)
      rw [← hy] at hst
      have HST := Lib.hid hst
      have hcp := frameCopy_in (HTR.out.keep (bnext hbn (drewb _))) (l, y) p hl255 hyb hpp.1 hpp.2
      rw [hfd, hfp] at hcp
      simp only [Option.isSome_some, Bool.and_self, if_true, Option.getD_some] at hcp
      have HCP := Lib.hid hcp
      clear hst hcp hv1 hv2 hp hy hyy hyb hpno hfp hfd hpp hmem hf
      have c0' := (hbn.cell (block_lt_of_cell c0)).trans c0
      have d2' := (hbn.cell (block_lt_of_cell d2)).trans d2
      have e3' := (hbn.cell (block_lt_of_cell e3)).trans e3
      have e4' := (hbn.cell (block_lt_of_cell e4)).trans e4
      have HBN := Lib.hid hbn
      go_upto_region 9 with fail
      clear c0 d2 e1 e2 e3 e4
      obtain ⟨M, hM⟩ : ∃ M, M = wr.heap.size := ⟨_, rfl⟩
      rw [← hM] at hlast
      try rw [← hM]
      have hcq := rowcell hlast
      clear hM hbn
      generalize wr.alloc (.cells #[.int .u8 p.1, .int .u16 p.2] 157) = wq at *
      refine wp_region_still_tail 12 (by kernel_rfl) (by kernel_rfl) ?_
      simp only [List.take_succ_cons, List.take_zero, List.drop_succ_cons, List.drop_zero]
      change wpStill _ _ (World.drew wq) _ _ _
      iterate 12 still_step
      refine wpStill_nil ?_
      change wpList _ _ _ _ _ (World.drew wq)
      go_wp2_with fail
      unfold markV at HCP
      refine HCP.out.mono ?_
      rintro e w9 ⟨rfl, hT9, hD9⟩
      have HT9 := Lib.hid hT9
      have HC9 := Lib.hid ((HCH.out.trans (Chg.of_below (fun k => k = g ∨ k = gm) (bnext HBN.out (drewb wq))) (fun k _ h => h)).trans (Chg.of_duo (S := fun k => k = g ∨ k = gm) hD9 (.inl rfl) (.inr rfl)) (fun k _ h => h))
      clear hT9 hD9 c0' d2' e3' e4' hcq
      go_wp2_with fail
      go_roundw
      case rel => exact ⟨j + 1, _, by omega, by go_num, HT9.out, HST.out, HC9.out⟩
      case measure => simp [intOf]; omega
    · obtain rfl : j = n := by omega
      have f1 : ¬ ((j : Int) < j) := by omega
      go_wp2_with fail
      go_ret2
      exact ⟨gd, rfl, HGD.out, vd, Fr, HTR.out, HCI.out, HDR.out, HC5.out.trans HCH.out (fun k _ h => h)⟩

end
end Go.Proofs.Ytiedenjcmkebaaa
