/- The law FdsNone: its walk. -/
import Derived.Test.YtfnkbgcgajgppaaFdsE
set_option linter.unusedVariables false
set_option linter.unusedSimpArgs false
namespace Go.Proofs.Ytfnkbgcgajgppaa
open Go.RowKit
open Go.Maps (Keyed)


set_option maxRecDepth 100000 in
set_option maxHeartbeats 8000000 in
theorem fdsNone_far (W : World) (v : Value) (s : SizeL) (S0 : SizeV W v s) (p : Nat × Nat) (p1 : p.1 ≤ 255) (p2 : p.2 ≤ 65535) (i : Int) (j : Int) (h0 : ¬ i < 0) (h1 : ¬ (i < ((sizeRegs s).length : Int))) :
    Calls Try.prog 13 #[v, .int .i64 i, .int .i64 j, .agg #[.int .u8 p.1, .int .u16 p.2]] W fun e w' => e = .returned (.bool true) ∧ Below W.heap.size W w' := by
  have HSV := Lib.hid S0
  obtain ⟨X, tv, rfl, hX, hrest⟩ := S0
  obtain ⟨n, hn⟩ : ∃ n, n = (sizeRegs s).length := ⟨_, rfl⟩
  have HN := Lib.hid hn
  have hn64 : n ≤ 64 := by rw [hn]; exact sizeLe64 s
  rw [← hn] at h1
  clear hrest hn
  have HX := Lib.hid (show (Try.prog.info? 26).map (·.size) = some X.size by rw [hX]; kernel_rfl)
  clear hX
  have hb0 := bnewAfter (bnew W (.cells X 26)) (.cells #[.int .u8 p.1, .int .u16 p.2] 69)
  have ha0 := bkeep (bnew _ (.cells #[.int .u8 p.1, .int .u16 p.2] 69)) (heap_alloc_last W (.cells X 26))
  have hf0 := heap_alloc_last (W.alloc (.cells X 26)) (.cells #[.int .u8 p.1, .int .u16 p.2] 69)
  rw [World.size_alloc] at hf0
  have HSX := Lib.hid (SizeV.keep HSV.out hb0)
  clear HSV
  go_enter Try.func13, Try.ntmps13
  go_wp2_with fail
  obtain ⟨G, hG⟩ : ∃ G, G = W.heap.size := ⟨_, rfl⟩
  obtain ⟨K, hK⟩ : ∃ K, K = W.heap.size + 1 := ⟨_, rfl⟩
  rw [← hG] at ha0
  rw [← hK] at hf0 ⊢
  rw [← hG]
  generalize (W.alloc (.cells X 26)).alloc (.cells #[.int .u8 p.1, .int .u16 p.2] 69) = w0 at *
  have HB0 := Lib.hid hb0
  have HA0 := Lib.hid ha0
  have HF0 := Lib.hid hf0
  clear hG hK hb0 ha0 hf0
  refine (fdsAwake_in _).mono ?_; rintro e w1 ⟨rfl, hb1⟩
  have HB1 := Lib.hid (bnext HB0.out hb1)
  have HA1 := Lib.hid (bkeep hb1 HA0.out)
  have HF1 := Lib.hid (bkeep hb1 HF0.out)
  have HS1 := Lib.hid (SizeV.keep HSX.out hb1)
  clear hb1
  go_wp2_with fail
  refine wp_region_held (S := fun w' => Below w1.heap.size w1 w') (by kernel_rfl) ?_
  change wpAnyH _ _ _ _ _ _ _ _ (World.drew _)
  have hS := drewb w1
  refine takeH 1 (.agg X) (some 30) rfl rfl (by kernel_rfl) (by kernel_rfl) (by kernel_rfl) (fun _ _ _ h => h) (yi_piece (by kernel_rfl) 26 _ rfl G 0 (by go_simp) X _ (fun w hw j v hv => by rw [Nat.zero_add, rowcell (bkeep hw HA1.out)]; simpa using hv) Try.underlying26 rfl HX.out) hS ?_
  refine callH 0 rfl (by kernel_rfl) (by kernel_rfl) (some 29) rfl 29 #[.pointer none] ?hrun0 ((fdsNew_nil _).mono ?_)
  case hrun0 => go_simp
  rintro e wa ⟨he, rfl⟩
  refine ⟨_, he, hS, ?_⟩
  refine callH 2 rfl (by kernel_rfl) (by kernel_rfl) (some 31) rfl 17 #[.agg X] ?hrun2 ((sizeConf_in _ _ s (SizeV.keep HS1.out hS)).mono ?_)
  case hrun2 => go_simp
  rintro e w2 ⟨hb2, cg, gT, gN, gL, v', m', u', he, hcf⟩
  have hS2 := bnext hS hb2
  have HP := Lib.hid (hcf.toP (sizeLe _) (sizeOk _))
  have HSX2 := Lib.hid (SizeV.keep HS1.out hS2)
  refine ⟨_, he, hS2, ?_⟩
  refine callH 3 rfl (by kernel_rfl) (by kernel_rfl) (some 32) rfl 29 #[.pointer (some ⟨cg, 0, none⟩)] ?hrun3 ((fdsNew_in _ _).mono ?_)
  case hrun3 => go_simp
  rintro e w3 ⟨g, gm, he, hg, hgm, hT, hb3⟩
  have hS3 := bnext hS2 hb3
  refine ⟨_, he, hS3, ?_⟩
  refine takeH 4 (.pointer none) (some 9) rfl rfl (by kernel_rfl) (by kernel_rfl) (by kernel_rfl) (fun _ _ _ h => h) (.inl ⟨by kernel_rfl, fun w _ => by go_simp⟩) hS3 ?_
  refine takeH 5 (.pointer (some ⟨g, 0, none⟩)) (some 10) rfl rfl (by kernel_rfl) (by kernel_rfl) (by kernel_rfl) (fun _ _ _ h => h) (.inl ⟨by kernel_rfl, fun w _ => by go_simp⟩) hS3 ?_
  refine wpAnyH_done (by kernel_rfl) ?_ _
  go_simp
  have HB2 := Lib.hid (bnext HB1.out hS2)
  have HT9 := Lib.hid hT
  have HGG := Lib.hid (And.intro hg hgm)
  have HB9 := Lib.hid hb3
  have HF9 := Lib.hid (bkeep hS3 HF1.out)
  have HA9 := Lib.hid (bkeep hS3 HA1.out)
  have HS9 := Lib.hid (SizeV.keep HS1.out hS3)
  have HLT := Lib.hid (show K < w2.heap.size ∧ G < w2.heap.size from ⟨rowlt (bkeep hS2 HF1.out), rowlt (bkeep hS2 HA1.out)⟩)
  clear hS hS2 hS3 hb2 hb3 hcf hT hg hgm
  try clear hrun0 hrun2 hrun3
  have c1 := rowcell HF9.out
  go_wp2_with fail
  clear c1

  refine (fdsSeek_nil _ p j).mono ?_; rintro e x0 ⟨rfl, hbx⟩
  have HFx0 := Lib.hid (bkeep hbx HF9.out)
  have HAx0 := Lib.hid (bkeep hbx HA9.out)
  have HBx0 := Lib.hid (bnext HB9.out hbx)
  have HSx0 := Lib.hid (SizeV.keep HS9.out hbx)
  have HTx0 := Lib.hid (HT9.out.keep hbx)
  clear hbx HF9 HA9 HB9 HS9 HT9
  have HF9 := Lib.hid HFx0.out
  clear HFx0
  have HA9 := Lib.hid HAx0.out
  clear HAx0
  have HB9 := Lib.hid HBx0.out
  clear HBx0
  have HS9 := Lib.hid HSx0.out
  clear HSx0
  have HT9 := Lib.hid HTx0.out
  clear HTx0
  have c1 := rowcell HF9.out
  go_wp2_with fail
  clear c1
  refine (fdsTake_nil _ i #[.int .u8 0, .int .u8 0, .int .u16 0, .int .u16 0, .bool false, .int .u8 0, .int .u16 0, .int .u16 0, .int .i64 0, .int .i64 0, .bool false, .bool false, .bool false, .string ⟨#[]⟩]).mono ?_; rintro e x1 ⟨rfl, hbx⟩
  unfold markV
  have hbx := bnewAfter hbx (.cells #[.int .u8 0, .int .u16 0] 69)
  have HFx1 := Lib.hid (bkeep hbx HF9.out)
  have HAx1 := Lib.hid (bkeep hbx HA9.out)
  have HBx1 := Lib.hid (bnext HB9.out hbx)
  have HSx1 := Lib.hid (SizeV.keep HS9.out hbx)
  have HTx1 := Lib.hid (HT9.out.keep hbx)
  clear hbx HF9 HA9 HB9 HS9 HT9
  have HF9 := Lib.hid HFx1.out
  clear HFx1
  have HA9 := Lib.hid HAx1.out
  clear HAx1
  have HB9 := Lib.hid HBx1.out
  clear HBx1
  have HS9 := Lib.hid HSx1.out
  clear HSx1
  have HT9 := Lib.hid HTx1.out
  clear HTx1
  have c1 := rowcell HF9.out
  go_wp2_with fail
  clear c1
  refine (fdsGet_nil _ p).mono ?_; rintro e x2 ⟨rfl, hbx⟩
  have hbx := bnewAfter hbx (.cells #[.int .u8 0, .int .u8 0, .int .u16 0, .int .u16 0, .bool false, .int .u8 0, .int .u16 0, .int .u16 0, .int .i64 0, .int .i64 0, .bool false, .bool false, .bool false, .string ⟨#[]⟩] 78)
  have HFx2 := Lib.hid (bkeep hbx HF9.out)
  have HAx2 := Lib.hid (bkeep hbx HA9.out)
  have HBx2 := Lib.hid (bnext HB9.out hbx)
  have HSx2 := Lib.hid (SizeV.keep HS9.out hbx)
  have HTx2 := Lib.hid (HT9.out.keep hbx)
  clear hbx HF9 HA9 HB9 HS9 HT9
  have HF9 := Lib.hid HFx2.out
  clear HFx2
  have HA9 := Lib.hid HAx2.out
  clear HAx2
  have HB9 := Lib.hid HBx2.out
  clear HBx2
  have HS9 := Lib.hid HSx2.out
  clear HSx2
  have HT9 := Lib.hid HTx2.out
  clear HTx2
  have c1 := rowcell HF9.out
  go_wp2_with fail
  clear c1
  refine (fdsDrop_nil _ p).mono ?_; rintro e x3 ⟨rfl, hbx⟩
  have hbx := bnewAfter hbx (.cells #[.int .u8 0, .int .u8 0, .int .u16 0, .int .u16 0, .bool false, .int .u8 0, .int .u16 0, .int .u16 0, .int .i64 0, .int .i64 0, .bool false, .bool false, .bool false, .string ⟨#[]⟩] 78)
  have HFx3 := Lib.hid (bkeep hbx HF9.out)
  have HAx3 := Lib.hid (bkeep hbx HA9.out)
  have HBx3 := Lib.hid (bnext HB9.out hbx)
  have HSx3 := Lib.hid (SizeV.keep HS9.out hbx)
  have HTx3 := Lib.hid (HT9.out.keep hbx)
  clear hbx HF9 HA9 HB9 HS9 HT9
  have HF9 := Lib.hid HFx3.out
  clear HFx3
  have HA9 := Lib.hid HAx3.out
  clear HAx3
  have HB9 := Lib.hid HBx3.out
  clear HBx3
  have HS9 := Lib.hid HSx3.out
  clear HSx3
  have HT9 := Lib.hid HTx3.out
  clear HTx3
  have c1 := rowcell HF9.out
  go_wp2_with fail
  clear c1
  refine (fdsTake_no HP.out HB9.out HT9.out i (by rw [← HN.out]; simp [inB]; omega) #[.int .u8 0, .int .u8 0, .int .u16 0, .int .u16 0, .bool false, .int .u8 0, .int .u16 0, .int .u16 0, .int .i64 0, .int .i64 0, .bool false, .bool false, .bool false, .string ⟨#[]⟩]).mono ?_; rintro e x4 ⟨rfl, hbx⟩
  unfold markV
  have hbx := bnewAfter hbx (.cells #[.int .u8 0, .int .u16 0] 69)
  have HFx4 := Lib.hid (bkeep hbx HF9.out)
  have HAx4 := Lib.hid (bkeep hbx HA9.out)
  have HBx4 := Lib.hid (bnext HB9.out hbx)
  have HSx4 := Lib.hid (SizeV.keep HS9.out hbx)
  have HTx4 := Lib.hid (HT9.out.keep hbx)
  clear hbx HF9 HA9 HB9 HS9 HT9
  have HF9 := Lib.hid HFx4.out
  clear HFx4
  have HA9 := Lib.hid HAx4.out
  clear HAx4
  have HB9 := Lib.hid HBx4.out
  clear HBx4
  have HS9 := Lib.hid HSx4.out
  clear HSx4
  have HT9 := Lib.hid HTx4.out
  clear HTx4
  have c1 := rowcell HF9.out
  go_wp2_with fail
  clear c1
  refine (setPut_nil _ p).mono ?_; rintro e x5 ⟨rfl, hbx⟩
  have HFx5 := Lib.hid (bkeep hbx HF9.out)
  have HAx5 := Lib.hid (bkeep hbx HA9.out)
  have HBx5 := Lib.hid (bnext HB9.out hbx)
  have HSx5 := Lib.hid (SizeV.keep HS9.out hbx)
  have HTx5 := Lib.hid (HT9.out.keep hbx)
  clear hbx HF9 HA9 HB9 HS9 HT9
  have HF9 := Lib.hid HFx5.out
  clear HFx5
  have HA9 := Lib.hid HAx5.out
  clear HAx5
  have HB9 := Lib.hid HBx5.out
  clear HBx5
  have HS9 := Lib.hid HSx5.out
  clear HSx5
  have HT9 := Lib.hid HTx5.out
  clear HTx5
  have c1 := rowcell HF9.out
  go_wp2_with fail
  clear c1
  refine (setGet_nil _ j).mono ?_; rintro e x6 ⟨rfl, hbx⟩
  have hbx := bnewAfter hbx (.cells #[.int .u8 0, .int .u16 0] 69)
  have HFx6 := Lib.hid (bkeep hbx HF9.out)
  have HAx6 := Lib.hid (bkeep hbx HA9.out)
  have HBx6 := Lib.hid (bnext HB9.out hbx)
  have HSx6 := Lib.hid (SizeV.keep HS9.out hbx)
  have HTx6 := Lib.hid (HT9.out.keep hbx)
  clear hbx HF9 HA9 HB9 HS9 HT9
  have HF9 := Lib.hid HFx6.out
  clear HFx6
  have HA9 := Lib.hid HAx6.out
  clear HAx6
  have HB9 := Lib.hid HBx6.out
  clear HBx6
  have HS9 := Lib.hid HSx6.out
  clear HSx6
  have HT9 := Lib.hid HTx6.out
  clear HTx6
  have c1 := rowcell HF9.out
  go_wp2_with fail
  clear c1
  refine (setCut_nil _ j).mono ?_; rintro e x7 ⟨rfl, hbx⟩
  have hbx := bnewAfter hbx (.cells #[.int .u8 0, .int .u16 0] 69)
  have HFx7 := Lib.hid (bkeep hbx HF9.out)
  have HAx7 := Lib.hid (bkeep hbx HA9.out)
  have HBx7 := Lib.hid (bnext HB9.out hbx)
  have HSx7 := Lib.hid (SizeV.keep HS9.out hbx)
  have HTx7 := Lib.hid (HT9.out.keep hbx)
  clear hbx HF9 HA9 HB9 HS9 HT9
  have HF9 := Lib.hid HFx7.out
  clear HFx7
  have HA9 := Lib.hid HAx7.out
  clear HAx7
  have HB9 := Lib.hid HBx7.out
  clear HBx7
  have HS9 := Lib.hid HSx7.out
  clear HSx7
  have HT9 := Lib.hid HTx7.out
  clear HTx7
  have c1 := rowcell HF9.out
  have hfar : decide (i < (n : Int)) = false := by simp; omega
  go_wp2_with (with_reducible refine wpList_stop (some 85) rfl ?_)
  refine Lib.hid ?_
  refine wpList_load_by (by kernel_rfl) 26 _ rfl (some 85) rfl G 0 (by go_simp) X _ (fun j v hj => by rw [Nat.zero_add, rowcell HA9.out]; simpa using hj) Try.underlying26 rfl HX.out ?_
  go_wp2_with fail
  clear c1
  refine (regs24_in _ _ s HS9.out).mono ?_; rintro e z1 ⟨⟨ra, rc, rfl⟩, hbx⟩
  rw [← HN.out]
  have hF := bkeep hbx HF9.out
  have hB := bnext HB9.out hbx
  clear HF9 HA9 HB9 HS9 HT9 hbx
  have HF9 := Lib.hid hF
  have HB9 := Lib.hid hB
  clear hF hB
  go_wp2_with fail
  refine wp_region_held (S := fun w' => Below z1.heap.size z1 w') (by kernel_rfl) ?_
  try simp only [List.append]
  change wpAnyH _ _ _ _ _ _ _ _ (World.drew _)
  have hS := drewb z1
  refine takeH 0 (.pointer none) (some 90) rfl rfl (by kernel_rfl) (by kernel_rfl) (by kernel_rfl) (fun _ _ _ h => h) (.inl ⟨by kernel_rfl, fun w _ => by go_simp⟩) hS ?_
  refine takeH 1 (.bool true) (some 91) rfl rfl (by kernel_rfl) (by kernel_rfl) (by kernel_rfl) (fun _ _ _ h => h) (.inl ⟨by kernel_rfl, fun w _ => by go_simp⟩) hS ?_
  refine takeH 2 (.bool true) (some 92) rfl rfl (by kernel_rfl) (by kernel_rfl) (by kernel_rfl) (fun _ _ _ h => h) (.inl ⟨by kernel_rfl, fun w _ => by go_simp⟩) hS ?_
  refine takeH 3 (.int .i64 1) (some 93) rfl rfl (by kernel_rfl) (by kernel_rfl) (by kernel_rfl) (fun _ _ _ h => h) (.inl ⟨by kernel_rfl, fun w _ => by go_simp⟩) hS ?_
  refine takeH 4 (.bool true) (some 94) rfl rfl (by kernel_rfl) (by kernel_rfl) (by kernel_rfl) (fun _ _ _ h => h) (.inl ⟨by kernel_rfl, fun w _ => by go_simp⟩) hS ?_
  refine takeH 5 (.bool true) (some 95) rfl rfl (by kernel_rfl) (by kernel_rfl) (by kernel_rfl) (fun _ _ _ h => h) (.inl ⟨by kernel_rfl, fun w _ => by go_simp⟩) hS ?_
  refine takeH 6 (.bool true) (some 96) rfl rfl (by kernel_rfl) (by kernel_rfl) (by kernel_rfl) (fun _ _ _ h => h) (.inl ⟨by kernel_rfl, fun w _ => by go_simp⟩) hS ?_
  refine takeH 7 (.bool false) (some 97) rfl rfl (by kernel_rfl) (by kernel_rfl) (by kernel_rfl) (fun _ _ _ h => h) (.inl ⟨by kernel_rfl, fun w _ => by go_simp⟩) hS ?_
  refine takeH 8 (.bool true) (some 98) rfl rfl (by kernel_rfl) (by kernel_rfl) (by kernel_rfl) (fun _ _ _ h => h) (.inl ⟨by kernel_rfl, fun w _ => by go_simp⟩) hS ?_
  refine takeH 9 (.bool true) (some 99) rfl rfl (by kernel_rfl) (by kernel_rfl) (by kernel_rfl) (fun _ _ _ h => h) (.inl ⟨by kernel_rfl, fun w _ => by go_simp⟩) hS ?_
  refine takeH 10 (.bool true) (some 100) rfl rfl (by kernel_rfl) (by kernel_rfl) (by kernel_rfl) (fun _ _ _ h => h) (.inl ⟨by kernel_rfl, fun w _ => by go_simp⟩) hS ?_
  refine takeH 11 (.bool false) (some 101) rfl rfl (by kernel_rfl) (by kernel_rfl) (by kernel_rfl) (fun _ _ _ h => h) (.inl ⟨by kernel_rfl, fun w _ => by go_simp⟩) hS ?_
  refine takeH 12 (.bool true) (some 102) rfl rfl (by kernel_rfl) (by kernel_rfl) (by kernel_rfl) (fun _ _ _ h => h) (.inl ⟨by kernel_rfl, fun w _ => by go_simp⟩) hS ?_
  refine takeH 13 (.bool true) (some 103) rfl rfl (by kernel_rfl) (by kernel_rfl) (by kernel_rfl) (fun _ _ _ h => h) (.inl ⟨by kernel_rfl, fun w _ => by go_simp⟩) hS ?_
  refine takeH 14 (.bool true) (some 104) rfl rfl (by kernel_rfl) (by kernel_rfl) (by kernel_rfl) (fun _ _ _ h => h) (.inl ⟨by kernel_rfl, fun w _ => by go_simp⟩) hS ?_
  refine takeH 15 (.pointer none) (some 105) rfl rfl (by kernel_rfl) (by kernel_rfl) (by kernel_rfl) (fun _ _ _ h => h) (.inl ⟨by kernel_rfl, fun w _ => by go_simp⟩) hS ?_
  refine takeH 16 (.agg #[.int .u8 p.1, .int .u16 p.2]) (some 106) rfl rfl (by kernel_rfl) (by kernel_rfl) (by kernel_rfl) (fun _ _ _ h => h) (yi_piece (by kernel_rfl) 69 _ rfl K 0 (by go_simp) #[.int .u8 p.1, .int .u16 p.2] _ (fun w hw j v hv => by rw [Nat.zero_add, rowcell (bkeep hw HF9.out)]; simpa using hv) Try.underlying69 rfl (by kernel_rfl)) hS ?_
  refine callH 17 rfl (by kernel_rfl) (by kernel_rfl) (some 107) rfl 46 #[.pointer none, .agg #[.int .u8 p.1, .int .u16 p.2]] ?hrunc1 ((fdsShare_nil _ p).mono ?_)
  case hrunc1 => go_simp
  rintro e q1 ⟨he, hbq⟩
  have hS := bnext hS hbq
  clear hbq
  refine ⟨_, he, hS, ?_⟩
  refine takeH 18 (.bool true) (some 108) rfl rfl (by kernel_rfl) (by kernel_rfl) (by kernel_rfl) (fun _ _ _ h => h) (.inl ⟨by kernel_rfl, fun w _ => by go_simp⟩) hS ?_
  refine takeH 19 (.bool true) (some 109) rfl rfl (by kernel_rfl) (by kernel_rfl) (by kernel_rfl) (fun _ _ _ h => h) (.inl ⟨by kernel_rfl, fun w _ => by go_simp⟩) hS ?_
  refine takeH 20 (.bool true) (some 110) rfl rfl (by kernel_rfl) (by kernel_rfl) (by kernel_rfl) (fun _ _ _ h => h) (.inl ⟨by kernel_rfl, fun w _ => by go_simp⟩) hS ?_
  refine takeH 21 (.pointer none) (some 111) rfl rfl (by kernel_rfl) (by kernel_rfl) (by kernel_rfl) (fun _ _ _ h => h) (.inl ⟨by kernel_rfl, fun w _ => by go_simp⟩) hS ?_
  refine takeH 22 (.int .i64 i) (some 112) rfl rfl (by kernel_rfl) (by kernel_rfl) (by kernel_rfl) (fun _ _ _ h => h) (.inl ⟨by kernel_rfl, fun w _ => by go_simp⟩) hS ?_
  refine takeH 24 (.pointer none) (some 114) rfl rfl (by kernel_rfl) (by kernel_rfl) (by kernel_rfl) (fun _ _ _ h => h) (.inl ⟨by kernel_rfl, fun w _ => by go_simp⟩) hS ?_
  refine takeH 25 (.agg #[.int .u8 p.1, .int .u16 p.2]) (some 115) rfl rfl (by kernel_rfl) (by kernel_rfl) (by kernel_rfl) (fun _ _ _ h => h) (yi_piece (by kernel_rfl) 69 _ rfl K 0 (by go_simp) #[.int .u8 p.1, .int .u16 p.2] _ (fun w hw j v hv => by rw [Nat.zero_add, rowcell (bkeep hw HF9.out)]; simpa using hv) Try.underlying69 rfl (by kernel_rfl)) hS ?_
  refine callH 23 rfl (by kernel_rfl) (by kernel_rfl) (some 113) rfl 32 #[.pointer none, .int .i64 i] ?hrunc2 ((fdsUsed_nil _ i).mono ?_)
  case hrunc2 => go_simp
  rintro e q2 ⟨he, rfl⟩
  refine ⟨_, he, hS, ?_⟩
  refine callH 26 rfl (by kernel_rfl) (by kernel_rfl) (some 116) rfl 51 #[.pointer none, .agg #[.int .u8 p.1, .int .u16 p.2]] ?hrunc3 ((fdsRefs_nil _ p).mono ?_)
  case hrunc3 => go_simp
  rintro e q3 ⟨he, hbq⟩
  have hS := bnext hS hbq
  clear hbq
  refine ⟨_, he, hS, ?_⟩
  refine takeH 27 (.int .i64 0) (some 117) rfl rfl (by kernel_rfl) (by kernel_rfl) (by kernel_rfl) (fun _ _ _ h => h) (.inl ⟨by kernel_rfl, fun w _ => by go_simp; rfl⟩) hS ?_
  refine takeH 28 (.bool true) (some 118) rfl rfl (by kernel_rfl) (by kernel_rfl) (by kernel_rfl) (fun _ _ _ h => h) (.inl ⟨by kernel_rfl, fun w _ => by go_simp⟩) hS ?_
  refine takeH 29 (.bool true) (some 119) rfl rfl (by kernel_rfl) (by kernel_rfl) (by kernel_rfl) (fun _ _ _ h => h) (.inl ⟨by kernel_rfl, fun w _ => by go_simp⟩) hS ?_
  refine takeH 30 (.bool true) (some 120) rfl rfl (by kernel_rfl) (by kernel_rfl) (by kernel_rfl) (fun _ _ _ h => h) (.inl ⟨by kernel_rfl, fun w _ => by go_simp⟩) hS ?_
  refine takeH 31 (.int .i64 27) (some 121) rfl rfl (by kernel_rfl) (by kernel_rfl) (by kernel_rfl) (fun _ _ _ h => h) (.inl ⟨by kernel_rfl, fun w _ => by go_simp⟩) hS ?_
  refine takeH 32 (.bool false) (some 122) rfl rfl (by kernel_rfl) (by kernel_rfl) (by kernel_rfl) (fun _ _ _ h => h) (.inl ⟨by kernel_rfl, fun w _ => by go_simp⟩) hS ?_
  refine takeH 33 (.bool false) (some 123) rfl rfl (by kernel_rfl) (by kernel_rfl) (by kernel_rfl) (fun _ _ _ h => h) (.inl ⟨by kernel_rfl, fun w _ => by go_simp⟩) hS ?_
  refine takeH 34 (.bool true) (some 124) rfl rfl (by kernel_rfl) (by kernel_rfl) (by kernel_rfl) (fun _ _ _ h => h) (.inl ⟨by kernel_rfl, fun w _ => by go_simp⟩) hS ?_
  refine takeH 35 (.bool true) (some 125) rfl rfl (by kernel_rfl) (by kernel_rfl) (by kernel_rfl) (fun _ _ _ h => h) (.inl ⟨by kernel_rfl, fun w _ => by go_simp⟩) hS ?_
  refine takeH 36 (.bool true) (some 126) rfl rfl (by kernel_rfl) (by kernel_rfl) (by kernel_rfl) (fun _ _ _ h => h) (.inl ⟨by kernel_rfl, fun w _ => by go_simp⟩) hS ?_
  refine takeH 37 (.bool false) (some 127) rfl rfl (by kernel_rfl) (by kernel_rfl) (by kernel_rfl) (fun _ _ _ h => h) (.inl ⟨by kernel_rfl, fun w _ => by go_simp⟩) hS ?_
  refine takeH 38 (.bool false) (some 128) rfl rfl (by kernel_rfl) (by kernel_rfl) (by kernel_rfl) (fun _ _ _ h => h) (.inl ⟨by kernel_rfl, fun w _ => by go_simp⟩) hS ?_
  refine takeH 39 (.int .i64 27) (some 129) rfl rfl (by kernel_rfl) (by kernel_rfl) (by kernel_rfl) (fun _ _ _ h => h) (.inl ⟨by kernel_rfl, fun w _ => by go_simp⟩) hS ?_
  refine takeH 40 (.bool true) (some 130) rfl rfl (by kernel_rfl) (by kernel_rfl) (by kernel_rfl) (fun _ _ _ h => h) (.inl ⟨by kernel_rfl, fun w _ => by go_simp⟩) hS ?_
  refine takeH 41 (.bool true) (some 131) rfl rfl (by kernel_rfl) (by kernel_rfl) (by kernel_rfl) (fun _ _ _ h => h) (.inl ⟨by kernel_rfl, fun w _ => by go_simp⟩) hS ?_
  refine takeH 42 (.bool true) (some 132) rfl rfl (by kernel_rfl) (by kernel_rfl) (by kernel_rfl) (fun _ _ _ h => h) (.inl ⟨by kernel_rfl, fun w _ => by go_simp⟩) hS ?_
  refine takeH 43 (.bool true) (some 133) rfl rfl (by kernel_rfl) (by kernel_rfl) (by kernel_rfl) (fun _ _ _ h => h) (.inl ⟨by kernel_rfl, fun w _ => by go_simp⟩) hS ?_
  refine takeH 44 (.int .i64 1) (some 134) rfl rfl (by kernel_rfl) (by kernel_rfl) (by kernel_rfl) (fun _ _ _ h => h) (.inl ⟨by kernel_rfl, fun w _ => by go_simp⟩) hS ?_
  refine takeH 45 (.bool true) (some 135) rfl rfl (by kernel_rfl) (by kernel_rfl) (by kernel_rfl) (fun _ _ _ h => h) (.inl ⟨by kernel_rfl, fun w _ => by go_simp⟩) hS ?_
  refine takeH 46 (.bool true) (some 136) rfl rfl (by kernel_rfl) (by kernel_rfl) (by kernel_rfl) (fun _ _ _ h => h) (.inl ⟨by kernel_rfl, fun w _ => by go_simp⟩) hS ?_
  refine takeH 47 (.bool true) (some 137) rfl rfl (by kernel_rfl) (by kernel_rfl) (by kernel_rfl) (fun _ _ _ h => h) (.inl ⟨by kernel_rfl, fun w _ => by go_simp⟩) hS ?_
  refine takeH 48 (.int .i64 1) (some 138) rfl rfl (by kernel_rfl) (by kernel_rfl) (by kernel_rfl) (fun _ _ _ h => h) (.inl ⟨by kernel_rfl, fun w _ => by go_simp⟩) hS ?_
  refine takeH 49 (.bool true) (some 139) rfl rfl (by kernel_rfl) (by kernel_rfl) (by kernel_rfl) (fun _ _ _ h => h) (.inl ⟨by kernel_rfl, fun w _ => by go_simp⟩) hS ?_
  refine takeH 50 (.bool true) (some 140) rfl rfl (by kernel_rfl) (by kernel_rfl) (by kernel_rfl) (fun _ _ _ h => h) (.inl ⟨by kernel_rfl, fun w _ => by go_simp⟩) hS ?_
  refine takeH 51 (.bool true) (some 141) rfl rfl (by kernel_rfl) (by kernel_rfl) (by kernel_rfl) (fun _ _ _ h => h) (.inl ⟨by kernel_rfl, fun w _ => by go_simp⟩) hS ?_
  refine takeH 52 (.int .i64 1) (some 142) rfl rfl (by kernel_rfl) (by kernel_rfl) (by kernel_rfl) (fun _ _ _ h => h) (.inl ⟨by kernel_rfl, fun w _ => by go_simp⟩) hS ?_
  refine takeH 53 (.bool true) (some 143) rfl rfl (by kernel_rfl) (by kernel_rfl) (by kernel_rfl) (fun _ _ _ h => h) (.inl ⟨by kernel_rfl, fun w _ => by go_simp⟩) hS ?_
  refine takeH 54 (.bool true) (some 144) rfl rfl (by kernel_rfl) (by kernel_rfl) (by kernel_rfl) (fun _ _ _ h => h) (.inl ⟨by kernel_rfl, fun w _ => by go_simp⟩) hS ?_
  refine takeH 55 (.bool true) (some 145) rfl rfl (by kernel_rfl) (by kernel_rfl) (by kernel_rfl) (fun _ _ _ h => h) (.inl ⟨by kernel_rfl, fun w _ => by go_simp⟩) hS ?_
  refine takeH 56 (.pointer none) (some 146) rfl rfl (by kernel_rfl) (by kernel_rfl) (by kernel_rfl) (fun _ _ _ h => h) (.inl ⟨by kernel_rfl, fun w _ => by go_simp⟩) hS ?_
  refine takeH 57 (.int .i64 j) (some 147) rfl rfl (by kernel_rfl) (by kernel_rfl) (by kernel_rfl) (fun _ _ _ h => h) (.inl ⟨by kernel_rfl, fun w _ => by go_simp⟩) hS ?_
  refine takeH 58 (.agg #[.int .u8 p.1, .int .u16 p.2]) (some 148) rfl rfl (by kernel_rfl) (by kernel_rfl) (by kernel_rfl) (fun _ _ _ h => h) (yi_piece (by kernel_rfl) 69 _ rfl K 0 (by go_simp) #[.int .u8 p.1, .int .u16 p.2] _ (fun w hw j v hv => by rw [Nat.zero_add, rowcell (bkeep hw HF9.out)]; simpa using hv) Try.underlying69 rfl (by kernel_rfl)) hS ?_
  refine callH 59 rfl (by kernel_rfl) (by kernel_rfl) (some 149) rfl 55 #[.pointer none, .int .i64 j, .agg #[.int .u8 p.1, .int .u16 p.2]] ?hrunc4 ((setTurn_nil _ j p).mono ?_)
  case hrunc4 => go_simp
  rintro e q4 ⟨he, hbq⟩
  have hS := bnext hS hbq
  clear hbq
  refine ⟨_, he, hS, ?_⟩
  refine takeH 60 (.bool true) (some 150) rfl rfl (by kernel_rfl) (by kernel_rfl) (by kernel_rfl) (fun _ _ _ h => h) (.inl ⟨by kernel_rfl, fun w _ => by go_simp⟩) hS ?_
  refine takeH 61 (.bool true) (some 151) rfl rfl (by kernel_rfl) (by kernel_rfl) (by kernel_rfl) (fun _ _ _ h => h) (.inl ⟨by kernel_rfl, fun w _ => by go_simp⟩) hS ?_
  refine takeH 62 (.bool true) (some 152) rfl rfl (by kernel_rfl) (by kernel_rfl) (by kernel_rfl) (fun _ _ _ h => h) (.inl ⟨by kernel_rfl, fun w _ => by go_simp⟩) hS ?_
  refine takeH 63 (.pointer none) (some 153) rfl rfl (by kernel_rfl) (by kernel_rfl) (by kernel_rfl) (fun _ _ _ h => h) (.inl ⟨by kernel_rfl, fun w _ => by go_simp⟩) hS ?_
  refine callH 64 rfl (by kernel_rfl) (by kernel_rfl) (some 154) rfl 57 #[.pointer none] ?hrunc5 ((setNumbers_nil _).mono ?_)
  case hrunc5 => go_simp
  rintro e q5 ⟨he, rfl⟩
  refine ⟨_, he, hS, ?_⟩
  refine takeH 65 (.int .i64 0) (some 155) rfl rfl (by kernel_rfl) (by kernel_rfl) (by kernel_rfl) (fun _ _ _ h => h) (.inl ⟨by kernel_rfl, fun w _ => by go_simp⟩) hS ?_
  refine takeH 66 (.bool true) (some 156) rfl rfl (by kernel_rfl) (by kernel_rfl) (by kernel_rfl) (fun _ _ _ h => h) (.inl ⟨by kernel_rfl, fun w _ => by go_simp⟩) hS ?_
  refine takeH 67 (.bool true) (some 157) rfl rfl (by kernel_rfl) (by kernel_rfl) (by kernel_rfl) (fun _ _ _ h => h) (.inl ⟨by kernel_rfl, fun w _ => by go_simp⟩) hS ?_
  refine takeH 68 (.bool true) (some 158) rfl rfl (by kernel_rfl) (by kernel_rfl) (by kernel_rfl) (fun _ _ _ h => h) (.inl ⟨by kernel_rfl, fun w _ => by go_simp⟩) hS ?_
  refine takeH 69 (.pointer none) (some 159) rfl rfl (by kernel_rfl) (by kernel_rfl) (by kernel_rfl) (fun _ _ _ h => h) (.inl ⟨by kernel_rfl, fun w _ => by go_simp⟩) hS ?_
  refine callH 70 rfl (by kernel_rfl) (by kernel_rfl) (some 160) rfl 58 #[.pointer none] ?hrunc6 ((setRoom_nil _).mono ?_)
  case hrunc6 => go_simp
  rintro e q6 ⟨he, rfl⟩
  refine ⟨_, he, hS, ?_⟩
  refine takeH 71 (.bool true) (some 161) rfl rfl (by kernel_rfl) (by kernel_rfl) (by kernel_rfl) (fun _ _ _ h => h) (.inl ⟨by kernel_rfl, fun w _ => by go_simp⟩) hS ?_
  refine takeH 72 (.bool true) (some 162) rfl rfl (by kernel_rfl) (by kernel_rfl) (by kernel_rfl) (fun _ _ _ h => h) (.inl ⟨by kernel_rfl, fun w _ => by go_simp⟩) hS ?_
  refine takeH 73 (.bool true) (some 8) rfl rfl (by kernel_rfl) (by kernel_rfl) (by kernel_rfl) (fun _ _ _ h => h) (.inl ⟨by kernel_rfl, fun w _ => by go_simp⟩) hS ?_

  refine wpAnyH_done (by kernel_rfl) ?_ _
  go_simp
  go_wp2_with fail
  go_ret
  exact ⟨rfl, bnext HB2.out (bnext HB9.out hS)⟩

end Go.Proofs.Ytfnkbgcgajgppaa
