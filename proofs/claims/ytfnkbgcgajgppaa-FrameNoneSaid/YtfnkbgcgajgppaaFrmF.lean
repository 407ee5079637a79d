/- The law FrameNone: its walk. -/
import Derived.Test.YtfnkbgcgajgppaaFrmE
set_option linter.unusedVariables false
set_option linter.unusedSimpArgs false
namespace Go.Proofs.Ytfnkbgcgajgppaa
open Go.RowKit
open Go.Maps (Keyed)

theorem Arg.frame {W : World} {v : Value} (o : Arg Try.prog W 84 v) : ∃ p : Nat × Nat, v = .agg #[.int .u8 p.1, .int .u16 p.2] ∧ p.1 ≤ 255 ∧ p.2 ≤ 65535 := by
  obtain ⟨cs, rfl, h⟩ := Arg.flat (.inl ⟨_, Try.underlying84⟩) 4 (ks := [⟨0, .u8, 0⟩, ⟨0, .u16, 0⟩]) (by kernel_rfl) o
  obtain ⟨_, _, rfl, ⟨x, rfl, hx⟩, h1⟩ := FitsAll.cons h
  obtain ⟨_, _, rfl, ⟨y, rfl, hy⟩, h2⟩ := FitsAll.cons h1
  obtain rfl := FitsAll.nil h2
  have a1 := wf_u8 hx
  have a2 := wf_u16 hy
  obtain ⟨a, rfl⟩ : ∃ n : Nat, x = n := ⟨x.toNat, by omega⟩
  obtain ⟨b, rfl⟩ : ∃ n : Nat, y = n := ⟨y.toNat, by omega⟩
  exact ⟨(a, b), rfl, by show a ≤ 255; omega, by show b ≤ 65535; omega⟩
theorem or_high (b : Nat) (hb : b ≤ 65535) : ∃ m : Nat, bits .or .u16 (b : Int) 32768 = (m : Int) ∧ m ≤ 65535 ∧ 0 < m := by
  refine ⟨b ||| 32768, bits_or_u16 b 32768 (by omega) (by omega), ?_, ?_⟩
  · have := Nat.or_lt_two_pow (x := b) (y := 32768) (n := 16) (by omega) (by omega)
    omega
  · have h : (b ||| 32768).testBit 15 = true := by rw [Nat.testBit_or, show (32768 : Nat).testBit 15 = true by decide, Bool.or_true]
    rcases Nat.eq_zero_or_pos (b ||| 32768) with e | e
    · rw [e] at h; simp at h
    · exact e


theorem frameCopy_none {w : World} {g gm : Nat} {a : Option Addr} {us : Nat → Nat} {F : Nat × Nat → Option (Nat → Nat)} (h : FP w g gm a us F) (p q : Nat × Nat) (h1 : p.1 ≤ 255) (h2 : p.2 ≤ 65535) (h3 : q.1 ≤ 255) (h4 : q.2 ≤ 65535) (hF : (F p).isSome = false) :
    Calls Try.prog 41 #[.pointer (some ⟨g, 0, none⟩), markV p, markV q] w fun e w' => e = .returned (.bool false) ∧ FP w' g gm a us F ∧ Duo w w' g gm :=
  (frameCopy_in h p q h1 h2 h3 h4).mono fun e w' ⟨he, hT, hd⟩ => ⟨by rw [he, hF]; rfl, by rw [hF] at hT; simpa using hT, hd⟩
theorem frameUsed_zero {w : World} {g gm : Nat} {a : Option Addr} {us : Nat → Nat} {F : Nat × Nat → Option (Nat → Nat)} (h : FP w g gm a us F) (hu : ∀ k, k < 64 → us k = 0) (i : Int) :
    Calls Try.prog 43 #[.pointer (some ⟨g, 0, none⟩), .int .i64 i] w fun e w' => e = .returned (.int .i64 0) ∧ w = w' := by
  by_cases hi : i < 0 ∨ 64 ≤ i
  · exact frameUsed_no g w i hi
  · obtain ⟨k, rfl⟩ : ∃ k : Nat, i = k := ⟨i.toNat, by omega⟩
    have := frameUsed_in h k (by omega)
    rw [hu k (by omega)] at this
    exact this

set_option maxRecDepth 100000 in
set_option maxHeartbeats 8000000 in
theorem frameNone_neg (W : World) (v : Value) (s : SizeL) (S0 : SizeV W v s) (p : Nat × Nat) (p1 : p.1 ≤ 255) (p2 : p.2 ≤ 65535) (i j c : Int) (h0 : i < 0) :
    Calls Try.prog 10 #[v, .agg #[.int .u8 p.1, .int .u16 p.2], .int .i64 i, .int .i64 j, .int .u8 c] W fun e w' => e = .returned (.bool true) ∧ Below W.heap.size W w' := by
  obtain ⟨m, hm, hm1, hm2⟩ := or_high p.2 p2
  have HSV := Lib.hid S0
  obtain ⟨X, tv, rfl, hX, hrest⟩ := S0
  obtain ⟨n, hn⟩ : ∃ n, n = (sizeRegs s).length := ⟨_, rfl⟩
  have HN := Lib.hid hn
  have hn64 : n ≤ 64 := by rw [hn]; exact sizeLe64 s
  clear hrest hn
  have HX := Lib.hid (show (Try.prog.info? 26).map (·.size) = some X.size by rw [hX]; kernel_rfl)
  clear hX
  have hb0 := bnewAfter (bnew W (.cells X 26)) (.cells #[.int .u8 p.1, .int .u16 p.2] 84)
  have ha0 := bkeep (bnew _ (.cells #[.int .u8 p.1, .int .u16 p.2] 84)) (heap_alloc_last W (.cells X 26))
  have hf0 := heap_alloc_last (W.alloc (.cells X 26)) (.cells #[.int .u8 p.1, .int .u16 p.2] 84)
  rw [World.size_alloc] at hf0
  have eq := eqFrame (0, 0) (0, 0) (by omega) (by omega) (by omega) (by omega)
  rw [decide_eq_true rfl] at eq
  have HSX := Lib.hid (SizeV.keep HSV.out hb0)
  clear HSV
  go_enter Try.func10, Try.ntmps10
  go_wp2_with fail
  generalize hG : W.heap.size = G at *
  generalize (W.alloc (.cells X 26)).alloc (.cells #[.int .u8 p.1, .int .u16 p.2] 84) = w0 at *
  have HG := Lib.hid hG
  have HB0 := Lib.hid hb0
  have HA0 := Lib.hid ha0
  have HF0 := Lib.hid hf0
  clear hG hb0 ha0 hf0
  refine (frameAwake_in _).mono ?_; rintro e w1 ⟨rfl, hb1⟩
  have HB1 := Lib.hid (HB0.out.trans (hb1.mono (by have := HB0.out.size; rw [HG.out] at this; exact this)))
  have HA1 := Lib.hid (bkeep hb1 HA0.out)
  have HF1 := Lib.hid (bkeep hb1 HF0.out)
  have HS1 := Lib.hid (SizeV.keep HSX.out hb1)
  clear hb1
  go_wp2_with (refine wpList_load_pieceTo rfl 26 (.tmp 5) rfl (some 24) rfl G 0 rfl X _ (fun j v hj => by rw [Nat.zero_add, rowcell HA1.out]; simpa using hj) Try.underlying26 rfl HX.out ?_)
  refine (sizeConf_in _ _ s HS1.out).mono ?_; rintro e w2 ⟨hb2, cg, gT, gN, gL, v', m', u', rfl, hcf⟩
  have hP := hcf.toP (sizeLe _) (sizeOk _)
  rw [show (sizeRegs s) = sizeRegs s from rfl] at hP
  have HP := Lib.hid hP
  have HB2 := Lib.hid (HB1.out.trans (hb2.mono (by have := HB1.out.size; rw [HG.out] at this; exact this)))
  have HF2 := Lib.hid (bkeep hb2 HF1.out)
  have HLT := Lib.hid (show G + 1 < w2.heap.size from rowlt HF2.out)
  clear hcf hb2 hP
  go_wp2_with fail
  refine (frameNew_nil _).mono ?_; rintro e w3 ⟨rfl, rfl⟩
  go_wp2_with fail
  refine (frameNew_in _ _).mono ?_; rintro e w3 ⟨g, gm, rfl, hg, hgm, hT, hb3⟩
  have HT3 := Lib.hid hT
  have HGG := Lib.hid (And.intro hg hgm)
  have HB3 := Lib.hid hb3
  have HF3 := Lib.hid (bkeep hb3 HF2.out)
  clear hT hg hgm hb3
  go_wp2_with fail
  refine (frameTake_nil _ _).mono ?_; rintro e w4 ⟨rfl, hb4⟩
  unfold markV
  have ha5 := heap_alloc_last w4 (.cells #[.int .u8 0, .int .u16 0] 84)
  have hb5 := bnewAfter hb4 (.cells #[.int .u8 0, .int .u16 0] 84)
  have HT5 := Lib.hid (HT3.out.keep hb5)
  have HB5 := Lib.hid (bnext HB3.out hb5)
  have HF5 := Lib.hid (bkeep hb5 HF3.out)
  have HL5 := Lib.hid (show w3.heap.size ≤ w4.heap.size from hb4.size)
  clear hb4 hb5
  have c1 := rowcell HF5.out
  go_wp2_with fail
  generalize hN4 : w4.heap.size = n4 at *
  generalize w4.alloc (.cells #[.int .u8 0, .int .u16 0] 84) = w5 at *
  have HA5 := Lib.hid ha5
  have HLX := Lib.hid (show g < n4 ∧ gm < n4 from by have h1 := HT3.out.row.lt; have h2 := HT3.out.mp.lt; have := HL5.out; omega)
  clear ha5 hN4 c1
  have HM := Lib.hid hm
  clear hm
  refine (frameByte_nil _ p j).mono ?_; rintro e w6 ⟨rfl, hb6⟩
  have HT6 := Lib.hid (HT5.out.keep hb6)
  have HB6 := Lib.hid (bnext HB5.out hb6)
  have HF6 := Lib.hid (bkeep hb6 HF5.out)
  have HA6 := Lib.hid (bkeep hb6 HA5.out)
  clear hb6
  go_wp2_with fail
  refine (frameTake_no HP.out HB6.out HT6.out i (by rw [← HN.out]; simp [inB]; omega)).mono ?_
  rintro e w7 ⟨rfl, hb7⟩
  unfold markV
  have ha8 := heap_alloc_last w7 (.cells #[.int .u8 0, .int .u16 0] 84)
  have hb8 := bnewAfter hb7 (.cells #[.int .u8 0, .int .u16 0] 84)
  have HT8 := Lib.hid (HT6.out.keep hb8)
  have HB8 := Lib.hid (bnext HB6.out hb8)
  have HF8 := Lib.hid (bkeep hb8 HF6.out)
  have HA8 := Lib.hid (bkeep hb8 HA6.out)
  clear hb7 hb8
  have HZ8 := Lib.hid ha8
  clear ha8
  have ha9 := heap_alloc_last (w7.alloc (.cells #[.int .u8 0, .int .u16 0] 84)) (.cells #[.int .u8 p.1, .int .u16 m] 84)
  rw [World.size_alloc] at ha9
  have hb9 := bnew (w7.alloc (.cells #[.int .u8 0, .int .u16 0] 84)) (.cells #[.int .u8 p.1, .int .u16 m] 84)
  have HT9 := Lib.hid (HT8.out.keep hb9)
  have HB9 := Lib.hid (bnext HB8.out hb9)
  have HF9 := Lib.hid (bkeep hb9 HF8.out)
  have HA9 := Lib.hid (bkeep hb9 HA8.out)
  have HZ9 := Lib.hid (bkeep hb9 HZ8.out)
  have HO9 := Lib.hid ha9
  clear hb9 ha9
  have c1 := rowcell HF8.out
  have c2 := HM.out
  have c3 := rowcell HA9.out
  have c4 := rowcell HF9.out
  go_wp2_with fail
  generalize (w7.alloc (.cells #[.int .u8 0, .int .u16 0] 84)).alloc (.cells #[.int .u8 p.1, .int .u16 m] 84) = x0 at *
  clear c1 c2 c3 c4

  refine (frameGive_nil _ p).mono ?_; rintro e x1 ⟨rfl, hbx⟩
  have HTx1 := Lib.hid (HT9.out.keep hbx)
  have HBx1 := Lib.hid (bnext HB9.out hbx)
  have HFx1 := Lib.hid (bkeep hbx HF9.out)
  have HAx1 := Lib.hid (bkeep hbx HA9.out)
  have HZx1 := Lib.hid (bkeep hbx HZ9.out)
  have HOx1 := Lib.hid (bkeep hbx HO9.out)
  clear hbx HT9 HB9 HF9 HA9 HZ9 HO9
  have HT9 := Lib.hid HTx1.out
  clear HTx1
  have HB9 := Lib.hid HBx1.out
  clear HBx1
  have HF9 := Lib.hid HFx1.out
  clear HFx1
  have HA9 := Lib.hid HAx1.out
  clear HAx1
  have HZ9 := Lib.hid HZx1.out
  clear HZx1
  have HO9 := Lib.hid HOx1.out
  clear HOx1
  have c1 := rowcell HF9.out
  have c2 := rowcell HA9.out
  have c3 := rowcell HO9.out
  have c4 := rowcell HZ9.out
  go_wp2_with fail
  clear c1 c2 c3 c4
  refine (frameSet_nil _ p j c).mono ?_; rintro e x2 ⟨rfl, hbx⟩
  have HTx2 := Lib.hid (HT9.out.keep hbx)
  have HBx2 := Lib.hid (bnext HB9.out hbx)
  have HFx2 := Lib.hid (bkeep hbx HF9.out)
  have HAx2 := Lib.hid (bkeep hbx HA9.out)
  have HZx2 := Lib.hid (bkeep hbx HZ9.out)
  have HOx2 := Lib.hid (bkeep hbx HO9.out)
  clear hbx HT9 HB9 HF9 HA9 HZ9 HO9
  have HT9 := Lib.hid HTx2.out
  clear HTx2
  have HB9 := Lib.hid HBx2.out
  clear HBx2
  have HF9 := Lib.hid HFx2.out
  clear HFx2
  have HA9 := Lib.hid HAx2.out
  clear HAx2
  have HZ9 := Lib.hid HZx2.out
  clear HZx2
  have HO9 := Lib.hid HOx2.out
  clear HOx2
  have c1 := rowcell HF9.out
  have c2 := rowcell HA9.out
  have c3 := rowcell HO9.out
  have c4 := rowcell HZ9.out
  go_wp2_with fail
  clear c1 c2 c3 c4
  refine (frameCopy_nil _ p p).mono ?_; rintro e x3 ⟨rfl, hbx⟩
  have HTx3 := Lib.hid (HT9.out.keep hbx)
  have HBx3 := Lib.hid (bnext HB9.out hbx)
  have HFx3 := Lib.hid (bkeep hbx HF9.out)
  have HAx3 := Lib.hid (bkeep hbx HA9.out)
  have HZx3 := Lib.hid (bkeep hbx HZ9.out)
  have HOx3 := Lib.hid (bkeep hbx HO9.out)
  clear hbx HT9 HB9 HF9 HA9 HZ9 HO9
  have HT9 := Lib.hid HTx3.out
  clear HTx3
  have HB9 := Lib.hid HBx3.out
  clear HBx3
  have HF9 := Lib.hid HFx3.out
  clear HFx3
  have HA9 := Lib.hid HAx3.out
  clear HAx3
  have HZ9 := Lib.hid HZx3.out
  clear HZx3
  have HO9 := Lib.hid HOx3.out
  clear HOx3
  have c1 := rowcell HF9.out
  have c2 := rowcell HA9.out
  have c3 := rowcell HO9.out
  have c4 := rowcell HZ9.out
  go_wp2_with fail
  clear c1 c2 c3 c4
  refine (frameUsed_nil _ i).mono ?_; rintro e x4 ⟨rfl, rfl⟩
  have c1 := rowcell HF9.out
  have c2 := rowcell HA9.out
  have c3 := rowcell HO9.out
  have c4 := rowcell HZ9.out
  go_wp2_with fail
  clear c1 c2 c3 c4
  refine (frameRoom_nil _ i).mono ?_; rintro e x5 ⟨rfl, rfl⟩
  have c1 := rowcell HF9.out
  have c2 := rowcell HA9.out
  have c3 := rowcell HO9.out
  have c4 := rowcell HZ9.out
  go_wp2_with fail
  clear c1 c2 c3 c4
  refine (frameGive_none HT9.out (p.1, m) (by show p.1 ≤ 255; omega) (by show m ≤ 65535; omega) rfl).mono ?_; rintro e x6 ⟨rfl, hbx⟩
  have HTx6 := Lib.hid (HT9.out.keep hbx)
  have HBx6 := Lib.hid (bnext HB9.out hbx)
  have HFx6 := Lib.hid (bkeep hbx HF9.out)
  have HAx6 := Lib.hid (bkeep hbx HA9.out)
  have HZx6 := Lib.hid (bkeep hbx HZ9.out)
  have HOx6 := Lib.hid (bkeep hbx HO9.out)
  clear hbx HT9 HB9 HF9 HA9 HZ9 HO9
  have HT9 := Lib.hid HTx6.out
  clear HTx6
  have HB9 := Lib.hid HBx6.out
  clear HBx6
  have HF9 := Lib.hid HFx6.out
  clear HFx6
  have HA9 := Lib.hid HAx6.out
  clear HAx6
  have HZ9 := Lib.hid HZx6.out
  clear HZx6
  have HO9 := Lib.hid HOx6.out
  clear HOx6
  have c1 := rowcell HF9.out
  have c2 := rowcell HA9.out
  have c3 := rowcell HO9.out
  have c4 := rowcell HZ9.out
  go_wp2_with fail
  clear c1 c2 c3 c4
  have hcp := frameCopy_none HT9.out (p.1, m) (0, 0) p1 hm1 (by show _ ≤ 255; omega) (Nat.zero_le _) rfl
  simp only [markV, Int.ofNat_zero, Int.natCast_zero] at hcp
  refine hcp.mono ?_; rintro e y1 ⟨rfl, hTy, hdy⟩
  clear hcp
  have HTy := Lib.hid hTy
  have HBy := Lib.hid (Duo.next HB9.out hdy HGG.out.1 HGG.out.2)
  clear hTy hdy
  go_wp2_with fail
  refine (frameUsed_zero HTy.out (fun _ _ => rfl) i).mono ?_; rintro e y2 ⟨rfl, rfl⟩
  go_wp2_with fail
  refine (frameRoom_no HP.out HBy.out HTy.out i (by rw [← HN.out]; simp [inB]; omega)).mono ?_; rintro e y3 ⟨rfl, hb3y⟩
  have HBz := Lib.hid (bnext HBy.out hb3y)
  clear hb3y
  go_wp2_with fail
  go_ret
  exact ⟨rfl, by rw [HG.out]; exact HB2.out.trans (HBz.out.mono (by have := HLT.out; omega))⟩
set_option maxRecDepth 100000 in
set_option maxHeartbeats 8000000 in
theorem frameNone_far (W : World) (v : Value) (s : SizeL) (S0 : SizeV W v s) (p : Nat × Nat) (p1 : p.1 ≤ 255) (p2 : p.2 ≤ 65535) (i j c : Int) (h0 : ¬ i < 0) (h1 : ¬ (i < ((sizeRegs s).length : Int))) :
    Calls Try.prog 10 #[v, .agg #[.int .u8 p.1, .int .u16 p.2], .int .i64 i, .int .i64 j, .int .u8 c] W fun e w' => e = .returned (.bool true) ∧ Below W.heap.size W w' := by
  obtain ⟨m, hm, hm1, hm2⟩ := or_high p.2 p2
  have HSV := Lib.hid S0
  obtain ⟨X, tv, rfl, hX, hrest⟩ := S0
  obtain ⟨n, hn⟩ : ∃ n, n = (sizeRegs s).length := ⟨_, rfl⟩
  have HN := Lib.hid hn
  have hn64 : n ≤ 64 := by rw [hn]; exact sizeLe64 s
  rw [← hn] at h1
  clear hrest hn
  have HX := Lib.hid (show (Try.prog.info? 26).map (·.size) = some X.size by rw [hX]; kernel_rfl)
  clear hX
  have hb0 := bnewAfter (bnew W (.cells X 26)) (.cells #[.int .u8 p.1, .int .u16 p.2] 84)
  have ha0 := bkeep (bnew _ (.cells #[.int .u8 p.1, .int .u16 p.2] 84)) (heap_alloc_last W (.cells X 26))
  have hf0 := heap_alloc_last (W.alloc (.cells X 26)) (.cells #[.int .u8 p.1, .int .u16 p.2] 84)
  rw [World.size_alloc] at hf0
  have eq := eqFrame (0, 0) (0, 0) (by omega) (by omega) (by omega) (by omega)
  rw [decide_eq_true rfl] at eq
  have HSX := Lib.hid (SizeV.keep HSV.out hb0)
  clear HSV
  go_enter Try.func10, Try.ntmps10
  go_wp2_with fail
  generalize hG : W.heap.size = G at *
  generalize (W.alloc (.cells X 26)).alloc (.cells #[.int .u8 p.1, .int .u16 p.2] 84) = w0 at *
  have HG := Lib.hid hG
  have HB0 := Lib.hid hb0
  have HA0 := Lib.hid ha0
  have HF0 := Lib.hid hf0
  clear hG hb0 ha0 hf0
  refine (frameAwake_in _).mono ?_; rintro e w1 ⟨rfl, hb1⟩
  have HB1 := Lib.hid (HB0.out.trans (hb1.mono (by have := HB0.out.size; rw [HG.out] at this; exact this)))
  have HA1 := Lib.hid (bkeep hb1 HA0.out)
  have HF1 := Lib.hid (bkeep hb1 HF0.out)
  have HS1 := Lib.hid (SizeV.keep HSX.out hb1)
  clear hb1
  go_wp2_with (refine wpList_load_pieceTo rfl 26 (.tmp 5) rfl (some 24) rfl G 0 rfl X _ (fun j v hj => by rw [Nat.zero_add, rowcell HA1.out]; simpa using hj) Try.underlying26 rfl HX.out ?_)
  refine (sizeConf_in _ _ s HS1.out).mono ?_; rintro e w2 ⟨hb2, cg, gT, gN, gL, v', m', u', rfl, hcf⟩
  have hP := hcf.toP (sizeLe _) (sizeOk _)
  rw [show (sizeRegs s) = sizeRegs s from rfl] at hP
  have HP := Lib.hid hP
  have HB2 := Lib.hid (HB1.out.trans (hb2.mono (by have := HB1.out.size; rw [HG.out] at this; exact this)))
  have HF2 := Lib.hid (bkeep hb2 HF1.out)
  have HLT := Lib.hid (show G + 1 < w2.heap.size from rowlt HF2.out)
  clear hcf hb2 hP
  go_wp2_with fail
  refine (frameNew_nil _).mono ?_; rintro e w3 ⟨rfl, rfl⟩
  go_wp2_with fail
  refine (frameNew_in _ _).mono ?_; rintro e w3 ⟨g, gm, rfl, hg, hgm, hT, hb3⟩
  have HT3 := Lib.hid hT
  have HGG := Lib.hid (And.intro hg hgm)
  have HB3 := Lib.hid hb3
  have HF3 := Lib.hid (bkeep hb3 HF2.out)
  clear hT hg hgm hb3
  go_wp2_with fail
  refine (frameTake_nil _ _).mono ?_; rintro e w4 ⟨rfl, hb4⟩
  unfold markV
  have ha5 := heap_alloc_last w4 (.cells #[.int .u8 0, .int .u16 0] 84)
  have hb5 := bnewAfter hb4 (.cells #[.int .u8 0, .int .u16 0] 84)
  have HT5 := Lib.hid (HT3.out.keep hb5)
  have HB5 := Lib.hid (bnext HB3.out hb5)
  have HF5 := Lib.hid (bkeep hb5 HF3.out)
  have HL5 := Lib.hid (show w3.heap.size ≤ w4.heap.size from hb4.size)
  clear hb4 hb5
  have c1 := rowcell HF5.out
  go_wp2_with fail
  generalize hN4 : w4.heap.size = n4 at *
  generalize w4.alloc (.cells #[.int .u8 0, .int .u16 0] 84) = w5 at *
  have HA5 := Lib.hid ha5
  have HLX := Lib.hid (show g < n4 ∧ gm < n4 from by have h1 := HT3.out.row.lt; have h2 := HT3.out.mp.lt; have := HL5.out; omega)
  clear ha5 hN4 c1
  have HM := Lib.hid hm
  clear hm
  refine (frameByte_nil _ p j).mono ?_; rintro e w6 ⟨rfl, hb6⟩
  have HT6 := Lib.hid (HT5.out.keep hb6)
  have HB6 := Lib.hid (bnext HB5.out hb6)
  have HF6 := Lib.hid (bkeep hb6 HF5.out)
  have HA6 := Lib.hid (bkeep hb6 HA5.out)
  clear hb6
  go_wp2_with fail
  refine (frameTake_no HP.out HB6.out HT6.out i (by rw [← HN.out]; simp [inB]; omega)).mono ?_
  rintro e w7 ⟨rfl, hb7⟩
  unfold markV
  have ha8 := heap_alloc_last w7 (.cells #[.int .u8 0, .int .u16 0] 84)
  have hb8 := bnewAfter hb7 (.cells #[.int .u8 0, .int .u16 0] 84)
  have HT8 := Lib.hid (HT6.out.keep hb8)
  have HB8 := Lib.hid (bnext HB6.out hb8)
  have HF8 := Lib.hid (bkeep hb8 HF6.out)
  have HA8 := Lib.hid (bkeep hb8 HA6.out)
  clear hb7 hb8
  go_wp2_with fail
  generalize hN7 : w7.heap.size = n7 at *
  generalize w7.alloc (.cells #[.int .u8 0, .int .u16 0] 84) = w8 at *
  have HZ8 := Lib.hid ha8
  clear ha8 hN7
  refine (HP.out.len _ HB8.out).mono ?_; rintro e w9 ⟨rfl, rfl⟩
  rw [← HN.out]
  have ha9 := heap_alloc_last w8 (.cells #[.int .u8 p.1, .int .u16 m] 84)
  have hb9 := bnew w8 (.cells #[.int .u8 p.1, .int .u16 m] 84)
  have HT9 := Lib.hid (HT8.out.keep hb9)
  have HB9 := Lib.hid (bnext HB8.out hb9)
  have HF9 := Lib.hid (bkeep hb9 HF8.out)
  have HA9 := Lib.hid (bkeep hb9 HA8.out)
  have HZ9 := Lib.hid (bkeep hb9 HZ8.out)
  have HO9 := Lib.hid ha9
  clear hb9 ha9
  have c1 := rowcell HF8.out
  have c2 := HM.out
  have c3 := rowcell HA9.out
  have c4 := rowcell HF9.out
  go_wp2_with fail
  generalize hN8 : w8.heap.size = n8 at *
  generalize w8.alloc (.cells #[.int .u8 p.1, .int .u16 m] 84) = x0 at *
  clear c1 c2 c3 c4

  refine (frameGive_nil _ p).mono ?_; rintro e x1 ⟨rfl, hbx⟩
  have HTx1 := Lib.hid (HT9.out.keep hbx)
  have HBx1 := Lib.hid (bnext HB9.out hbx)
  have HFx1 := Lib.hid (bkeep hbx HF9.out)
  have HAx1 := Lib.hid (bkeep hbx HA9.out)
  have HZx1 := Lib.hid (bkeep hbx HZ9.out)
  have HOx1 := Lib.hid (bkeep hbx HO9.out)
  clear hbx HT9 HB9 HF9 HA9 HZ9 HO9
  have HT9 := Lib.hid HTx1.out
  clear HTx1
  have HB9 := Lib.hid HBx1.out
  clear HBx1
  have HF9 := Lib.hid HFx1.out
  clear HFx1
  have HA9 := Lib.hid HAx1.out
  clear HAx1
  have HZ9 := Lib.hid HZx1.out
  clear HZx1
  have HO9 := Lib.hid HOx1.out
  clear HOx1
  have c1 := rowcell HF9.out
  have c2 := rowcell HA9.out
  have c3 := rowcell HO9.out
  have c4 := rowcell HZ9.out
  go_wp2_with fail
  clear c1 c2 c3 c4
  refine (frameSet_nil _ p j c).mono ?_; rintro e x2 ⟨rfl, hbx⟩
  have HTx2 := Lib.hid (HT9.out.keep hbx)
  have HBx2 := Lib.hid (bnext HB9.out hbx)
  have HFx2 := Lib.hid (bkeep hbx HF9.out)
  have HAx2 := Lib.hid (bkeep hbx HA9.out)
  have HZx2 := Lib.hid (bkeep hbx HZ9.out)
  have HOx2 := Lib.hid (bkeep hbx HO9.out)
  clear hbx HT9 HB9 HF9 HA9 HZ9 HO9
  have HT9 := Lib.hid HTx2.out
  clear HTx2
  have HB9 := Lib.hid HBx2.out
  clear HBx2
  have HF9 := Lib.hid HFx2.out
  clear HFx2
  have HA9 := Lib.hid HAx2.out
  clear HAx2
  have HZ9 := Lib.hid HZx2.out
  clear HZx2
  have HO9 := Lib.hid HOx2.out
  clear HOx2
  have c1 := rowcell HF9.out
  have c2 := rowcell HA9.out
  have c3 := rowcell HO9.out
  have c4 := rowcell HZ9.out
  go_wp2_with fail
  clear c1 c2 c3 c4
  refine (frameCopy_nil _ p p).mono ?_; rintro e x3 ⟨rfl, hbx⟩
  have HTx3 := Lib.hid (HT9.out.keep hbx)
  have HBx3 := Lib.hid (bnext HB9.out hbx)
  have HFx3 := Lib.hid (bkeep hbx HF9.out)
  have HAx3 := Lib.hid (bkeep hbx HA9.out)
  have HZx3 := Lib.hid (bkeep hbx HZ9.out)
  have HOx3 := Lib.hid (bkeep hbx HO9.out)
  clear hbx HT9 HB9 HF9 HA9 HZ9 HO9
  have HT9 := Lib.hid HTx3.out
  clear HTx3
  have HB9 := Lib.hid HBx3.out
  clear HBx3
  have HF9 := Lib.hid HFx3.out
  clear HFx3
  have HA9 := Lib.hid HAx3.out
  clear HAx3
  have HZ9 := Lib.hid HZx3.out
  clear HZx3
  have HO9 := Lib.hid HOx3.out
  clear HOx3
  have c1 := rowcell HF9.out
  have c2 := rowcell HA9.out
  have c3 := rowcell HO9.out
  have c4 := rowcell HZ9.out
  go_wp2_with fail
  clear c1 c2 c3 c4
  refine (frameUsed_nil _ i).mono ?_; rintro e x4 ⟨rfl, rfl⟩
  have c1 := rowcell HF9.out
  have c2 := rowcell HA9.out
  have c3 := rowcell HO9.out
  have c4 := rowcell HZ9.out
  go_wp2_with fail
  clear c1 c2 c3 c4
  refine (frameRoom_nil _ i).mono ?_; rintro e x5 ⟨rfl, rfl⟩
  have c1 := rowcell HF9.out
  have c2 := rowcell HA9.out
  have c3 := rowcell HO9.out
  have c4 := rowcell HZ9.out
  go_wp2_with fail
  clear c1 c2 c3 c4
  refine (frameGive_none HT9.out (p.1, m) (by show p.1 ≤ 255; omega) (by show m ≤ 65535; omega) rfl).mono ?_; rintro e x6 ⟨rfl, hbx⟩
  have HTx6 := Lib.hid (HT9.out.keep hbx)
  have HBx6 := Lib.hid (bnext HB9.out hbx)
  have HFx6 := Lib.hid (bkeep hbx HF9.out)
  have HAx6 := Lib.hid (bkeep hbx HA9.out)
  have HZx6 := Lib.hid (bkeep hbx HZ9.out)
  have HOx6 := Lib.hid (bkeep hbx HO9.out)
  clear hbx HT9 HB9 HF9 HA9 HZ9 HO9
  have HT9 := Lib.hid HTx6.out
  clear HTx6
  have HB9 := Lib.hid HBx6.out
  clear HBx6
  have HF9 := Lib.hid HFx6.out
  clear HFx6
  have HA9 := Lib.hid HAx6.out
  clear HAx6
  have HZ9 := Lib.hid HZx6.out
  clear HZx6
  have HO9 := Lib.hid HOx6.out
  clear HOx6
  have c1 := rowcell HF9.out
  have c2 := rowcell HA9.out
  have c3 := rowcell HO9.out
  have c4 := rowcell HZ9.out
  go_wp2_with fail
  clear c1 c2 c3 c4
  have hcp := frameCopy_none HT9.out (p.1, m) (0, 0) p1 hm1 (by show _ ≤ 255; omega) (Nat.zero_le _) rfl
  simp only [markV, Int.ofNat_zero, Int.natCast_zero] at hcp
  refine hcp.mono ?_; rintro e y1 ⟨rfl, hTy, hdy⟩
  clear hcp
  have HTy := Lib.hid hTy
  have HBy := Lib.hid (Duo.next HB9.out hdy HGG.out.1 HGG.out.2)
  clear hTy hdy
  go_wp2_with fail
  refine (frameUsed_zero HTy.out (fun _ _ => rfl) i).mono ?_; rintro e y2 ⟨rfl, rfl⟩
  go_wp2_with fail
  refine (frameRoom_no HP.out HBy.out HTy.out i (by rw [← HN.out]; simp [inB]; omega)).mono ?_; rintro e y3 ⟨rfl, hb3y⟩
  have HBz := Lib.hid (bnext HBy.out hb3y)
  clear hb3y
  go_wp2_with fail
  go_ret
  exact ⟨ret_bool (by simp; omega), by rw [HG.out]; exact HB2.out.trans (HBz.out.mono (by have := HLT.out; omega))⟩
end Go.Proofs.Ytfnkbgcgajgppaa
