/- Bits: the document's Bit; BitsPlaces. -/
import Derived.Test.YtonfnlohbgbffaaBitG
import Derived.Test.YtonfnlohbgbffaaPgs
set_option linter.unusedVariables false
set_option linter.unusedSimpArgs false
namespace Go.Proofs.Ytonfnlohbgbffaa
open Go.RowKit
open Go.Maps (Keyed)

set_option maxRecDepth 20000 in
set_option maxHeartbeats 2000000 in
theorem refBit_in {w : World} {v : Value} {n : Nat} {V : Nat → Nat → Nat} (hs : SR w v n 64 (pgsV n V)) (hV : ∀ k i, V k i ≤ 255) (first i : Nat) (hi : i < 65536) (hf : first < 65536) (hn : first + i / 512 < n) :
    Calls Try.prog 27 #[v, .int .i64 first, .int .i64 i] w fun e w' => e = .returned (.bool (bitV V first i)) ∧ Below w.heap.size w w' := by
  obtain ⟨g, off, cap, rfl, hc1, hc2, hg, hc⟩ := hs.page (first + i / 512) hn
  have hcap : cap ≤ 9223372036854775807 := hc2
  have hx0 := hV (first + i / 512) (i / 8 % 64)
  obtain ⟨b, hb⟩ : ∃ c, c = bitV V first i := ⟨_, rfl⟩
  rw [← hb]
  have HB := Lib.hid hb
  obtain ⟨p, hp⟩ : ∃ p, p = first + i / 512 := ⟨_, rfl⟩
  obtain ⟨q, hq⟩ : ∃ q, q = i / 8 % 64 := ⟨_, rfl⟩
  obtain ⟨r, hr⟩ : ∃ r, r = i % 8 := ⟨_, rfl⟩
  obtain ⟨x, hx⟩ : ∃ x, x = V p q := ⟨_, rfl⟩
  have HX := Lib.hid (show b = x.testBit r by rw [hb, hx, hp, hq, hr]; rfl)
  have hx255 : x ≤ 255 := by rw [hx, hp, hq]; exact hx0
  have f1 : (first : Int) + (i : Int) / 512 = (p : Int) := by omega
  have f1' : (first : Int) + (i : Int).tdiv 512 = (p : Int) := by rw [Int.tdiv_eq_ediv_of_nonneg (by omega)]; omega
  have f2 : (i : Int) / 8 % 64 = (q : Int) := by omega
  have f3 : (i : Int) % 8 = (r : Int) := by omega
  have hq64 : q < 64 := by omega
  have hr8 : r < 8 := by omega
  rw [← hp] at hn hc
  have HC := Lib.hid hc
  have HQ := Lib.hid hx
  clear hs hV hb hp hq hr hx hc hx0 hc2
  go_enter Try.func27, Try.ntmps27
  go_wp2_with (first
    | (refine wpList_load_pieceTo rfl 52 (.tmp 13) rfl (some 14) rfl g (off + p * 64) (by go_simp) (rowArr 64 (pgC (V p))) _ HC.out block_under rfl (by rw [rowArr_size]; exact block_size) ?_)
    | (refine wpList_new_row rfl 52 rfl (some 7) rfl 64 _ page_zero ?_; intro w1 G hG hr1 hb1; have HG := Lib.hid hG; have HR := Lib.hid hr1; have HB1 := Lib.hid hb1; clear hr1 hb1 hG)
    | (refine wpList_row_store rfl 52 (.tmp 7) (.tmp 14) rfl rfl G 64 _ (pgC (V p)) (by go_simp) (by go_simp) HR.out (fun _ _ => rfl) block_size ?_; intro w2 hr2 o2; have HB2 := Lib.hid (bone HB1.out o2 HG.out HB1.out.size); have c3 : w2.cell? ⟨G, q, none⟩ = some (.int .u8 x) := by { rw [HQ.out]; exact hr2.cell hq64 }
       clear hr2 o2))
  go_ret
  exact ⟨ret_bool (by rw [HX.out]; exact shr_bit x r), HB2.out⟩
/-- A map of bits with its blocks. -/
structure BF (W w : World) (gd gb gl gt gm g first n q : Nat) (F : Int → Option (Nat → Nat)) (C : Nat → Bool) : Prop where
  bx : BX w gd gb gl gt gm g 40 0 first n F 0 (freshD 0) (-1) false
  mp : MB w Try.prog 3 q kvI boolV (takenF n C)
  bl : Below W.heap.size W w
  lo : W.heap.size ≤ gd ∧ W.heap.size ≤ gb
  ns : ¬ dset gd gb q ∧ ¬ dset gd gb g
theorem BF.keep {W w w' : World} {gd gb gl gt gm g first n q : Nat} {F : Int → Option (Nat → Nat)} {C : Nat → Bool} (h : BF W w gd gb gl gt gm g first n q F C) (hb : Below w.heap.size w w') : BF W w' gd gb gl gt gm g first n q F C :=
  ⟨h.bx.keep hb, h.mp.keep hb, h.bl.trans (hb.mono h.bl.size), h.lo, h.ns⟩
theorem BF.step {W w w' : World} {gd gb gl gt gm g first n q : Nat} {F : Int → Option (Nat → Nat)} {C : Nat → Bool} (h : BF W w gd gb gl gt gm g first n q F C) (ht : TX w' gd gb gl gt gm 40 0 F 0 (freshD 0) (-1) false) (c : Chg (dset gd gb) w w') : BF W w' gd gb gl gt gm g first n q F C :=
  ⟨h.bx.step ht c h.ns.2, h.mp.chg c h.ns.1, Chg.go h.bl c (fun k hk => by rcases hk with rfl | rfl; exact h.lo.1; exact h.lo.2) h.bl.size, h.lo, h.ns⟩
theorem takenV (n : Nat) (B : Nat → Bool) (i : Nat) (hi : i < n) : lkV boolV (.bool false) false (takenF n B (i : Int)) = .bool (B i) := by
  cases h : B i
  · rw [taken_no i h]; rfl
  · rw [taken_yes i hi h]; rfl
set_option maxRecDepth 100000 in
set_option maxHeartbeats 16000000 in
theorem bitsPlaces_walk (W : World) (v0 v1 : Value) (o0 : Arg Try.prog W 5 v0) (o1 : Arg Try.prog W 40 v1) :
    Calls Try.prog 4 #[v0, v1] W fun e w' => e = .returned (.bool true) ∧ Below W.heap.size W w' := by
  obtain ⟨x, rfl, hx⟩ := Arg.int Try.underlying5 o0
  obtain ⟨zs, hzs⟩ := SI.of_arg Try.underlying40 Try.underlying23 (by kernel_rfl) o1
  have hx2 := wf_u8 hx
  obtain ⟨n, hn⟩ : ∃ n : Nat, (n : Int) = 31 + x % 4 := ⟨(31 + x % 4).toNat, by omega⟩
  have hn1 : 31 ≤ n ∧ n ≤ 34 := by omega
  obtain ⟨A, cap, hform, hlc, hcm⟩ := hzs.sr.form
  subst hform
  have HZS := Lib.hid hzs
  have f1 : 31 + x % 4 = (n : Int) := hn.symm
  have f2 : 31 + x.tmod 4 = (n : Int) := by rw [Int.tmod_eq_emod_of_nonneg (by omega)]; omega
  have hx0 := hx2.1
  have hx1 := hx2.2
  have hnl := hn1.1
  have hnu := hn1.2
  have hcap : cap ≤ 9223372036854775807 := hcm
  clear o0 o1 hzs hx hx2 hn hcm hn1
  go_enter Try.func4, Try.ntmps4
  go_wp2_with fail
  refine (bitsAwake_in W).mono ?_
  rintro e w1 ⟨rfl, hb1⟩
  have hmm := @run_makeMap Try.prog
  go_wp2_with fail
  refine (begun_in w1).mono ?_
  rintro e w2 ⟨gd, gb, gl, gt, gm, rfl, ht2⟩
  go_wp2_with fail
  refine (bkNew ht2 n 1500 (by omega) (by omega) (fun i hi => by omega) (by omega)).mono ?_
  rintro e w3 ⟨g, rfl, hk3⟩
  have hk3' : BK W w3 gd gb gl gt gm g n 1500 (fun _ => false) := ⟨hk3.ex, hb1.trans (hk3.bl.mono hb1.size), ⟨Nat.le_trans hb1.size hk3.lo.1, Nat.le_trans hb1.size hk3.lo.2.1, Nat.le_trans hb1.size hk3.lo.2.2.1, Nat.le_trans hb1.size hk3.lo.2.2.2.1, Nat.le_trans hb1.size hk3.lo.2.2.2.2.1, Nat.le_trans hb1.size hk3.lo.2.2.2.2.2⟩, hk3.h3, hk3.hm, hk3.hf⟩
  have hfb : FB W (w3.alloc (.map #[] 0)) gd gb gl gt gm g n 1500 w3.heap.size (fun _ => false) (fun _ => false) :=
    ⟨hk3'.keep (bnew _ _), (MB.made w3).congr (fun a => by unfold takenF; simp), (Nat.ne_of_lt hk3'.lt.2.2.2.2.1).symm, hk3'.bl.size⟩
  have HFB := Lib.hid hfb
  clear hk3 hk3' ht2 hb1 hfb
  go_wp2_with fail
  clear hmm
  generalize w3.heap.size = q at *
  generalize w3.alloc (.map #[] 0) = w4 at *
  go_loopw [37] (fun r wx => ∃ (k : Nat) (B : Nat → Bool), k ≤ zs.length ∧ r = .int .i64 k ∧ FB W wx gd gb gl gt gm g n 1500 q B B) (fun r _ => zs.length - (intOf r).toNat)
  case atStart => exact ⟨0, _, by omega, rfl, HFB.out⟩
  case round =>
    obtain ⟨k, B, hk, rfl, hfb⟩ := hrel
    have HF := Lib.hid hfb
    clear hfb HFB
    by_cases hkl : k < zs.length
    · have g1 : (k : Int) < zs.length := by omega
      rcases (HZS.out.keep HF.out.bk.bl).cases with ⟨h, _⟩ | ⟨_, gz, off, c1, hs, _, _, hg, hc⟩
      · rw [h] at hkl; simp at hkl
      cases hs
      have hcz := hc k hkl
      have hwf := wf_u16 (HZS.out.wf (zs.getD k 0) (by rw [List.getD_eq_getElem?_getD, List.getElem?_eq_getElem hkl]; exact List.getElem_mem hkl))
      obtain ⟨z, hz⟩ : ∃ z : Int, z = zs.getD k 0 := ⟨_, rfl⟩
      rw [← hz] at hcz hwf
      have hz0 := hwf.1
      have hz1 := hwf.2
      obtain ⟨y, hy⟩ : ∃ y : Nat, (y : Int) = z % 1500 := ⟨(z % 1500).toNat, by omega⟩
      have hy15 : y < 1500 := by omega
      have f3 : z % 1500 = (y : Int) := hy.symm
      have f4 : z.tmod 1500 = (y : Int) := by rw [Int.tmod_eq_emod_of_nonneg (by omega)]; omega
      clear hc hz hwf hy
      by_cases hk40 : k < 40
      · have g2 : (k : Int) < 40 := by omega
        go_wp2_with fail
        refine (bkSet HF.out.bk y hy15 true).mono ?_
        rintro e w5 ⟨rfl, hk5, hc5⟩
        have HF5 := Lib.hid (HF.out.setB hk5 hc5)
        clear hk5 hc5 hcz
        obtain ⟨l, hl⟩ := key_int y (by omega)
        have HK := Lib.hid hl
        clear hl
        go_wp2_with (refine wpList_update_mb (by kernel_rfl) rfl HF5.out.mp keyedInt kvI_inj Try.underlying48 _ _ _ rfl (by go_simp) (y : Int) (by go_simp; rfl) HK.out true (by go_simp; rfl) ?_; intro w6 hm6 o6; have HF6 := Lib.hid (HF5.out.setC o6 (hm6.congr (fun a => takenF_put 1500 B y hy15 a))); clear hm6 o6)
        go_roundw
        case rel => exact ⟨k + 1, _, by omega, by go_num, HF6.out⟩
        case measure => simp [intOf]; omega
      · have g2 : ¬ (k : Int) < 40 := by omega
        go_wp2_with fail
        go_roundw
        case rel => exact ⟨k + 1, _, by omega, by go_num, HF.out⟩
        case measure => simp [intOf]; omega
    · obtain rfl : k = zs.length := by omega
      obtain ⟨F, hbx, hbit, hkeys⟩ := HF.out.bk.ex
      have hno := HF.out.bk.notMap HF.out.mp HF.out.ne
      have hF : BF W wr gd gb gl gt gm g n 1500 q F B := ⟨hbx, HF.out.mp, HF.out.bk.bl, ⟨HF.out.bk.lo.1, HF.out.bk.lo.2.1⟩, fun e => hno.2 (.inl e), fun e => by have := hbx.ne; rcases e with e | e; exact this.1 e; exact this.2.1 e⟩
      have HB := Lib.hid hF
      have HBIT := Lib.hid hbit
      have HVU := Lib.hid (fun k i => viewB_u8 hbx.tx k i)
      have HDS := Lib.hid (show ∀ k, wr.heap.size ≤ k → ¬ dset gd gb k from fun k hk e => by have := hbx.tx.lt; rcases e with e | e <;> omega)
      have HLT := Lib.hid (And.intro hbx.tx.lt (And.intro hbx.lt HF.out.mp.mp.lt))
      clear hbx hbit hkeys hno hF HF HZS
      obtain ⟨V, hV⟩ : ∃ V, V = viewB F (freshD 0) := ⟨_, rfl⟩
      rw [← hV] at HBIT HVU
      have HV := Lib.hid hV
      clear hV
      go_wp2_with fail
      obtain ⟨wo, hwo⟩ : ∃ wo, wo = wr := ⟨_, rfl⟩
      subst hwo
      go_loopw [13, 54] (fun v r wx => ∃ k : Nat, k ≤ 40 ∧ r = .int .i64 k ∧ OwnP wx wo.heap.size v k V ∧ BF W wx gd gb gl gt gm g n 1500 q F B ∧ wo.heap.size ≤ wx.heap.size) (fun _ r _ => 40 - (intOf r).toNat)
      case atStart => exact ⟨0, by omega, rfl, OwnP.nil _ _ _, HB.out, Nat.le_refl _⟩
      case round =>
        obtain ⟨k, hk, rfl, hown, hbf, hsz⟩ := hrel
        obtain ⟨A1, c1, hform1⟩ := hown.form
        subst hform1
        have HOWN := Lib.hid hown
        have HBF := Lib.hid hbf
        have HSZ := Lib.hid hsz
        clear hown hbf hsz
        by_cases hk40 : k < 40
        · have g1 : (k : Int) < 40 := by omega
          go_wp2_with fail
          refine (txnGet_ok HBF.out.bx.tx k (by omega)).mono ?_
          rintro e w5 ⟨rfl, ht5, hc5⟩
          rw [← HV.out]
          have HBF5 := Lib.hid (HBF.out.step ht5 hc5)
          have HOW5 := Lib.hid (HOWN.out.chg hc5 HDS.out)
          have HSZ5 := Lib.hid (Nat.le_trans HSZ.out hc5.size)
          clear ht5 hc5
          go_wp2_with (with_reducible refine wpList_stop (some 15) rfl ?_)
          refine Lib.hid ?_
          refine wpList_new_row rfl 52 rfl (some 15) rfl 64 _ page_zero ?_
          intro w6 G hg6 hr6 hb6
          have HR6 := Lib.hid hr6
          have HBF6 := Lib.hid (HBF5.out.keep hb6)
          have HOW6 := Lib.hid (HOW5.out.keep hb6)
          have HSZ6 := Lib.hid (Nat.le_trans HSZ5.out hb6.size)
          have HGN := Lib.hid (show ∀ x, (Value.slice A1 k c1).ownBlock = some x → x ≠ G from fun x hx => Nat.ne_of_lt (Nat.lt_of_lt_of_le (HOW5.out.lt x hx).2 hg6))
          have HG6 := Lib.hid (Nat.le_trans HSZ5.out hg6)
          clear hr6 hb6 hg6
          refine wpList_row_store rfl 52 (.tmp 15) (.tmp 61) rfl rfl G 64 _ (pgC (V k)) (by go_simp) (by go_simp; rfl) HR6.out (fun _ _ => rfl) block_size ?_
          intro w7 hr7 o7
          have HR7 := Lib.hid hr7
          have hbf7 : BF W w7 gd gb gl gt gm g n 1500 q F B := by
            have h := HBF6.out
            have hl := HLT.out
            have hg := HG6.out
            exact ⟨h.bx.newOne o7 hg hl.2.1 hl.1, h.mp.one o7 (by omega), bone h.bl o7 (Nat.le_trans HB.out.bl.size hg) h.bl.size, h.lo, h.ns⟩
          have HBF7 := Lib.hid hbf7
          have HOW7 := Lib.hid (show OwnP w7 wo.heap.size (.slice A1 k c1) k V from own_one HOW6.out o7 (fun x hx e => HGN.out x hx (by cases e; rfl)))
          have HSZ7 := Lib.hid (Nat.le_trans HSZ6.out o7.size)
          clear hr7 o7 hbf7
          go_wp2_with (first
            | (refine wpList_row_load (by kernel_rfl) 52 (.tmp 15) rfl (some 64) rfl G 64 (pgC (V k)) (by go_simp) HR7.out _ block_under rfl block_size ?_)
            | (with_reducible refine wpList_stop (some 65) rfl ?_))
          refine Lib.hid ?_
          refine wpList_lit_page rfl (.tmp 64) rfl (some 65) rfl (V k) (by go_simp) ?_
          intro w8 u hu hb8
          have HBF8 := Lib.hid (HBF7.out.keep hb8)
          have HOW8 := Lib.hid (HOW7.out.keep hb8)
          have HSZ8 := Lib.hid (Nat.le_trans HSZ7.out hb8.size)
          refine wpList_add_page rfl (.tmp 63) (.tmp 65) rfl (some 66) rfl wo.heap.size (.slice A1 k c1) u k V (by go_simp) (by go_simp) HOW8.out hu (by omega) HSZ8.out ?_
          intro v9 w9 ho9 o9
          obtain ⟨A9, c9, hform9⟩ := ho9.form
          subst hform9
          have HOW9 := Lib.hid ho9
          have HOB := Lib.hid (show ∀ x, (Value.slice A1 k c1).ownBlock = some x → wo.heap.size ≤ x from fun x hx => (HOW8.out.lt x hx).1)
          have hbf9 : BF W w9 gd gb gl gt gm g n 1500 q F B := by
            have h3 := HBF8.out
            have hl := HLT.out
            have hk : ∀ b, b < wo.heap.size → w9.heap[b]? = w8.heap[b]? := fun b hb => o9.block b (Nat.lt_of_lt_of_le hb HSZ8.out) (fun e => by have := HOB.out b e; omega)
            exact ⟨⟨⟨⟨h3.bx.tx.lx.dx.keepAt (hk _ hl.1.1) (hk _ hl.1.2.1), h3.bx.tx.lx.lg.of_block (hk _ hl.1.2.2.1), h3.bx.tx.lx.fit⟩, h3.bx.tx.tx.of_block (hk _ hl.1.2.2.2.1), h3.bx.tx.mp.keepAt (hk _ hl.1.2.2.2.2), h3.bx.tx.ok⟩, h3.bx.bm.of_block (hk _ hl.2.1), h3.bx.h1, h3.bx.h2⟩, h3.mp.keepAt (hk _ hl.2.2), h3.bl.trans (o9.toBelow (fun x hx => Nat.le_trans HB.out.bl.size (HOB.out x hx)) h3.bl.size), h3.lo, h3.ns⟩
          have HBF9 := Lib.hid hbf9
          have HSZ9 := Lib.hid (Nat.le_trans HSZ8.out o9.size)
          clear hu hb8 ho9 o9 hbf9
          go_wp2_with fail
          go_roundw
          case rel => exact ⟨k + 1, by omega, by go_num, HOW9.out, HBF9.out, HSZ9.out⟩
          case measure => simp [intOf]; omega
        · obtain rfl : k = 40 := by omega
          have HSR := Lib.hid HOWN.out.sr
          go_wp2_with fail
          obtain ⟨wp, hwp⟩ : ∃ wp, wp = wr := ⟨_, rfl⟩
          subst hwp
          go_loopw [68] (fun r wx => ∃ k : Nat, k ≤ 1500 ∧ r = .int .i64 k ∧ Below wp.heap.size wp wx) (fun r _ => 1500 - (intOf r).toNat)
          case atStart => exact ⟨0, by omega, rfl, Below.refl _ _⟩
          case round =>
            obtain ⟨k, hk2, rfl, hbl⟩ := hrel
            have HBL := Lib.hid hbl
            clear hbl
            by_cases hk15 : k < 1500
            · have g2 : (k : Int) < 1500 := by omega
              have HTV := Lib.hid (takenV 1500 B k hk15)
              have HBT := Lib.hid (HBIT.out k)
              obtain ⟨b, hb⟩ : ∃ b, b = B k := ⟨_, rfl⟩
              rw [← hb] at HTV HBT
              obtain ⟨ly, hly⟩ := key_int k (by omega)
              have HKY := Lib.hid hly
              have hbb : (b != b) = false := by simp
              clear hb hly
              go_upto_region 24 with fail
              have hS : Below wp.heap.size wp (World.drew wr) := bdrawn HBL.out
              refine wp_region_held (S := fun w' => Below wp.heap.size wp w') (by kernel_rfl) ?_
              change wpAnyH _ _ _ _ _ _ _ _ (World.drew _)
              refine takeH 0 (.slice A1 40 c1) (some 71) rfl rfl (by kernel_rfl) (by kernel_rfl) (by kernel_rfl) (fun _ _ _ h => h) (.inl ⟨by kernel_rfl, fun w _ => by go_simp⟩) hS ?_
              refine takeH 1 (.int .i64 n) (some 72) rfl rfl (by kernel_rfl) (by kernel_rfl) (by kernel_rfl) (fun _ _ _ h => h) (.inl ⟨by kernel_rfl, fun w _ => by go_simp⟩) hS ?_
              refine takeH 2 (.int .i64 k) (some 73) rfl rfl (by kernel_rfl) (by kernel_rfl) (by kernel_rfl) (fun _ _ _ h => h) (.inl ⟨by kernel_rfl, fun w _ => by go_simp⟩) hS ?_
              refine takeH 4 (.map (some q)) (some 75) rfl rfl (by kernel_rfl) (by kernel_rfl) (by kernel_rfl) (fun _ _ _ h => h) (.inl ⟨by kernel_rfl, fun w _ => by go_simp⟩) hS ?_
              refine takeH 5 (.int .i64 k) (some 76) rfl rfl (by kernel_rfl) (by kernel_rfl) (by kernel_rfl) (fun _ _ _ h => h) (.inl ⟨by kernel_rfl, fun w _ => by go_simp⟩) hS ?_
              refine takeH 6 (.bool b) (some 77) rfl rfl (by kernel_rfl) (by kernel_rfl) (by kernel_rfl) (fun _ _ _ h => h) (.inl ⟨by kernel_rfl, fun w hw => by rw [← HTV.out]; exact (HBF.out.mp.keep hw).mp.exec_lookup keyedInt kvI_inj Try.underlying48 bool_z _ _ false rfl (by go_simp) (k : Int) (by go_simp; rfl) HKY.out⟩) hS ?_
              refine callH 3 rfl (by kernel_rfl) (by kernel_rfl) (some 74) rfl 27 #[.slice A1 40 c1, .int .i64 n, .int .i64 k] ?hrun ((refBit_in (HSR.out.keep hS) HVU.out n k (by omega) (by omega) (by omega)).mono ?_)
              case hrun => go_simp
              rintro e w6 ⟨rfl, hb6⟩
              rw [HBT.out]
              have hS2 : Below wp.heap.size wp w6 := hS.trans (hb6.mono hS.size)
              clear hS
              have hS := hS2
              clear hS2 hb6
              refine ⟨_, rfl, hS, ?_⟩
              go_simp
              refine takeH 7 (.bool false) (some 78) rfl rfl (by kernel_rfl) (by kernel_rfl) (by kernel_rfl) (fun _ _ _ h => h) (.inl ⟨by kernel_rfl, fun w _ => by go_simp⟩) hS ?_
              refine wpAnyH_done (by kernel_rfl) ?_ _
              go_simp
              go_wp2_with fail
              go_roundw
              case rel =>
                repeat apply Exists.intro
                exact ⟨⟨k + 1, by omega, by go_num, hS⟩, rfl⟩
              case measure => simp [intOf]; omega
            · obtain rfl : k = 1500 := by omega
              go_wp2_with fail
              go_ret
              exact ⟨rfl, (HBF.out.keep HBL.out).bl⟩
end Go.Proofs.Ytonfnlohbgbffaa
