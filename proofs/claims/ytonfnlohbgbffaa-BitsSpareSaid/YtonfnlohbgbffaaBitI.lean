/- Bits: BitsSpare. -/
import Derived.Test.YtonfnlohbgbffaaBitF
set_option linter.unusedVariables false
set_option linter.unusedSimpArgs false
namespace Go.Proofs.Ytonfnlohbgbffaa
open Go.RowKit
open Go.Maps (Keyed)

theorem setFn_same {F : Int → Option (Nat → Nat)} {D : Nat → Nat → Nat} {first i : Nat} {on : Bool} (h : bitV (viewB F D) first i = on) : setFn F D first i on = F := if_pos h
theorem spare_keys (n : Nat) (on : Bool) (k : Int) : setFn (fun _ => none) (freshD 0) 33 n on k ≠ none ↔ (on = true ∧ k = ((33 + n / 512 : Nat) : Int)) := by
  unfold setFn
  rw [bit_fresh 33 (by omega)]
  cases on
  · rw [if_pos rfl]
    exact ⟨fun h => absurd rfl h, fun h => by cases h.1⟩
  · rw [if_neg (by decide)]
    unfold putF
    by_cases h : k = ((33 + n / 512 : Nat) : Int)
    · rw [if_pos h]
      exact ⟨fun _ => ⟨rfl, h⟩, fun _ e => by cases e⟩
    · rw [if_neg h]
      exact ⟨fun e => absurd rfl e, fun e => absurd e.2 h⟩
theorem spare_len {w : World} {gm : Nat} {P : Program} {t : TypeId} (n : Nat) (on : Bool) (h : MK w P t gm kvI pageV (setFn (fun _ => none) (freshD 0) 33 n on)) : mapN w gm = if on then 1 else 0 := by
  cases on
  · have := h.len_le [] (fun a ha => by have := ((spare_keys n false a).1 ha).1; cases this)
    simpa using this
  · have h1 := h.len_le [((33 + n / 512 : Nat) : Int)] (fun a ha => by rw [((spare_keys n true a).1 ha).2]; exact List.mem_singleton.2 rfl)
    have h2 := h.len_ge kvI_inj [((33 + n / 512 : Nat) : Int)] (by simp) (fun a ha => (spare_keys n true a).2 ⟨rfl, List.mem_singleton.1 ha⟩)
    rw [if_pos rfl]
    simp only [List.length_singleton] at h1 h2
    omega
def fillB (k i : Nat) : Nat := if i < k then 255 else 0
theorem fullBit (B : Nat → Bool) (h : ∀ i, i < 5 → B i = true) : cntB B 5 = 5 ∧ (setL B 5).length = 5 ∧ ∀ r, FreeR B 5 r → r = -1 := by
  have h0 := h 0 (by omega)
  have h1 := h 1 (by omega)
  have h2 := h 2 (by omega)
  have h3 := h 3 (by omega)
  have h4 := h 4 (by omega)
  have e : (List.range 5).filter B = [0, 1, 2, 3, 4] := by
    rw [show List.range 5 = [0, 1, 2, 3, 4] from rfl]
    simp [List.filter_cons, h0, h1, h2, h3, h4]
  refine ⟨by unfold cntB; rw [e]; rfl, by unfold setL; rw [e]; rfl, fun r hr => ?_⟩
  rcases hr with ⟨rfl, _⟩ | ⟨i, rfl, g1, g2, _⟩
  · rfl
  · rw [h i g1] at g2; cases g2
/-- Its transaction's blocks, and a map's, are the call's own. -/
structure LO (W w : World) (gd gb gl gt gm g : Nat) : Prop where
  bl : Below W.heap.size W w
  lo : W.heap.size ≤ gd ∧ W.heap.size ≤ gb ∧ W.heap.size ≤ gl ∧ W.heap.size ≤ gt ∧ W.heap.size ≤ gm
theorem LO.chg {W w w' : World} {gd gb gl gt gm g : Nat} (h : LO W w gd gb gl gt gm g) {S : Nat → Prop} (c : Chg S w w') (hS : ∀ k, S k → k = gd ∨ k = gb ∨ k = gm ∨ k = gt) : LO W w' gd gb gl gt gm g :=
  ⟨Chg.go h.bl c (fun k hk => by rcases hS k hk with rfl | rfl | rfl | rfl; exact h.lo.1; exact h.lo.2.1; exact h.lo.2.2.2.2; exact h.lo.2.2.2.1) h.bl.size, h.lo⟩
theorem LO.keep {W w w' : World} {gd gb gl gt gm g : Nat} (h : LO W w gd gb gl gt gm g) (hb : Below w.heap.size w w') : LO W w' gd gb gl gt gm g := ⟨h.bl.trans (hb.mono h.bl.size), h.lo⟩
set_option maxRecDepth 100000 in
set_option maxHeartbeats 16000000 in
theorem bitsSpare_walk (W : World) (v0 v1 : Value) (o0 : Arg Try.prog W 23 v0) (o1 : Arg Try.prog W 4 v1) :
    Calls Try.prog 8 #[v0, v1] W fun e w' => e = .returned (.bool true) ∧ Below W.heap.size W w' := by
  obtain ⟨x, rfl, hx⟩ := Arg.int Try.underlying23 o0
  obtain ⟨on, rfl⟩ := Arg.bool Try.underlying4 o1
  have hx2 := wf_u16 hx
  obtain ⟨n, hn⟩ : ∃ n : Nat, (n : Int) = x % 700 := ⟨(x % 700).toNat, by omega⟩
  have hn1 : n < 700 := by omega
  have f1 : x % 700 = (n : Int) := hn.symm
  have f2 : x.tmod 700 = (n : Int) := by rw [Int.tmod_eq_emod_of_nonneg (by omega)]; omega
  have hx0 := hx2.1
  have hx1 := hx2.2
  clear o0 o1 hx hx2 hn
  go_enter Try.func8, Try.ntmps8
  go_wp2_with fail
  refine (bitsAwake_in W).mono ?_
  rintro e w1 ⟨rfl, hb1⟩
  go_wp2_with fail
  refine (begun_in w1).mono ?_
  rintro e w2 ⟨gd, gb, gl, gt, gm, rfl, ht2⟩
  go_wp2_with fail
  refine (bitsNew_ok gt 33 700 (by omega) (by omega) w2).mono ?_
  rintro e w3 ⟨g, rfl, hr3, hg3, hb3⟩
  have hlo : LO W w3 gd gb gl gt gm g := ⟨(hb1.trans (ht2.bl.mono hb1.size)).trans (hb3.mono (Nat.le_trans hb1.size ht2.bl.size)), Nat.le_trans hb1.size ht2.lo.1, Nat.le_trans hb1.size ht2.lo.2.1, Nat.le_trans hb1.size ht2.lo.2.2.1, Nat.le_trans hb1.size ht2.lo.2.2.2.1, Nat.le_trans hb1.size ht2.lo.2.2.2.2⟩
  have HLO := Lib.hid hlo
  have hbx : BX w3 gd gb gl gt gm g 40 0 33 700 (fun _ => none) 0 (freshD 0) (-1) false := ⟨ht2.tx.keep hb3, hr3, by omega, by omega⟩
  have HBX := Lib.hid hbx
  have HM0 := Lib.hid (show mapN w3 gm ≠ 30 from few_keys (first := 0) hbx.tx.mp.mp (fun k hk => absurd rfl hk))
  clear ht2 hr3 hg3 hb3 hb1 hlo hbx
  go_wp2_with fail
  refine (bitsSet_ok HBX.out n hn1 (by omega) (.inr (by omega)) (.inr HM0.out) on).mono ?_
  rintro e w4 ⟨rfl, hx4, hc4⟩
  have HLO4 := Lib.hid (HLO.out.chg hc4 (fun k hk => by rcases hk with (h | h) | h; exact .inl h; exact .inr (.inl h); exact .inr (.inr (.inl h))))
  have hbit : bitV (viewB (setFn (fun _ => none) (freshD 0) 33 n on) (freshD 0)) 33 n = on := by rw [bitV_set, if_pos rfl]
  have hlen := spare_len n on hx4.tx.mp.mp
  have hky : ∀ k, setFn (fun _ => none) (freshD 0) 33 n on k ≠ none → k = ((33 + n / 512 : Nat) : Int) := fun k hk => ((spare_keys n on k).1 hk).2
  obtain ⟨F1, hF1⟩ : ∃ F1, F1 = setFn (fun _ => none) (freshD 0) 33 n on := ⟨_, rfl⟩
  rw [← hF1] at hx4 hbit hky
  have HKY := Lib.hid hky
  obtain ⟨nl, hnl⟩ : ∃ nl : Nat, nl = if on then 1 else 0 := ⟨_, rfl⟩
  rw [← hnl] at hlen
  have HBX4 := Lib.hid hx4
  have HBIT := Lib.hid hbit
  have HLEN := Lib.hid hlen
  have HNL := Lib.hid hnl
  clear hx4 hc4 hF1 hbit hlen hnl hky
  go_wp2_with fail
  refine (txnLen_ok HBX4.out.tx).mono ?_
  rintro e w5 ⟨rfl, rfl⟩
  rw [HLEN.out]
  go_wp2_with fail
  refine (bitsSet_ok HBX4.out n hn1 (by omega) (.inr (by omega)) (.inr (by rw [HLEN.out, HNL.out]; split <;> omega)) on).mono ?_
  rintro e w6 ⟨rfl, hx6, hc6⟩
  rw [setFn_same HBIT.out] at hx6
  have HLO6 := Lib.hid (HLO4.out.chg hc6 (fun k hk => by rcases hk with (h | h) | h; exact .inl h; exact .inr (.inl h); exact .inr (.inr (.inl h))))
  have HBX6 := Lib.hid hx6
  clear hx6 hc6
  go_wp2_with (first
    | (refine wpList_new_row rfl 52 rfl (some 13) rfl 64 _ page_zero ?_; intro w7 G hG hr7 hb7; have HR7 := Lib.hid hr7; have HLO7 := Lib.hid (HLO6.out.keep hb7); have HBX7 := Lib.hid (HBX6.out.keep hb7); have HG := Lib.hid hG; clear hr7 hb7 hG))
  go_loopw [47] (fun r wx => ∃ k : Nat, k ≤ 64 ∧ r = .int .i64 k ∧ wx.rowIs G 52 64 (pgC (fillB k)) ∧ LO W wx gd gb gl gt gm g ∧ BX wx gd gb gl gt gm g 40 0 33 700 F1 0 (freshD 0) (-1) false) (fun r _ => 64 - (intOf r).toNat)
  case atStart => exact ⟨0, by omega, rfl, HR7.out.congr (fun i hi => by unfold pgC fillB; rw [if_neg (by omega)]), HLO7.out, HBX7.out⟩
  case round =>
    obtain ⟨k, hk, rfl, hr, hlo, hbx⟩ := hrel
    have HR := Lib.hid hr
    have HLO8 := Lib.hid hlo
    have HBX8 := Lib.hid hbx
    have HGW := Lib.hid (show W.heap.size ≤ G from Nat.le_trans HLO6.out.bl.size HG.out)
    by_cases hk64 : k < 64
    · have g1 : (k : Int) < 64 := by omega
      have c1 := hr.cell hk64
      have df := hr.frozen
      have HLT := Lib.hid (show gd < w6.heap.size ∧ gb < w6.heap.size ∧ gl < w6.heap.size ∧ gt < w6.heap.size ∧ gm < w6.heap.size ∧ g < w6.heap.size from ⟨HBX6.out.tx.lt.1, HBX6.out.tx.lt.2.1, HBX6.out.tx.lt.2.2.1, HBX6.out.tx.lt.2.2.2.1, HBX6.out.tx.lt.2.2.2.2, HBX6.out.lt⟩)
      unfold pgC at c1
      clear hr hlo hbx
      go_wp2_with fail
      go_roundw
      case rel =>
        have h1 := HG.out
        have h2 := HLT.out
        refine ⟨k + 1, by omega, by go_num, (HR.out.set k (.int .u8 255)).congr (fun i hi => ?_), ⟨bone HLO8.out.bl (one_setCell wr G k _) HGW.out HLO8.out.bl.size, HLO8.out.lo⟩, ?_⟩
        · unfold pgC fillB
          by_cases e : i = k
          · rw [if_pos e, if_pos (by omega)]; rfl
          · rw [if_neg e]
            by_cases e2 : i < k
            · rw [if_pos e2, if_pos (by omega)]
            · rw [if_neg e2, if_neg (by omega)]
        · exact ⟨HBX8.out.tx.one (one_setCell wr G k _) ⟨by omega, by omega, by omega, by omega, by omega⟩, rowIs_one HBX8.out.bm (one_setCell wr G k _) (by omega), HBX8.out.h1, HBX8.out.h2⟩
      case measure => simp [intOf]; omega
    · obtain rfl : k = 64 := by omega
      have HRF := Lib.hid (hr.congr (g := pgC fun _ => 255) (fun i hi => by unfold pgC fillB; rw [if_pos hi]))
      clear hr hlo hbx
      go_wp2_with (first
        | (refine wpList_row_load (by kernel_rfl) 52 (.tmp 13) rfl (some 54) rfl G 64 (pgC fun _ => 255) (by go_simp) HRF.out _ block_under rfl block_size ?_))
      refine (txnPut_ok HBX8.out.tx 36 (by omega) (.inr (by omega)) (.inr ?hm30) (f := fun _ => 255) (fun _ => by omega)).mono ?_
      case hm30 =>
        have := HBX8.out.tx.mp.mp.len_le [((33 + n / 512 : Nat) : Int)] (fun a ha => by rw [HKY.out a ha]; exact List.mem_singleton.2 rfl)
        simp only [List.length_singleton] at this
        omega
      rintro e w9 ⟨rfl, ht9, hc9⟩
      have HLO9 := Lib.hid (HLO8.out.chg hc9 (fun k hk => .inr (.inr (.inl hk))))
      have HT9 := Lib.hid ht9
      clear ht9 hc9
      go_wp2_with fail
      refine (bitsNew_ok gt 36 5 (by omega) (by omega) w9).mono ?_
      rintro e w10 ⟨g2, rfl, hr10, hg10, hb10⟩
      have hbx2 : BX w10 gd gb gl gt gm g2 40 0 36 5 (putF F1 36 (fun _ => 255)) 0 (freshD 0) (-1) false := ⟨HT9.out.keep hb10, hr10, by omega, by omega⟩
      have hfull := fullBit (bitV (viewB (putF F1 36 (fun _ => 255)) (freshD 0)) 36) (fun i hi => by
        unfold bitV
        rw [show (36 : Int) = ((36 : Nat) : Int) from rfl, viewB_put, if_pos (by omega)]
        exact bit255 _ (by omega))
      have HX10 := Lib.hid hbx2
      have HLO10 := Lib.hid (HLO9.out.keep hb10)
      have HFU := Lib.hid hfull
      clear hr10 hg10 hb10 hbx2 hfull
      obtain ⟨F2, hF2⟩ : ∃ F2, F2 = putF F1 36 (fun _ => 255) := ⟨_, rfl⟩
      rw [← hF2] at HX10 HFU
      clear hF2
      go_wp2_with fail
      refine (bitsFree_ok HX10.out (fun k hk => by omega)).mono ?_
      rintro e w11 ⟨r, hr, rfl, hx11, hc11⟩
      obtain rfl := HFU.out.2.2 r hr
      have HX11 := Lib.hid hx11
      have HLO11 := Lib.hid (HLO10.out.chg hc11 (fun k hk => by rcases hk with h | h; exact .inl h; exact .inr (.inl h)))
      clear hr hx11 hc11
      go_wp2_with fail
      refine (bitsCount_ok HX11.out (fun k hk => by omega)).mono ?_
      rintro e w12 ⟨rfl, hx12, hc12⟩
      rw [HFU.out.1]
      have HX12 := Lib.hid hx12
      have HLO12 := Lib.hid (HLO11.out.chg hc12 (fun k hk => by rcases hk with h | h; exact .inl h; exact .inr (.inl h)))
      clear hx12 hc12
      go_wp2_with fail
      refine (bitsList_ok HX12.out (fun k hk => by omega)).mono ?_
      rintro e w13 ⟨vl, rfl, hol, hx13, hc13⟩
      obtain ⟨Al, cl, hforml⟩ := hol.form
      subst hforml
      rw [HFU.out.2.1]
      have HLO13 := Lib.hid (HLO12.out.chg hc13 (fun k hk => by rcases hk with h | h; exact .inl h; exact .inr (.inl h)))
      clear hx13 hc13 hol
      have hnl := HNL.out
      clear HNL
      cases on
      · obtain rfl : nl = 0 := hnl
        go_wp2_with fail
        go_ret
        exact ⟨rfl, HLO13.out.bl⟩
      · obtain rfl : nl = 1 := hnl
        go_wp2_with fail
        go_ret
        exact ⟨rfl, HLO13.out.bl⟩
end Go.Proofs.Ytonfnlohbgbffaa
