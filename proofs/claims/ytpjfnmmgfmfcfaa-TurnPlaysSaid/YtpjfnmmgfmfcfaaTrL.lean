/- law25.Same: the two tables say the same. -/
import Derived.Test.YtpjfnmmgfmfcfaaTrb
set_option linter.unusedVariables false
set_option linter.unusedSimpArgs false
namespace Go.Proofs.Ytpjfnmmgfmfcfaa
open Go.RowKit
open Go.Maps (Keyed)

theorem qA_one (q : QL) : ∀ v ∈ (qA q).toList, v.oneCell' = true := fun v hv => qCells_one [q] v (by simpa [qCells] using hv)
theorem cntB_true (L : List TE) : cntB (fun _ => true) L = L.length := by unfold cntB; simp
theorem eqIno0 (w : World) : (Op.equalIn 10000 49 (.agg #[.int .u8 0, .int .u16 0, .int .u16 0]) (.agg #[.int .u8 0, .int .u16 0, .int .u16 0])).run Try.prog w = .ok true w := by kernel_rfl
theorem neqIno0 (w : World) : (binOp .neq 49 (.agg #[.int .u8 0, .int .u16 0, .int .u16 0]) (.agg #[.int .u8 0, .int .u16 0, .int .u16 0])).run Try.prog w = .ok (.bool false) w := by kernel_rfl
theorem neqProc_self (b : Nat) (w : World) : (binOp .neq 36 (.pointer (some ⟨b, 0, none⟩)) (.pointer (some ⟨b, 0, none⟩))).run Try.prog w = .ok (.bool false) w := by
  have h := eqProc_same b w
  simp only [binOp]
  simp [Op.equal, Op.maxDepth, h]
theorem ptrO_some (b : Nat) : ptrO (some b) = .pointer (some ⟨b, 0, none⟩) := rfl
section
variable {B n : Nat} {T : Nat → List TE} {L : List QL}
theorem Mt.spot (hm : Mt n T L) (ok : TOk B T) {k i : Nat} (hi : i < (T k).length) {j : Nat} (hj : j < L.length) (hq : isQ k (T k)[i].pr.num L[j]) : L[j] = qE (T k)[i] := by
  obtain ⟨t, ht, e⟩ := hm.there (List.getElem_mem hj)
  rw [hq.1] at ht
  have hn : t.pr.num = (T k)[i].pr.num := by
    have h1 : (qE t).num = L[j].num := by rw [e]
    exact h1.trans hq.2
  have := asc_inj (ok.asc k) ht (List.getElem_mem hi) hn
  rw [← this, e]
theorem Mt.find (hm : Mt n T L) (ok : TOk B T) {k i : Nat} (hi : i < (T k).length) {z : Int} (hz : FindP L k (T k)[i].pr.num z) : ∃ j, ∃ hj : j < L.length, z = j ∧ L[j] = qE (T k)[i] := by
  rcases hz with ⟨j, hj, rfl, hq, _⟩ | ⟨_, hno⟩
  · exact ⟨j, hj, rfl, hm.spot ok hi hj hq⟩
  · have h1 := hm.here (List.getElem_mem hi)
    exact absurd ⟨h1.2, rfl⟩ (hno _ h1.1)
end
section
variable {B n base gq g gm cap : Nat} {w w' : World} {a A : Option Addr} {v : Value} {T : Nat → List TE} {L : List QL}
set_option maxRecDepth 20000 in
set_option maxHeartbeats 16000000 in
theorem same_in (hT : TT B w g gm a T) (hR : RQ w gq base (.slice A n cap) v L) (hm : Mt n T L) (hn : n ≤ 64) :
    Calls Try.prog 30 #[.pointer (some ⟨g, 0, none⟩), .pointer (some ⟨gq, 0, none⟩)] w fun e w' => e = .returned (.bool true) ∧ Below w.heap.size w w' := by
  have HT := Lib.hid hT
  have HR := Lib.hid hR
  have HM := Lib.hid hm
  have c0 := hR.c0
  obtain ⟨Av, cv, hv⟩ := own_form hR.own
  have HV := Lib.hid hv
  obtain ⟨z, hz⟩ : ∃ z, z = L.length := ⟨_, rfl⟩
  have hl := hR.len
  rw [← hz] at hl hv
  have HZ := Lib.hid hz
  clear hT hR hm hz hv
  go_enter Try.func30, Try.ntmps30
  go_wp2_with fail
  go_loopw [5, 17] (fun s r wr => ∃ k s0 : Nat, k ≤ n ∧ r = .int .i64 k ∧ s = .int .i64 s0 ∧ s0 = cntT (fun _ => true) T k ∧ s0 ≤ k * 1000 ∧ Below w.heap.size w wr) (fun _ r _ => n - (intOf r).toNat)
  case atStart => exact ⟨0, 0, Nat.zero_le _, rfl, rfl, rfl, by omega, Below.refl _ _⟩
  case round =>
    clear c0
    obtain ⟨k, s0, hk, rfl, rfl, hs0, hs1, hb⟩ := hrel
    have HS0 := Lib.hid hs0
    have HB := Lib.hid hb
    have HTr := Lib.hid (HT.out.keep hb)
    have HRr := Lib.hid (HR.out.keep hb)
    clear hs0 hb
    by_cases hkn : k < n
    · have f1 : (k : Int) < n := by omega
      have hk64 : k < 64 := by omega
      go_wp2_with fail
      refine (taskList_in HTr.out k hk64).mono ?_
      rintro e w2 ⟨vl, rfl, hlv, hb2⟩
      obtain ⟨ad, cl, hvl⟩ := LV.form (L := T k) hlv
      have HLV := Lib.hid (show LV w2 wr.heap.size vl (T k) from hlv)
      have hlen := HT.out.len k
      obtain ⟨M, hM⟩ : ∃ M, M = (T k).length := ⟨_, rfl⟩
      rw [← hM] at hlen hvl
      have HMM := Lib.hid hM
      subst hvl
      have HT2 := Lib.hid (HTr.out.keep hb2)
      have HR2 := Lib.hid (HRr.out.keep hb2)
      have HB2 := Lib.hid (HB.out.trans (hb2.mono HB.out.size))
      have hcnt := refCount_in HR2.out k
      rw [HM.out.cnt k, ← hM] at hcnt
      have HCN := Lib.hid hcnt
      have husd := taskUsed_tp HT2.out.tp k hk64
      unfold usT at husd
      rw [← hM] at husd
      have HUS := Lib.hid husd
      clear hlv hb2 hM hcnt husd
      go_wp2_with fail
      refine HCN.out.mono ?_
      rintro e w3 ⟨rfl, rfl⟩
      go_wp2_with fail
      refine HUS.out.mono ?_
      rintro e w3 ⟨rfl, rfl⟩
      go_wp2_with fail
      go_loopw [5, 39] (fun s r wx => ∃ i : Nat, i ≤ M ∧ r = .int .i64 i ∧ s = .int .i64 ((s0 + i : Nat) : Int) ∧ Below w2.heap.size w2 wx) (fun _ r _ => M - (intOf r).toNat)
      case atStart => exact ⟨0, Nat.zero_le _, rfl, rfl, Below.refl _ _⟩
      case round =>
        obtain ⟨i, hi, rfl, rfl, hb⟩ := hrel
        have HBX := Lib.hid (bnext HB2.out hb)
        have HB2X := Lib.hid hb
        have HTX := Lib.hid (HT2.out.keep hb)
        have HRX := Lib.hid (HR2.out.keep hb)
        have HLX := Lib.hid (HLV.out.keep hb)
        clear hb
        by_cases hiM : i < M
        · have f2 : (i : Int) < M := by omega
          have hiT : i < (T k).length := by rw [← HMM.out]; exact hiM
          obtain ⟨q, off, c2, hs, hq, hcell⟩ := HLX.out.cell hiT
          have hcd : ad = some ⟨q, off, none⟩ := by
            simp only [Value.slice.injEq] at hs
            exact hs.1
          subst hcd
          have HCL := Lib.hid (fun j (hj : j < (T k).length) => (show wr.cell? ⟨q, off + j, none⟩ = some (.pointer (some ⟨(T k)[j].blk, 0, none⟩)) ∧ q < wr.heap.size from by
            obtain ⟨q', off', c2', hs', hq', hcell'⟩ := HLX.out.cell hj
            simp only [Value.slice.injEq] at hs'
            obtain ⟨e1, _, _⟩ := hs'
            injection e1 with e1
            injection e1 with e1 e2 _
            subst e1 e2
            exact ⟨hcell', hq'⟩))
          obtain ⟨b, hbk⟩ : ∃ b, b = (T k)[i].blk := ⟨_, rfl⟩
          obtain ⟨m, hmn⟩ : ∃ m, m = (T k)[i].pr.num := ⟨_, rfl⟩
          have hrow := HTX.out.pr _ _ (List.getElem_mem hiT)
          have hlb := HTX.out.ok.lab _ _ (List.getElem_mem hiT)
          have hnb := HTX.out.ok.num _ _ (List.getElem_mem hiT)
          rw [← hbk] at hcell hrow
          rw [← hmn] at hnb
          have e1 : wr.cell? ⟨b, 1, none⟩ = some (.int .u16 m) := by rw [hmn]; exact hrow.cell (i := 1) (by omega)
          have w1 : IntKind.i64.wrap (m : Int) = m := by simp [IntKind.wrap, IntKind.bits, IntKind.signed]; omega
          have HROW := Lib.hid hrow
          have HBK := Lib.hid hbk
          have HMN := Lib.hid hmn
          have HLB := Lib.hid hlb
          have HHQ := Lib.hid hq
          clear hs hq hrow hbk hmn hlb
          go_wp2_with fail
          refine (refFind_in HRX.out k m).mono ?_
          rintro e w3 ⟨⟨zz, rfl, hzz⟩, rfl⟩
          rw [HMN.out] at hzz
          obtain ⟨kk, hkk, rfl, hsp⟩ := HM.out.find HTX.out.ok hiT hzz
          have HKK := Lib.hid hkk
          have HSP := Lib.hid hsp
          have hkz : (kk : Int) < z := by have := HZ.out; omega
          have w2' : IntKind.i64.wrap (k : Int) = k := by simp [IntKind.wrap, IntKind.bits, IntKind.signed]; omega
          clear hzz hsp
          go_wp2_with fail
          go_upto_if 12 with fail
          clear hcell e1 w1
          have HC0 := Lib.hid (fun w' (hb : Below wr.heap.size wr w') => (show w'.cell? ⟨b, 0, none⟩ = some (.int .u8 k) from by
            have h1 := (HROW.out.of_block (hb.block _ HROW.out.lt)).cell (i := 0) (by omega)
            rw [h1]
            show some (Value.int .u8 ((T k)[i].pr.lab : Nat)) = _
            rw [HLB.out]))
          have HC1 := Lib.hid (fun w' (hb : Below wr.heap.size wr w') => (show w'.cell? ⟨b, 1, none⟩ = some (.int .u16 m) from by
            have h1 := (HROW.out.of_block (hb.block _ HROW.out.lt)).cell (i := 1) (by omega)
            rw [h1, HMN.out]
            rfl))
          have hget := fun w' (hb : Below wr.heap.size wr w') => taskGet_in (HTX.out.keep hb) (k, m) (by show k ≤ 255; omega) (by show m ≤ 65535; omega)
          have htf : tF T (k, m) = some b := by
            rw [HMN.out, HBK.out]
            exact tF_at HTX.out.ok (List.getElem_mem hiT)
          rw [htf, ptrO_some] at hget
          unfold markV at hget
          have HGET := Lib.hid hget
          have hneq := fun w => neqProc_self b w
          clear hget htf
          go_cut [95] (fun s95 wx => s95 = .bool false ∧ Below wr.heap.size wr wx)
          case first =>
            rcases Nat.eq_zero_or_pos i with hi0 | hi0
            · as_aux_lemma =>
                have fi : decide ((0 : Int) < i) = false := by rw [decide_eq_false_iff_not]; omega
                have fi2 : decide (0 < i) = false := by rw [decide_eq_false_iff_not]; omega
                clear hi0
                go_upto_region 12 with fail
                refine wp_region_held (S := fun w' => Below wr.heap.size wr w') (by kernel_rfl) ?_
                change wpAnyH _ _ _ _ _ _ _ _ (World.drew _)
                refine takeH 0 (.int .i64 kk) (some 53) rfl rfl (by kernel_rfl) (by kernel_rfl) (by kernel_rfl) (fun _ _ _ h => h) (.inl ⟨by kernel_rfl, fun w _ => by go_simp⟩) (drewb wr) ?_
                refine takeH 1 (.bool false) (some 54) rfl rfl (by kernel_rfl) (by kernel_rfl) (by kernel_rfl) (fun _ _ _ h => h) (.inl ⟨by kernel_rfl, fun w _ => by go_simp⟩) (drewb wr) ?_
                refine takeH 2 (.bool false) (some 55) rfl rfl (by kernel_rfl) (by kernel_rfl) (by kernel_rfl) (fun _ _ _ h => h) (.inl ⟨by kernel_rfl, fun w _ => by go_simp⟩) (drewb wr) ?_
                go_simp
                refine takeH 3 (.pointer (some ⟨b, 0, none⟩)) (some 56) rfl rfl (by kernel_rfl) (by kernel_rfl) (by kernel_rfl) (fun _ _ _ h => h) (.inl ⟨by kernel_rfl, fun w _ => by go_simp⟩) (drewb wr) ?_
                refine takeH 4 (.pointer (some ⟨b, 0, none⟩)) (some 57) rfl rfl (by kernel_rfl) (by kernel_rfl) (by kernel_rfl) (fun _ _ _ h => h) (.inl ⟨by kernel_rfl, fun w _ => by go_simp⟩) (drewb wr) ?_
                refine takeH 5 (.pointer (some ⟨b, 0, none⟩)) (some 58) rfl rfl (by kernel_rfl) (by kernel_rfl) (by kernel_rfl) (fun _ _ _ h => h) (.inl ⟨by kernel_rfl, fun w _ => by go_simp⟩) (drewb wr) ?_
                refine takeH 6 (.pointer (some ⟨b, 0, none⟩)) (some 59) rfl rfl (by kernel_rfl) (by kernel_rfl) (by kernel_rfl) (fun _ _ _ h => h) (.inl ⟨by kernel_rfl, fun w _ => by go_simp⟩) (drewb wr) ?_
                go_simp
                refine takeH 7 (.int .u8 k) (some 60) rfl rfl (by kernel_rfl) (by kernel_rfl) (by kernel_rfl) (fun _ _ _ h => h) (.inl ⟨by kernel_rfl, fun w hw => by have hc := HC0.out w hw; go_simp⟩) (drewb wr) ?_
                refine takeH 8 (.int .i64 k) (some 61) rfl rfl (by kernel_rfl) (by kernel_rfl) (by kernel_rfl) (fun _ _ _ h => h) (.inl ⟨by kernel_rfl, fun w _ => by go_simp⟩) (drewb wr) ?_
                refine takeH 9 (.int .i64 k) (some 62) rfl rfl (by kernel_rfl) (by kernel_rfl) (by kernel_rfl) (fun _ _ _ h => h) (.inl ⟨by kernel_rfl, fun w _ => by go_simp⟩) (drewb wr) ?_
                refine takeH 10 (.bool false) (some 63) rfl rfl (by kernel_rfl) (by kernel_rfl) (by kernel_rfl) (fun _ _ _ h => h) (.inl ⟨by kernel_rfl, fun w _ => by go_simp⟩) (drewb wr) ?_
                refine takeH 11 (.bool false) (some 64) rfl rfl (by kernel_rfl) (by kernel_rfl) (by kernel_rfl) (fun _ _ _ h => h) (.inl ⟨by kernel_rfl, fun w _ => by go_simp⟩) (drewb wr) ?_
                refine takeH 12 (.bool false) (some 65) rfl rfl (by kernel_rfl) (by kernel_rfl) (by kernel_rfl) (fun _ _ _ h => h) (.inl ⟨by kernel_rfl, fun w _ => by go_simp⟩) (drewb wr) ?_
                go_simp
                refine takeH 13 (.int .i64 i) (some 66) rfl rfl (by kernel_rfl) (by kernel_rfl) (by kernel_rfl) (fun _ _ _ h => h) (.inl ⟨by kernel_rfl, fun w _ => by go_simp⟩) (drewb wr) ?_
                refine takeH 14 (.bool false) (some 67) rfl rfl (by kernel_rfl) (by kernel_rfl) (by kernel_rfl) (fun _ _ _ h => h) (.inl ⟨by kernel_rfl, fun w _ => by go_simp⟩) (drewb wr) ?_
                refine takeH 15 (.bool false) (some 68) rfl rfl (by kernel_rfl) (by kernel_rfl) (by kernel_rfl) (fun _ _ _ h => h) (.inl ⟨by kernel_rfl, fun w _ => by go_simp⟩) (drewb wr) ?_
                go_simp
                refine takeH 16 (undef) (some 69) rfl rfl (by kernel_rfl) (by kernel_rfl) (by kernel_rfl) (fun _ _ _ h => h) (.inr ⟨by kernel_rfl, rfl⟩) (drewb wr) ?_
                refine takeH 17 (undef) (some 70) rfl rfl (by kernel_rfl) (by kernel_rfl) (by kernel_rfl) (fun _ _ _ h => h) (.inr ⟨by kernel_rfl, rfl⟩) (drewb wr) ?_
                refine takeH 18 (undef) (some 71) rfl rfl (by kernel_rfl) (by kernel_rfl) (by kernel_rfl) (fun _ _ _ h => h) (.inr ⟨by kernel_rfl, rfl⟩) (drewb wr) ?_
                refine takeH 19 (undef) (some 72) rfl rfl (by kernel_rfl) (by kernel_rfl) (by kernel_rfl) (fun _ _ _ h => h) (.inr ⟨by kernel_rfl, rfl⟩) (drewb wr) ?_
                refine takeH 20 (undef) (some 73) rfl rfl (by kernel_rfl) (by kernel_rfl) (by kernel_rfl) (fun _ _ _ h => h) (.inr ⟨by kernel_rfl, rfl⟩) (drewb wr) ?_
                refine takeH 21 (undef) (some 74) rfl rfl (by kernel_rfl) (by kernel_rfl) (by kernel_rfl) (fun _ _ _ h => h) (.inr ⟨by kernel_rfl, rfl⟩) (drewb wr) ?_
                refine takeH 22 (undef) (some 75) rfl rfl (by kernel_rfl) (by kernel_rfl) (by kernel_rfl) (fun _ _ _ h => h) (.inr ⟨by kernel_rfl, rfl⟩) (drewb wr) ?_
                go_simp
                refine takeH 23 (undef) (some 76) rfl rfl (by kernel_rfl) (by kernel_rfl) (by kernel_rfl) (fun _ _ _ h => h) (.inr ⟨by kernel_rfl, rfl⟩) (drewb wr) ?_
                refine takeH 24 (undef) (some 77) rfl rfl (by kernel_rfl) (by kernel_rfl) (by kernel_rfl) (fun _ _ _ h => h) (.inr ⟨by kernel_rfl, rfl⟩) (drewb wr) ?_
                refine takeH 25 (undef) (some 78) rfl rfl (by kernel_rfl) (by kernel_rfl) (by kernel_rfl) (fun _ _ _ h => h) (.inr ⟨by kernel_rfl, rfl⟩) (drewb wr) ?_
                refine takeH 26 (undef) (some 79) rfl rfl (by kernel_rfl) (by kernel_rfl) (by kernel_rfl) (fun _ _ _ h => h) (.inr ⟨by kernel_rfl, rfl⟩) (drewb wr) ?_
                refine takeH 27 (undef) (some 80) rfl rfl (by kernel_rfl) (by kernel_rfl) (by kernel_rfl) (fun _ _ _ h => h) (.inr ⟨by kernel_rfl, rfl⟩) (drewb wr) ?_
                refine takeH 28 (undef) (some 81) rfl rfl (by kernel_rfl) (by kernel_rfl) (by kernel_rfl) (fun _ _ _ h => h) (.inr ⟨by kernel_rfl, rfl⟩) (drewb wr) ?_
                refine takeH 29 (undef) (some 82) rfl rfl (by kernel_rfl) (by kernel_rfl) (by kernel_rfl) (fun _ _ _ h => h) (.inr ⟨by kernel_rfl, rfl⟩) (drewb wr) ?_
                refine takeH 30 (undef) (some 83) rfl rfl (by kernel_rfl) (by kernel_rfl) (by kernel_rfl) (fun _ _ _ h => h) (.inr ⟨by kernel_rfl, rfl⟩) (drewb wr) ?_
                go_simp
                refine takeH 31 (.bool false) (some 84) rfl rfl (by kernel_rfl) (by kernel_rfl) (by kernel_rfl) (fun _ _ _ h => h) (.inl ⟨by kernel_rfl, fun w _ => by go_simp⟩) (drewb wr) ?_
                refine takeH 32 (.bool false) (some 85) rfl rfl (by kernel_rfl) (by kernel_rfl) (by kernel_rfl) (fun _ _ _ h => h) (.inl ⟨by kernel_rfl, fun w _ => by go_simp⟩) (drewb wr) ?_
                refine takeH 33 (.bool false) (some 86) rfl rfl (by kernel_rfl) (by kernel_rfl) (by kernel_rfl) (fun _ _ _ h => h) (.inl ⟨by kernel_rfl, fun w _ => by go_simp⟩) (drewb wr) ?_
                go_simp
                refine takeH 34 (.pointer (some ⟨g, 0, none⟩)) (some 87) rfl rfl (by kernel_rfl) (by kernel_rfl) (by kernel_rfl) (fun _ _ _ h => h) (.inl ⟨by kernel_rfl, fun w _ => by go_simp⟩) (drewb wr) ?_
                refine takeH 35 (.pointer (some ⟨b, 0, none⟩)) (some 88) rfl rfl (by kernel_rfl) (by kernel_rfl) (by kernel_rfl) (fun _ _ _ h => h) (.inl ⟨by kernel_rfl, fun w _ => by go_simp⟩) (drewb wr) ?_
                refine takeH 36 (.pointer (some ⟨b, 0, none⟩)) (some 89) rfl rfl (by kernel_rfl) (by kernel_rfl) (by kernel_rfl) (fun _ _ _ h => h) (.inl ⟨by kernel_rfl, fun w _ => by go_simp⟩) (drewb wr) ?_
                refine takeH 37 (.pointer (some ⟨b, 0, none⟩)) (some 90) rfl rfl (by kernel_rfl) (by kernel_rfl) (by kernel_rfl) (fun _ _ _ h => h) (.inl ⟨by kernel_rfl, fun w _ => by go_simp⟩) (drewb wr) ?_
                go_simp
                refine takeH 38 (.agg #[.int .u8 k, .int .u16 m]) (some 91) rfl rfl (by kernel_rfl) (by kernel_rfl) (by kernel_rfl) (fun _ _ _ h => h) (yi_piece (by rfl) 45 (.tmp 90) rfl b 0 (by go_simp) #[.int .u8 k, .int .u16 m] _ (fun w' hw j v hj => by
                    have h0 := HC0.out w' hw
                    have h1 := HC1.out w' hw
                    rcases j with _ | _ | j <;> simp at hj
                    · rw [← hj]; exact h0
                    · rw [← hj]; exact h1) Try.underlying45 rfl (by kernel_rfl)) (drewb wr) ?_
                refine takeH 40 (.pointer (some ⟨b, 0, none⟩)) (some 93) rfl rfl (by kernel_rfl) (by kernel_rfl) (by kernel_rfl) (fun _ _ _ h => h) (.inl ⟨by kernel_rfl, fun w _ => by go_simp⟩) (drewb wr) ?_
                go_simp
                refine callH 39 rfl (by kernel_rfl) (by kernel_rfl) (some 92) rfl 36 #[.pointer (some ⟨g, 0, none⟩), .agg #[.int .u8 k, .int .u16 m]] ?hrun ((HGET.out _ (drewb wr)).mono ?_)
                case hrun => go_simp
                rintro e w4 ⟨he, hb4⟩
                have hbg : Below wr.heap.size wr w4 := (drewb wr).trans (hb4.mono (Nat.le_refl _))
                refine ⟨_, he, hbg, ?_⟩
                go_simp
                refine takeH 41 (.bool false) (some 94) rfl rfl (by kernel_rfl) (by kernel_rfl) (by kernel_rfl) (fun _ _ _ h => h) (.inl ⟨by kernel_rfl, fun w' hw => by have hq := hneq w'; go_simp⟩) hbg ?_
                refine takeH 42 (.bool false) (some 95) rfl rfl (by kernel_rfl) (by kernel_rfl) (by kernel_rfl) (fun _ _ _ h => h) (.inl ⟨by kernel_rfl, fun w _ => by go_simp⟩) hbg ?_
                refine wpAnyH_done (by kernel_rfl) ?_ _
                go_simp
                have HB4 := Lib.hid hbg
                go_wp2_with fail
                go_meet
                exact ⟨rfl, HB4.out⟩
            · as_aux_lemma =>
                obtain ⟨p, hp⟩ : ∃ p, p = i - 1 := ⟨_, rfl⟩
                have fi : (0 : Int) < i := by omega
                have fi2 : 0 < i := hi0
                have fp : IntKind.i64.wrap ((i : Int) - 1) = p := by simp [IntKind.wrap, IntKind.bits, IntKind.signed]; omega
                have fpM : (p : Int) < M := by omega
                have hpT : p < (T k).length := by rw [← HMM.out]; omega
                obtain ⟨pb, hpb⟩ : ∃ pb, pb = (T k)[p].blk := ⟨_, rfl⟩
                obtain ⟨pm, hpm⟩ : ∃ pm, pm = (T k)[p].pr.num := ⟨_, rfl⟩
                have hlt : pm < m := by
                  rw [hpm, HMN.out]
                  exact (List.pairwise_iff_getElem.1 (HTX.out.ok.asc k)) p i hpT hiT (by omega)
                have fg : decide ((m : Int) ≤ pm) = false := by rw [decide_eq_false_iff_not]; omega
                have fg2 : decide (m ≤ pm) = false := by rw [decide_eq_false_iff_not]; omega
                have HPC := Lib.hid (fun w' (hb : Below wr.heap.size wr w') => (show w'.cell? ⟨q, off + p, none⟩ = some (.pointer (some ⟨pb, 0, none⟩)) from by
                  obtain ⟨h1, h2⟩ := HCL.out p hpT
                  rw [World.cell?_of_block (w := wr) (a := ⟨q, off + p, none⟩) (hb.block q h2), h1, hpb]))
                have hprow := HTX.out.pr _ _ (List.getElem_mem hpT)
                have HPM := Lib.hid (fun w' (hb : Below wr.heap.size wr w') => (show w'.cell? ⟨pb, 1, none⟩ = some (.int .u16 pm) from by
                  have h1 := (hprow.of_block (hb.block _ hprow.lt)).cell (i := 1) (by omega)
                  rw [hpb, h1, hpm]
                  rfl))
                clear hi0 hp hpT hpb hpm hlt hprow
                go_upto_region 12 with fail
                refine wp_region_held (S := fun w' => Below wr.heap.size wr w') (by kernel_rfl) ?_
                change wpAnyH _ _ _ _ _ _ _ _ (World.drew _)
                refine takeH 0 (.int .i64 kk) (some 53) rfl rfl (by kernel_rfl) (by kernel_rfl) (by kernel_rfl) (fun _ _ _ h => h) (.inl ⟨by kernel_rfl, fun w _ => by go_simp⟩) (drewb wr) ?_
                refine takeH 1 (.bool false) (some 54) rfl rfl (by kernel_rfl) (by kernel_rfl) (by kernel_rfl) (fun _ _ _ h => h) (.inl ⟨by kernel_rfl, fun w _ => by go_simp⟩) (drewb wr) ?_
                refine takeH 2 (.bool false) (some 55) rfl rfl (by kernel_rfl) (by kernel_rfl) (by kernel_rfl) (fun _ _ _ h => h) (.inl ⟨by kernel_rfl, fun w _ => by go_simp⟩) (drewb wr) ?_
                go_simp
                refine takeH 3 (.pointer (some ⟨b, 0, none⟩)) (some 56) rfl rfl (by kernel_rfl) (by kernel_rfl) (by kernel_rfl) (fun _ _ _ h => h) (.inl ⟨by kernel_rfl, fun w _ => by go_simp⟩) (drewb wr) ?_
                refine takeH 4 (.pointer (some ⟨b, 0, none⟩)) (some 57) rfl rfl (by kernel_rfl) (by kernel_rfl) (by kernel_rfl) (fun _ _ _ h => h) (.inl ⟨by kernel_rfl, fun w _ => by go_simp⟩) (drewb wr) ?_
                refine takeH 5 (.pointer (some ⟨b, 0, none⟩)) (some 58) rfl rfl (by kernel_rfl) (by kernel_rfl) (by kernel_rfl) (fun _ _ _ h => h) (.inl ⟨by kernel_rfl, fun w _ => by go_simp⟩) (drewb wr) ?_
                refine takeH 6 (.pointer (some ⟨b, 0, none⟩)) (some 59) rfl rfl (by kernel_rfl) (by kernel_rfl) (by kernel_rfl) (fun _ _ _ h => h) (.inl ⟨by kernel_rfl, fun w _ => by go_simp⟩) (drewb wr) ?_
                go_simp
                refine takeH 7 (.int .u8 k) (some 60) rfl rfl (by kernel_rfl) (by kernel_rfl) (by kernel_rfl) (fun _ _ _ h => h) (.inl ⟨by kernel_rfl, fun w hw => by have hc := HC0.out w hw; go_simp⟩) (drewb wr) ?_
                refine takeH 8 (.int .i64 k) (some 61) rfl rfl (by kernel_rfl) (by kernel_rfl) (by kernel_rfl) (fun _ _ _ h => h) (.inl ⟨by kernel_rfl, fun w _ => by go_simp⟩) (drewb wr) ?_
                refine takeH 9 (.int .i64 k) (some 62) rfl rfl (by kernel_rfl) (by kernel_rfl) (by kernel_rfl) (fun _ _ _ h => h) (.inl ⟨by kernel_rfl, fun w _ => by go_simp⟩) (drewb wr) ?_
                refine takeH 10 (.bool false) (some 63) rfl rfl (by kernel_rfl) (by kernel_rfl) (by kernel_rfl) (fun _ _ _ h => h) (.inl ⟨by kernel_rfl, fun w _ => by go_simp⟩) (drewb wr) ?_
                refine takeH 11 (.bool false) (some 64) rfl rfl (by kernel_rfl) (by kernel_rfl) (by kernel_rfl) (fun _ _ _ h => h) (.inl ⟨by kernel_rfl, fun w _ => by go_simp⟩) (drewb wr) ?_
                refine takeH 12 (.bool false) (some 65) rfl rfl (by kernel_rfl) (by kernel_rfl) (by kernel_rfl) (fun _ _ _ h => h) (.inl ⟨by kernel_rfl, fun w _ => by go_simp⟩) (drewb wr) ?_
                go_simp
                refine takeH 13 (.int .i64 i) (some 66) rfl rfl (by kernel_rfl) (by kernel_rfl) (by kernel_rfl) (fun _ _ _ h => h) (.inl ⟨by kernel_rfl, fun w _ => by go_simp⟩) (drewb wr) ?_
                refine takeH 14 (.bool true) (some 67) rfl rfl (by kernel_rfl) (by kernel_rfl) (by kernel_rfl) (fun _ _ _ h => h) (.inl ⟨by kernel_rfl, fun w _ => by go_simp⟩) (drewb wr) ?_
                refine takeH 15 (.bool true) (some 68) rfl rfl (by kernel_rfl) (by kernel_rfl) (by kernel_rfl) (fun _ _ _ h => h) (.inl ⟨by kernel_rfl, fun w _ => by go_simp⟩) (drewb wr) ?_
                go_simp
                refine takeH 16 (.slice (some ⟨q, off, none⟩) M cl) (some 69) rfl rfl (by kernel_rfl) (by kernel_rfl) (by kernel_rfl) (fun _ _ _ h => h) (.inl ⟨by kernel_rfl, fun w _ => by go_simp⟩) (drewb wr) ?_
                refine takeH 17 (.int .i64 i) (some 70) rfl rfl (by kernel_rfl) (by kernel_rfl) (by kernel_rfl) (fun _ _ _ h => h) (.inl ⟨by kernel_rfl, fun w _ => by go_simp⟩) (drewb wr) ?_
                refine takeH 18 (.int .i64 p) (some 71) rfl rfl (by kernel_rfl) (by kernel_rfl) (by kernel_rfl) (fun _ _ _ h => h) (.inl ⟨by kernel_rfl, fun w _ => by go_simp⟩) (drewb wr) ?_
                refine takeH 19 (.pointer (some ⟨q, off + p, none⟩)) (some 72) rfl rfl (by kernel_rfl) (by kernel_rfl) (by kernel_rfl) (fun _ _ _ h => h) (.inl ⟨by kernel_rfl, fun w _ => by go_simp⟩) (drewb wr) ?_
                go_simp
                refine takeH 20 (.pointer (some ⟨pb, 0, none⟩)) (some 73) rfl rfl (by kernel_rfl) (by kernel_rfl) (by kernel_rfl) (fun _ _ _ h => h) (.inl ⟨by kernel_rfl, fun w hw => by have hc := HPC.out w hw; go_simp⟩) (drewb wr) ?_
                refine takeH 21 (.pointer (some ⟨pb, 0, none⟩)) (some 74) rfl rfl (by kernel_rfl) (by kernel_rfl) (by kernel_rfl) (fun _ _ _ h => h) (.inl ⟨by kernel_rfl, fun w _ => by go_simp⟩) (drewb wr) ?_
                refine takeH 22 (.pointer (some ⟨pb, 0, none⟩)) (some 75) rfl rfl (by kernel_rfl) (by kernel_rfl) (by kernel_rfl) (fun _ _ _ h => h) (.inl ⟨by kernel_rfl, fun w _ => by go_simp⟩) (drewb wr) ?_
                refine takeH 23 (.pointer (some ⟨pb, 1, none⟩)) (some 76) rfl rfl (by kernel_rfl) (by kernel_rfl) (by kernel_rfl) (fun _ _ _ h => h) (.inl ⟨by kernel_rfl, fun w _ => by go_simp⟩) (drewb wr) ?_
                go_simp
                refine takeH 24 (.int .u16 pm) (some 77) rfl rfl (by kernel_rfl) (by kernel_rfl) (by kernel_rfl) (fun _ _ _ h => h) (.inl ⟨by kernel_rfl, fun w hw => by have hc := HPM.out w hw; go_simp⟩) (drewb wr) ?_
                refine takeH 25 (.pointer (some ⟨b, 0, none⟩)) (some 78) rfl rfl (by kernel_rfl) (by kernel_rfl) (by kernel_rfl) (fun _ _ _ h => h) (.inl ⟨by kernel_rfl, fun w _ => by go_simp⟩) (drewb wr) ?_
                refine takeH 26 (.pointer (some ⟨b, 0, none⟩)) (some 79) rfl rfl (by kernel_rfl) (by kernel_rfl) (by kernel_rfl) (fun _ _ _ h => h) (.inl ⟨by kernel_rfl, fun w _ => by go_simp⟩) (drewb wr) ?_
                refine takeH 27 (.pointer (some ⟨b, 0, none⟩)) (some 80) rfl rfl (by kernel_rfl) (by kernel_rfl) (by kernel_rfl) (fun _ _ _ h => h) (.inl ⟨by kernel_rfl, fun w _ => by go_simp⟩) (drewb wr) ?_
                refine takeH 28 (.pointer (some ⟨b, 1, none⟩)) (some 81) rfl rfl (by kernel_rfl) (by kernel_rfl) (by kernel_rfl) (fun _ _ _ h => h) (.inl ⟨by kernel_rfl, fun w _ => by go_simp⟩) (drewb wr) ?_
                go_simp
                refine takeH 29 (.int .u16 m) (some 82) rfl rfl (by kernel_rfl) (by kernel_rfl) (by kernel_rfl) (fun _ _ _ h => h) (.inl ⟨by kernel_rfl, fun w hw => by have hc := HC1.out w hw; go_simp⟩) (drewb wr) ?_
                refine takeH 30 (.bool false) (some 83) rfl rfl (by kernel_rfl) (by kernel_rfl) (by kernel_rfl) (fun _ _ _ h => h) (.inl ⟨by kernel_rfl, fun w _ => by go_simp⟩) (drewb wr) ?_
                go_simp
                refine takeH 31 (.bool false) (some 84) rfl rfl (by kernel_rfl) (by kernel_rfl) (by kernel_rfl) (fun _ _ _ h => h) (.inl ⟨by kernel_rfl, fun w _ => by go_simp⟩) (drewb wr) ?_
                refine takeH 32 (.bool false) (some 85) rfl rfl (by kernel_rfl) (by kernel_rfl) (by kernel_rfl) (fun _ _ _ h => h) (.inl ⟨by kernel_rfl, fun w _ => by go_simp⟩) (drewb wr) ?_
                refine takeH 33 (.bool false) (some 86) rfl rfl (by kernel_rfl) (by kernel_rfl) (by kernel_rfl) (fun _ _ _ h => h) (.inl ⟨by kernel_rfl, fun w _ => by go_simp⟩) (drewb wr) ?_
                go_simp
                refine takeH 34 (.pointer (some ⟨g, 0, none⟩)) (some 87) rfl rfl (by kernel_rfl) (by kernel_rfl) (by kernel_rfl) (fun _ _ _ h => h) (.inl ⟨by kernel_rfl, fun w _ => by go_simp⟩) (drewb wr) ?_
                refine takeH 35 (.pointer (some ⟨b, 0, none⟩)) (some 88) rfl rfl (by kernel_rfl) (by kernel_rfl) (by kernel_rfl) (fun _ _ _ h => h) (.inl ⟨by kernel_rfl, fun w _ => by go_simp⟩) (drewb wr) ?_
                refine takeH 36 (.pointer (some ⟨b, 0, none⟩)) (some 89) rfl rfl (by kernel_rfl) (by kernel_rfl) (by kernel_rfl) (fun _ _ _ h => h) (.inl ⟨by kernel_rfl, fun w _ => by go_simp⟩) (drewb wr) ?_
                refine takeH 37 (.pointer (some ⟨b, 0, none⟩)) (some 90) rfl rfl (by kernel_rfl) (by kernel_rfl) (by kernel_rfl) (fun _ _ _ h => h) (.inl ⟨by kernel_rfl, fun w _ => by go_simp⟩) (drewb wr) ?_
                go_simp
                refine takeH 38 (.agg #[.int .u8 k, .int .u16 m]) (some 91) rfl rfl (by kernel_rfl) (by kernel_rfl) (by kernel_rfl) (fun _ _ _ h => h) (yi_piece (by rfl) 45 (.tmp 90) rfl b 0 (by go_simp) #[.int .u8 k, .int .u16 m] _ (fun w' hw j v hj => by
                    have h0 := HC0.out w' hw
                    have h1 := HC1.out w' hw
                    rcases j with _ | _ | j <;> simp at hj
                    · rw [← hj]; exact h0
                    · rw [← hj]; exact h1) Try.underlying45 rfl (by kernel_rfl)) (drewb wr) ?_
                refine takeH 40 (.pointer (some ⟨b, 0, none⟩)) (some 93) rfl rfl (by kernel_rfl) (by kernel_rfl) (by kernel_rfl) (fun _ _ _ h => h) (.inl ⟨by kernel_rfl, fun w _ => by go_simp⟩) (drewb wr) ?_
                go_simp
                refine callH 39 rfl (by kernel_rfl) (by kernel_rfl) (some 92) rfl 36 #[.pointer (some ⟨g, 0, none⟩), .agg #[.int .u8 k, .int .u16 m]] ?hrun ((HGET.out _ (drewb wr)).mono ?_)
                case hrun => go_simp
                rintro e w4 ⟨he, hb4⟩
                have hbg : Below wr.heap.size wr w4 := (drewb wr).trans (hb4.mono (Nat.le_refl _))
                refine ⟨_, he, hbg, ?_⟩
                go_simp
                refine takeH 41 (.bool false) (some 94) rfl rfl (by kernel_rfl) (by kernel_rfl) (by kernel_rfl) (fun _ _ _ h => h) (.inl ⟨by kernel_rfl, fun w' hw => by have hq := hneq w'; go_simp⟩) hbg ?_
                refine takeH 42 (.bool false) (some 95) rfl rfl (by kernel_rfl) (by kernel_rfl) (by kernel_rfl) (fun _ _ _ h => h) (.inl ⟨by kernel_rfl, fun w _ => by go_simp⟩) hbg ?_
                refine wpAnyH_done (by kernel_rfl) ?_ _
                go_simp
                have HB4 := Lib.hid hbg
                go_wp2_with fail
                go_meet
                exact ⟨rfl, HB4.out⟩
          case rest =>
            obtain ⟨rfl, hbg⟩ := hcut
            go_at_K
            go_step
            have HB4 := Lib.hid hbg
            have hR4 := HRX.out.keep hbg
            have hT4 := HTX.out.keep hbg
            obtain ⟨gp, cp, hvp, hpx⟩ := hR4.px (Nat.lt_of_le_of_lt (Nat.zero_le _) HKK.out)
            have c1 := hR4.c1
            rw [hvp] at c1 hR4
            rw [← HZ.out] at c1
            obtain ⟨C, hC⟩ : ∃ C, C = qA (qE (T k)[i]) := ⟨_, rfl⟩
            have HCS := Lib.hid (show C.size = 12 by rw [hC]; rfl)
            have HCP := Lib.hid (show (Try.prog.info? 131).map (·.size) = some C.size by rw [hC]; kernel_rfl)
            have HPC2 := Lib.hid (show ∀ j v, C.toList[j]? = some v → wc.cell? ⟨gp, kk * 12 + j, none⟩ = some v from fun j v hj => by
              have hj12 : j < 12 := by
                have := (List.getElem?_eq_some_iff.1 hj).1
                rw [hC] at this
                simpa [qA] using this
              have h0 := hR4.cellAt HKK.out hj12
              rw [h0, show L[kk]'HKK.out = qE (T k)[i] from HSP.out]
              rw [hC] at hj
              exact hj)
            have HCO := Lib.hid (show ∀ v ∈ C.toList, v.oneCell' = true from fun v hv => qA_one _ v (by rw [← hC]; exact hv))
            have hfl := HM.out.fl k _ (List.getElem_mem hiT)
            obtain ⟨st, hst⟩ : ∃ st, st = (T k)[i].pr.st := ⟨_, rfl⟩
            obtain ⟨cau, hcau⟩ : ∃ cau, cau = (T k)[i].pr.cau := ⟨_, rfl⟩
            obtain ⟨til, htil⟩ : ∃ til, til = (T k)[i].pr.til := ⟨_, rfl⟩
            have HCE := Lib.hid (show C = #[.int .i64 ((T k)[i].pr.lab : Nat), .int .i64 m, .int .i64 0, .int .i64 st, .int .i64 cau, .bool false, .int .u8 0, .int .u16 0, .int .u16 0, .int .u64 til, .int .i32 0, .bool false] from by
              rw [hC, HMN.out, hst, hcau, htil]
              rfl)
            have hst2 : st = 1 ∨ st = 2 := by rw [hst]; exact hfl.st
            have hcau2 : cau ≤ 2 := by rw [hcau]; exact hfl.cau
            have hrowc := HROW.out.of_block (HB4.out.block _ HROW.out.lt)
            have HP := Lib.hid (show ∀ w5, Below wc.heap.size wc w5 → w5.cell? ⟨b, 2, none⟩ = some (.int .u16 0) ∧ w5.cell? ⟨b, 5, none⟩ = some (.int .u8 st) ∧ w5.cell? ⟨b, 6, none⟩ = some (.int .u8 cau) ∧ w5.cell? ⟨b, 7, none⟩ = some (.bool false) ∧ w5.cell? ⟨b, 8, none⟩ = some (.int .u8 0) ∧ w5.cell? ⟨b, 9, none⟩ = some (.int .u16 0) ∧ w5.cell? ⟨b, 10, none⟩ = some (.int .u16 0) ∧ w5.cell? ⟨b, 11, none⟩ = some (.int .u64 til) ∧ w5.cell? ⟨b, 13, none⟩ = some (.bool false) from fun w5 hb5 => by
              have hr5 := hrowc.of_block (hb5.block _ hrowc.lt)
              refine ⟨?_, ?_, ?_, ?_, ?_, ?_, ?_, ?_, ?_⟩
              · rw [hr5.cell (i := 2) (by omega)]; show some (Value.int .u16 ((T k)[i].pr.par : Nat)) = _; rw [hfl.par]; rfl
              · rw [hr5.cell (i := 5) (by omega), hst]; rfl
              · rw [hr5.cell (i := 6) (by omega), hcau]; rfl
              · rw [hr5.cell (i := 7) (by omega)]; show some (Value.bool (T k)[i].pr.nmd) = _; rw [hfl.nmd]
              · rw [hr5.cell (i := 8) (by omega)]; show some (Value.int .u8 ((T k)[i].pr.n0 : Nat)) = _; rw [hfl.n0]; rfl
              · rw [hr5.cell (i := 9) (by omega)]; show some (Value.int .u16 ((T k)[i].pr.n1 : Nat)) = _; rw [hfl.n1]; rfl
              · rw [hr5.cell (i := 10) (by omega)]; show some (Value.int .u16 ((T k)[i].pr.n2 : Nat)) = _; rw [hfl.n2]; rfl
              · rw [hr5.cell (i := 11) (by omega), htil]; rfl
              · rw [hr5.cell (i := 13) (by omega)]; show some (Value.bool (T k)[i].pr.kil) = _; rw [hfl.kil])
            have fz : (kk : Int) < z := hkz
            clear hC hpx hvp hR4 hT4 hrowc hfl hst hcau htil hneq hbg
            go_wp2_with (first | (refine wpList_load_pieceTo rfl 131 (.tmp 101) rfl (some 102) rfl gp (kk * 12) rfl C _ HPC2.out Try.underlying131 rfl HCP.out ?_) | (with_reducible refine wpList_stop none rfl ?_))
            refine Lib.hid ?_
            have hl1 := heap_alloc_last wc (.cells #[.int .i64 0, .int .i64 0, .int .i64 0, .int .i64 0, .int .i64 0, .bool false, .int .u8 0, .int .u16 0, .int .u16 0, .int .u64 0, .int .i32 0, .bool false] 131)
            have hb1 := bnew wc (.cells #[.int .i64 0, .int .i64 0, .int .i64 0, .int .i64 0, .int .i64 0, .bool false, .int .u8 0, .int .u16 0, .int .u16 0, .int .u64 0, .int .i32 0, .bool false] 131)
            obtain ⟨N, hN⟩ : ∃ N, N = wc.heap.size := ⟨_, rfl⟩
            refine wpList_store_pieceTo rfl 131 _ _ rfl rfl wc.heap.size 0 C (by go_simp) (by go_simp) HCP.out (fun j hj => by rw [Nat.zero_add, rowcell hl1, Array.getElem?_eq_getElem (by rw [HCS.out] at hj; exact hj)]; rfl) (fun j hj => rowfree hl1 _) HCO.out (fun w5 hw5 => ?_)
            obtain ⟨e9, o9⟩ := setCells_whole (cs := C) hl1 (by rw [HCS.out]; rfl)
            rw [← hw5] at e9 o9
            have hb5 : Below wc.heap.size wc w5 := bone hb1 o9 (Nat.le_refl _) hb1.size
            have HB5 := Lib.hid hb5
            rw [← hN] at e9 ⊢
            have n2 : (World.drew w5).cell? ⟨N, 2, none⟩ = some (.int .i64 0) := by show w5.cell? _ = _; rw [rowcell e9, HCE.out]; rfl
            have n3 : (World.drew w5).cell? ⟨N, 3, none⟩ = some (.int .i64 st) := by show w5.cell? _ = _; rw [rowcell e9, HCE.out]; rfl
            have n4 : (World.drew w5).cell? ⟨N, 4, none⟩ = some (.int .i64 cau) := by show w5.cell? _ = _; rw [rowcell e9, HCE.out]; rfl
            have n5 : (World.drew w5).cell? ⟨N, 5, none⟩ = some (.bool false) := by show w5.cell? _ = _; rw [rowcell e9, HCE.out]; rfl
            have n6 : (World.drew w5).cell? ⟨N, 6, none⟩ = some (.int .u8 0) := by show w5.cell? _ = _; rw [rowcell e9, HCE.out]; rfl
            have n7 : (World.drew w5).cell? ⟨N, 7, none⟩ = some (.int .u16 0) := by show w5.cell? _ = _; rw [rowcell e9, HCE.out]; rfl
            have n8 : (World.drew w5).cell? ⟨N, 8, none⟩ = some (.int .u16 0) := by show w5.cell? _ = _; rw [rowcell e9, HCE.out]; rfl
            have n9 : (World.drew w5).cell? ⟨N, 9, none⟩ = some (.int .u64 til) := by show w5.cell? _ = _; rw [rowcell e9, HCE.out]; rfl
            have n11 : (World.drew w5).cell? ⟨N, 11, none⟩ = some (.bool false) := by show w5.cell? _ = _; rw [rowcell e9, HCE.out]; rfl
            obtain ⟨p2, p5, p6, p7, p8, p9, p10, p11, p13⟩ := HP.out (World.drew w5) (hb5.trans ((drewb w5).mono hb5.size))
            have s1 : IntKind.i64.wrap (st : Int) = st := by simp [IntKind.wrap, IntKind.bits, IntKind.signed]; omega
            have s2 : IntKind.i64.wrap (cau : Int) = cau := by simp [IntKind.wrap, IntKind.bits, IntKind.signed]; omega
            have s3 : ((st : Int) == 3) = false := by rw [beq_eq_false_iff_ne]; omega
            have s4 : (st == 3) = false := by rw [beq_eq_false_iff_ne]; omega
            have hq1 := fun w => eqIno0 w
            have hq2 := fun w => neqIno0 w
            clear hw5 e9 o9 hb5 hb1 hl1 hN c1 hst2 hcau2
            go_upto_region 15 with fail
            as_aux_lemma =>
              refine wp_region_held (S := fun w' => w' = World.drew w5) (by kernel_rfl) ?_
              change wpAnyH _ _ _ _ _ _ _ _ (World.drew _)
              refine takeH 0 (.pointer (some ⟨b, 0, none⟩)) (some 103) rfl rfl (by kernel_rfl) (by kernel_rfl) (by kernel_rfl) (fun _ _ _ h => h) (.inl ⟨by kernel_rfl, fun w' hw => by rcases hw with rfl; go_simp⟩) rfl ?_
              refine takeH 1 (.pointer (some ⟨b, 0, none⟩)) (some 104) rfl rfl (by kernel_rfl) (by kernel_rfl) (by kernel_rfl) (fun _ _ _ h => h) (.inl ⟨by kernel_rfl, fun w' hw => by rcases hw with rfl; go_simp⟩) rfl ?_
              refine takeH 2 (.pointer (some ⟨b, 2, none⟩)) (some 105) rfl rfl (by kernel_rfl) (by kernel_rfl) (by kernel_rfl) (fun _ _ _ h => h) (.inl ⟨by kernel_rfl, fun w' hw => by rcases hw with rfl; go_simp⟩) rfl ?_
              go_simp
              refine takeH 3 (.int .u16 0) (some 106) rfl rfl (by kernel_rfl) (by kernel_rfl) (by kernel_rfl) (fun _ _ _ h => h) (.inl ⟨by kernel_rfl, fun w' hw => by rcases hw with rfl; go_simp⟩) rfl ?_
              refine takeH 4 (.int .i64 0) (some 107) rfl rfl (by kernel_rfl) (by kernel_rfl) (by kernel_rfl) (fun _ _ _ h => h) (.inl ⟨by kernel_rfl, fun w' hw => by rcases hw with rfl; go_simp; try rfl⟩) rfl ?_
              refine takeH 5 (.pointer (some ⟨N, 2, none⟩)) (some 108) rfl rfl (by kernel_rfl) (by kernel_rfl) (by kernel_rfl) (fun _ _ _ h => h) (.inl ⟨by kernel_rfl, fun w' hw => by rcases hw with rfl; go_simp⟩) rfl ?_
              refine takeH 6 (.int .i64 0) (some 109) rfl rfl (by kernel_rfl) (by kernel_rfl) (by kernel_rfl) (fun _ _ _ h => h) (.inl ⟨by kernel_rfl, fun w' hw => by rcases hw with rfl; go_simp⟩) rfl ?_
              go_simp
              refine takeH 7 (.bool false) (some 110) rfl rfl (by kernel_rfl) (by kernel_rfl) (by kernel_rfl) (fun _ _ _ h => h) (.inl ⟨by kernel_rfl, fun w' hw => by rcases hw with rfl; go_simp⟩) rfl ?_
              refine takeH 8 (.bool false) (some 111) rfl rfl (by kernel_rfl) (by kernel_rfl) (by kernel_rfl) (fun _ _ _ h => h) (.inl ⟨by kernel_rfl, fun w' hw => by rcases hw with rfl; go_simp⟩) rfl ?_
              go_simp
              refine takeH 9 (.pointer (some ⟨b, 0, none⟩)) (some 112) rfl rfl (by kernel_rfl) (by kernel_rfl) (by kernel_rfl) (fun _ _ _ h => h) (.inl ⟨by kernel_rfl, fun w' hw => by rcases hw with rfl; go_simp⟩) rfl ?_
              refine takeH 10 (.pointer (some ⟨b, 0, none⟩)) (some 113) rfl rfl (by kernel_rfl) (by kernel_rfl) (by kernel_rfl) (fun _ _ _ h => h) (.inl ⟨by kernel_rfl, fun w' hw => by rcases hw with rfl; go_simp⟩) rfl ?_
              refine takeH 11 (.pointer (some ⟨b, 5, none⟩)) (some 114) rfl rfl (by kernel_rfl) (by kernel_rfl) (by kernel_rfl) (fun _ _ _ h => h) (.inl ⟨by kernel_rfl, fun w' hw => by rcases hw with rfl; go_simp⟩) rfl ?_
              go_simp
              refine takeH 12 (.int .u8 st) (some 115) rfl rfl (by kernel_rfl) (by kernel_rfl) (by kernel_rfl) (fun _ _ _ h => h) (.inl ⟨by kernel_rfl, fun w' hw => by rcases hw with rfl; go_simp⟩) rfl ?_
              refine takeH 13 (.int .i64 st) (some 116) rfl rfl (by kernel_rfl) (by kernel_rfl) (by kernel_rfl) (fun _ _ _ h => h) (.inl ⟨by kernel_rfl, fun w' hw => by rcases hw with rfl; go_simp⟩) rfl ?_
              refine takeH 14 (.pointer (some ⟨N, 3, none⟩)) (some 117) rfl rfl (by kernel_rfl) (by kernel_rfl) (by kernel_rfl) (fun _ _ _ h => h) (.inl ⟨by kernel_rfl, fun w' hw => by rcases hw with rfl; go_simp⟩) rfl ?_
              refine takeH 15 (.int .i64 st) (some 118) rfl rfl (by kernel_rfl) (by kernel_rfl) (by kernel_rfl) (fun _ _ _ h => h) (.inl ⟨by kernel_rfl, fun w' hw => by rcases hw with rfl; go_simp⟩) rfl ?_
              go_simp
              refine takeH 16 (.bool false) (some 119) rfl rfl (by kernel_rfl) (by kernel_rfl) (by kernel_rfl) (fun _ _ _ h => h) (.inl ⟨by kernel_rfl, fun w' hw => by rcases hw with rfl; go_simp⟩) rfl ?_
              refine takeH 17 (.bool false) (some 120) rfl rfl (by kernel_rfl) (by kernel_rfl) (by kernel_rfl) (fun _ _ _ h => h) (.inl ⟨by kernel_rfl, fun w' hw => by rcases hw with rfl; go_simp⟩) rfl ?_
              refine takeH 18 (.bool false) (some 121) rfl rfl (by kernel_rfl) (by kernel_rfl) (by kernel_rfl) (fun _ _ _ h => h) (.inl ⟨by kernel_rfl, fun w' hw => by rcases hw with rfl; go_simp⟩) rfl ?_
              go_simp
              refine takeH 19 (.pointer (some ⟨b, 0, none⟩)) (some 122) rfl rfl (by kernel_rfl) (by kernel_rfl) (by kernel_rfl) (fun _ _ _ h => h) (.inl ⟨by kernel_rfl, fun w' hw => by rcases hw with rfl; go_simp⟩) rfl ?_
              refine takeH 20 (.pointer (some ⟨b, 0, none⟩)) (some 123) rfl rfl (by kernel_rfl) (by kernel_rfl) (by kernel_rfl) (fun _ _ _ h => h) (.inl ⟨by kernel_rfl, fun w' hw => by rcases hw with rfl; go_simp⟩) rfl ?_
              refine takeH 21 (.pointer (some ⟨b, 6, none⟩)) (some 124) rfl rfl (by kernel_rfl) (by kernel_rfl) (by kernel_rfl) (fun _ _ _ h => h) (.inl ⟨by kernel_rfl, fun w' hw => by rcases hw with rfl; go_simp⟩) rfl ?_
              refine takeH 22 (.pointer (some ⟨b, 6, none⟩)) (some 125) rfl rfl (by kernel_rfl) (by kernel_rfl) (by kernel_rfl) (fun _ _ _ h => h) (.inl ⟨by kernel_rfl, fun w' hw => by rcases hw with rfl; go_simp⟩) rfl ?_
              go_simp
              refine takeH 23 (.int .u8 cau) (some 126) rfl rfl (by kernel_rfl) (by kernel_rfl) (by kernel_rfl) (fun _ _ _ h => h) (.inl ⟨by kernel_rfl, fun w' hw => by rcases hw with rfl; go_simp⟩) rfl ?_
              refine takeH 24 (.int .i64 cau) (some 127) rfl rfl (by kernel_rfl) (by kernel_rfl) (by kernel_rfl) (fun _ _ _ h => h) (.inl ⟨by kernel_rfl, fun w' hw => by rcases hw with rfl; go_simp⟩) rfl ?_
              refine takeH 25 (.pointer (some ⟨N, 4, none⟩)) (some 128) rfl rfl (by kernel_rfl) (by kernel_rfl) (by kernel_rfl) (fun _ _ _ h => h) (.inl ⟨by kernel_rfl, fun w' hw => by rcases hw with rfl; go_simp⟩) rfl ?_
              refine takeH 26 (.int .i64 cau) (some 129) rfl rfl (by kernel_rfl) (by kernel_rfl) (by kernel_rfl) (fun _ _ _ h => h) (.inl ⟨by kernel_rfl, fun w' hw => by rcases hw with rfl; go_simp⟩) rfl ?_
              go_simp
              refine takeH 27 (.bool false) (some 130) rfl rfl (by kernel_rfl) (by kernel_rfl) (by kernel_rfl) (fun _ _ _ h => h) (.inl ⟨by kernel_rfl, fun w' hw => by rcases hw with rfl; go_simp⟩) rfl ?_
              refine takeH 28 (.bool false) (some 131) rfl rfl (by kernel_rfl) (by kernel_rfl) (by kernel_rfl) (fun _ _ _ h => h) (.inl ⟨by kernel_rfl, fun w' hw => by rcases hw with rfl; go_simp⟩) rfl ?_
              refine takeH 29 (.bool false) (some 132) rfl rfl (by kernel_rfl) (by kernel_rfl) (by kernel_rfl) (fun _ _ _ h => h) (.inl ⟨by kernel_rfl, fun w' hw => by rcases hw with rfl; go_simp⟩) rfl ?_
              go_simp
              refine takeH 30 (.pointer (some ⟨b, 0, none⟩)) (some 133) rfl rfl (by kernel_rfl) (by kernel_rfl) (by kernel_rfl) (fun _ _ _ h => h) (.inl ⟨by kernel_rfl, fun w' hw => by rcases hw with rfl; go_simp⟩) rfl ?_
              refine takeH 31 (.pointer (some ⟨b, 0, none⟩)) (some 134) rfl rfl (by kernel_rfl) (by kernel_rfl) (by kernel_rfl) (fun _ _ _ h => h) (.inl ⟨by kernel_rfl, fun w' hw => by rcases hw with rfl; go_simp⟩) rfl ?_
              refine takeH 32 (.pointer (some ⟨b, 6, none⟩)) (some 135) rfl rfl (by kernel_rfl) (by kernel_rfl) (by kernel_rfl) (fun _ _ _ h => h) (.inl ⟨by kernel_rfl, fun w' hw => by rcases hw with rfl; go_simp⟩) rfl ?_
              refine takeH 33 (.pointer (some ⟨b, 7, none⟩)) (some 136) rfl rfl (by kernel_rfl) (by kernel_rfl) (by kernel_rfl) (fun _ _ _ h => h) (.inl ⟨by kernel_rfl, fun w' hw => by rcases hw with rfl; go_simp⟩) rfl ?_
              go_simp
              refine takeH 34 (.bool false) (some 137) rfl rfl (by kernel_rfl) (by kernel_rfl) (by kernel_rfl) (fun _ _ _ h => h) (.inl ⟨by kernel_rfl, fun w' hw => by rcases hw with rfl; go_simp⟩) rfl ?_
              refine takeH 35 (.pointer (some ⟨N, 5, none⟩)) (some 138) rfl rfl (by kernel_rfl) (by kernel_rfl) (by kernel_rfl) (fun _ _ _ h => h) (.inl ⟨by kernel_rfl, fun w' hw => by rcases hw with rfl; go_simp⟩) rfl ?_
              refine takeH 36 (.bool false) (some 139) rfl rfl (by kernel_rfl) (by kernel_rfl) (by kernel_rfl) (fun _ _ _ h => h) (.inl ⟨by kernel_rfl, fun w' hw => by rcases hw with rfl; go_simp⟩) rfl ?_
              go_simp
              refine takeH 37 (.bool false) (some 140) rfl rfl (by kernel_rfl) (by kernel_rfl) (by kernel_rfl) (fun _ _ _ h => h) (.inl ⟨by kernel_rfl, fun w' hw => by rcases hw with rfl; go_simp⟩) rfl ?_
              refine takeH 38 (.bool false) (some 141) rfl rfl (by kernel_rfl) (by kernel_rfl) (by kernel_rfl) (fun _ _ _ h => h) (.inl ⟨by kernel_rfl, fun w' hw => by rcases hw with rfl; go_simp⟩) rfl ?_
              refine takeH 39 (.bool false) (some 142) rfl rfl (by kernel_rfl) (by kernel_rfl) (by kernel_rfl) (fun _ _ _ h => h) (.inl ⟨by kernel_rfl, fun w' hw => by rcases hw with rfl; go_simp⟩) rfl ?_
              go_simp
              refine takeH 40 (.pointer (some ⟨b, 0, none⟩)) (some 143) rfl rfl (by kernel_rfl) (by kernel_rfl) (by kernel_rfl) (fun _ _ _ h => h) (.inl ⟨by kernel_rfl, fun w' hw => by rcases hw with rfl; go_simp⟩) rfl ?_
              refine takeH 41 (.pointer (some ⟨b, 0, none⟩)) (some 144) rfl rfl (by kernel_rfl) (by kernel_rfl) (by kernel_rfl) (fun _ _ _ h => h) (.inl ⟨by kernel_rfl, fun w' hw => by rcases hw with rfl; go_simp⟩) rfl ?_
              refine takeH 42 (.pointer (some ⟨b, 6, none⟩)) (some 145) rfl rfl (by kernel_rfl) (by kernel_rfl) (by kernel_rfl) (fun _ _ _ h => h) (.inl ⟨by kernel_rfl, fun w' hw => by rcases hw with rfl; go_simp⟩) rfl ?_
              refine takeH 43 (.pointer (some ⟨b, 8, none⟩)) (some 146) rfl rfl (by kernel_rfl) (by kernel_rfl) (by kernel_rfl) (fun _ _ _ h => h) (.inl ⟨by kernel_rfl, fun w' hw => by rcases hw with rfl; go_simp⟩) rfl ?_
              go_simp
              refine takeH 44 (.agg #[.int .u8 0, .int .u16 0, .int .u16 0]) (some 147) rfl rfl (by kernel_rfl) (by kernel_rfl) (by kernel_rfl) (fun _ _ _ h => h) (yi_piece (by rfl) 49 (.tmp 146) rfl b 8 (by go_simp) #[.int .u8 0, .int .u16 0, .int .u16 0] _ (fun w' hw j v hj => by
                rcases hw with rfl
                rcases j with _ | _ | _ | j <;> simp at hj
                · rw [← hj]; exact p8
                · rw [← hj]; exact p9
                · rw [← hj]; exact p10) Try.underlying49 rfl (by kernel_rfl)) rfl ?_
              refine takeH 45 (.pointer (some ⟨N, 6, none⟩)) (some 148) rfl rfl (by kernel_rfl) (by kernel_rfl) (by kernel_rfl) (fun _ _ _ h => h) (.inl ⟨by kernel_rfl, fun w' hw => by rcases hw with rfl; go_simp⟩) rfl ?_
              refine takeH 46 (.agg #[.int .u8 0, .int .u16 0, .int .u16 0]) (some 149) rfl rfl (by kernel_rfl) (by kernel_rfl) (by kernel_rfl) (fun _ _ _ h => h) (yi_piece (by rfl) 49 (.tmp 148) rfl N 6 (by go_simp) #[.int .u8 0, .int .u16 0, .int .u16 0] _ (fun w' hw j v hj => by
                rcases hw with rfl
                rcases j with _ | _ | _ | j <;> simp at hj
                · rw [← hj]; exact n6
                · rw [← hj]; exact n7
                · rw [← hj]; exact n8) Try.underlying49 rfl (by kernel_rfl)) rfl ?_
              go_simp
              refine takeH 47 (.bool false) (some 150) rfl rfl (by kernel_rfl) (by kernel_rfl) (by kernel_rfl) (fun _ _ _ h => h) (.inl ⟨by kernel_rfl, fun w' hw => by have hq := neqIno0 w'; go_simp⟩) rfl ?_
              refine takeH 48 (.bool false) (some 151) rfl rfl (by kernel_rfl) (by kernel_rfl) (by kernel_rfl) (fun _ _ _ h => h) (.inl ⟨by kernel_rfl, fun w' hw => by rcases hw with rfl; go_simp⟩) rfl ?_
              refine takeH 49 (.bool false) (some 152) rfl rfl (by kernel_rfl) (by kernel_rfl) (by kernel_rfl) (fun _ _ _ h => h) (.inl ⟨by kernel_rfl, fun w' hw => by rcases hw with rfl; go_simp⟩) rfl ?_
              go_simp
              refine takeH 50 (.pointer (some ⟨b, 0, none⟩)) (some 153) rfl rfl (by kernel_rfl) (by kernel_rfl) (by kernel_rfl) (fun _ _ _ h => h) (.inl ⟨by kernel_rfl, fun w' hw => by rcases hw with rfl; go_simp⟩) rfl ?_
              refine takeH 51 (.pointer (some ⟨b, 0, none⟩)) (some 154) rfl rfl (by kernel_rfl) (by kernel_rfl) (by kernel_rfl) (fun _ _ _ h => h) (.inl ⟨by kernel_rfl, fun w' hw => by rcases hw with rfl; go_simp⟩) rfl ?_
              refine takeH 52 (.pointer (some ⟨b, 11, none⟩)) (some 155) rfl rfl (by kernel_rfl) (by kernel_rfl) (by kernel_rfl) (fun _ _ _ h => h) (.inl ⟨by kernel_rfl, fun w' hw => by rcases hw with rfl; go_simp⟩) rfl ?_
              go_simp
              refine takeH 53 (.int .u64 til) (some 156) rfl rfl (by kernel_rfl) (by kernel_rfl) (by kernel_rfl) (fun _ _ _ h => h) (.inl ⟨by kernel_rfl, fun w' hw => by rcases hw with rfl; go_simp⟩) rfl ?_
              refine takeH 54 (.pointer (some ⟨N, 9, none⟩)) (some 157) rfl rfl (by kernel_rfl) (by kernel_rfl) (by kernel_rfl) (fun _ _ _ h => h) (.inl ⟨by kernel_rfl, fun w' hw => by rcases hw with rfl; go_simp⟩) rfl ?_
              refine takeH 55 (.int .u64 til) (some 158) rfl rfl (by kernel_rfl) (by kernel_rfl) (by kernel_rfl) (fun _ _ _ h => h) (.inl ⟨by kernel_rfl, fun w' hw => by rcases hw with rfl; go_simp⟩) rfl ?_
              go_simp
              refine takeH 56 (.bool false) (some 159) rfl rfl (by kernel_rfl) (by kernel_rfl) (by kernel_rfl) (fun _ _ _ h => h) (.inl ⟨by kernel_rfl, fun w' hw => by rcases hw with rfl; go_simp⟩) rfl ?_
              refine takeH 57 (.bool false) (some 160) rfl rfl (by kernel_rfl) (by kernel_rfl) (by kernel_rfl) (fun _ _ _ h => h) (.inl ⟨by kernel_rfl, fun w' hw => by rcases hw with rfl; go_simp⟩) rfl ?_
              refine takeH 58 (.bool false) (some 161) rfl rfl (by kernel_rfl) (by kernel_rfl) (by kernel_rfl) (fun _ _ _ h => h) (.inl ⟨by kernel_rfl, fun w' hw => by rcases hw with rfl; go_simp⟩) rfl ?_
              go_simp
              refine takeH 59 (.pointer (some ⟨b, 0, none⟩)) (some 162) rfl rfl (by kernel_rfl) (by kernel_rfl) (by kernel_rfl) (fun _ _ _ h => h) (.inl ⟨by kernel_rfl, fun w' hw => by rcases hw with rfl; go_simp⟩) rfl ?_
              refine takeH 60 (.pointer (some ⟨b, 0, none⟩)) (some 163) rfl rfl (by kernel_rfl) (by kernel_rfl) (by kernel_rfl) (fun _ _ _ h => h) (.inl ⟨by kernel_rfl, fun w' hw => by rcases hw with rfl; go_simp⟩) rfl ?_
              refine takeH 61 (.pointer (some ⟨b, 13, none⟩)) (some 164) rfl rfl (by kernel_rfl) (by kernel_rfl) (by kernel_rfl) (fun _ _ _ h => h) (.inl ⟨by kernel_rfl, fun w' hw => by rcases hw with rfl; go_simp⟩) rfl ?_
              go_simp
              refine takeH 62 (.bool false) (some 165) rfl rfl (by kernel_rfl) (by kernel_rfl) (by kernel_rfl) (fun _ _ _ h => h) (.inl ⟨by kernel_rfl, fun w' hw => by rcases hw with rfl; go_simp⟩) rfl ?_
              refine takeH 63 (.pointer (some ⟨N, 11, none⟩)) (some 166) rfl rfl (by kernel_rfl) (by kernel_rfl) (by kernel_rfl) (fun _ _ _ h => h) (.inl ⟨by kernel_rfl, fun w' hw => by rcases hw with rfl; go_simp⟩) rfl ?_
              refine takeH 64 (.bool false) (some 167) rfl rfl (by kernel_rfl) (by kernel_rfl) (by kernel_rfl) (fun _ _ _ h => h) (.inl ⟨by kernel_rfl, fun w' hw => by rcases hw with rfl; go_simp⟩) rfl ?_
              go_simp
              refine takeH 65 (.bool false) (some 168) rfl rfl (by kernel_rfl) (by kernel_rfl) (by kernel_rfl) (fun _ _ _ h => h) (.inl ⟨by kernel_rfl, fun w' hw => by rcases hw with rfl; go_simp⟩) rfl ?_
              refine takeH 66 (.bool false) (some 169) rfl rfl (by kernel_rfl) (by kernel_rfl) (by kernel_rfl) (fun _ _ _ h => h) (.inl ⟨by kernel_rfl, fun w' hw => by rcases hw with rfl; go_simp⟩) rfl ?_
              refine takeH 67 (.bool false) (some 170) rfl rfl (by kernel_rfl) (by kernel_rfl) (by kernel_rfl) (fun _ _ _ h => h) (.inl ⟨by kernel_rfl, fun w' hw => by rcases hw with rfl; go_simp⟩) rfl ?_
              go_simp
              refine takeH 68 (.pointer (some ⟨N, 3, none⟩)) (some 171) rfl rfl (by kernel_rfl) (by kernel_rfl) (by kernel_rfl) (fun _ _ _ h => h) (.inl ⟨by kernel_rfl, fun w' hw => by rcases hw with rfl; go_simp⟩) rfl ?_
              refine takeH 69 (.int .i64 st) (some 172) rfl rfl (by kernel_rfl) (by kernel_rfl) (by kernel_rfl) (fun _ _ _ h => h) (.inl ⟨by kernel_rfl, fun w' hw => by rcases hw with rfl; go_simp⟩) rfl ?_
              refine takeH 70 (.bool false) (some 173) rfl rfl (by kernel_rfl) (by kernel_rfl) (by kernel_rfl) (fun _ _ _ h => h) (.inl ⟨by kernel_rfl, fun w' hw => by rcases hw with rfl; go_simp⟩) rfl ?_
              refine takeH 71 (.bool false) (some 174) rfl rfl (by kernel_rfl) (by kernel_rfl) (by kernel_rfl) (fun _ _ _ h => h) (.inl ⟨by kernel_rfl, fun w' hw => by rcases hw with rfl; go_simp⟩) rfl ?_
              go_simp
              refine takeH 72 (undef) (some 175) rfl rfl (by kernel_rfl) (by kernel_rfl) (by kernel_rfl) (fun _ _ _ h => h) (.inr ⟨by kernel_rfl, rfl⟩) rfl ?_
              refine takeH 73 (undef) (some 176) rfl rfl (by kernel_rfl) (by kernel_rfl) (by kernel_rfl) (fun _ _ _ h => h) (.inr ⟨by kernel_rfl, rfl⟩) rfl ?_
              refine takeH 74 (undef) (some 177) rfl rfl (by kernel_rfl) (by kernel_rfl) (by kernel_rfl) (fun _ _ _ h => h) (.inr ⟨by kernel_rfl, rfl⟩) rfl ?_
              refine takeH 75 (undef) (some 178) rfl rfl (by kernel_rfl) (by kernel_rfl) (by kernel_rfl) (fun _ _ _ h => h) (.inr ⟨by kernel_rfl, rfl⟩) rfl ?_
              refine takeH 76 (undef) (some 179) rfl rfl (by kernel_rfl) (by kernel_rfl) (by kernel_rfl) (fun _ _ _ h => h) (.inr ⟨by kernel_rfl, rfl⟩) rfl ?_
              refine takeH 77 (undef) (some 180) rfl rfl (by kernel_rfl) (by kernel_rfl) (by kernel_rfl) (fun _ _ _ h => h) (.inr ⟨by kernel_rfl, rfl⟩) rfl ?_
              refine takeH 78 (undef) (some 181) rfl rfl (by kernel_rfl) (by kernel_rfl) (by kernel_rfl) (fun _ _ _ h => h) (.inr ⟨by kernel_rfl, rfl⟩) rfl ?_
              go_simp
              refine takeH 79 (.bool false) (some 182) rfl rfl (by kernel_rfl) (by kernel_rfl) (by kernel_rfl) (fun _ _ _ h => h) (.inl ⟨by kernel_rfl, fun w' hw => by rcases hw with rfl; go_simp⟩) rfl ?_
              refine takeH 80 (.bool false) (some 183) rfl rfl (by kernel_rfl) (by kernel_rfl) (by kernel_rfl) (fun _ _ _ h => h) (.inl ⟨by kernel_rfl, fun w' hw => by rcases hw with rfl; go_simp⟩) rfl ?_
              refine wpAnyH_done (by kernel_rfl) ?_ _
              go_simp
              go_wp2_with fail
              go_roundw
              case rel => exact ⟨i + 1, by omega, by go_num, by go_num, bnext HB2X.out (bnext HB4.out (bnext HB5.out (drewb w5)))⟩
              case measure => simp [intOf]; omega
        · obtain rfl : i = M := by omega
          go_wp2_with fail
          go_roundw
          case rel => exact ⟨k + 1, s0 + i, by omega, by go_num, rfl, by show _ = cntT (fun _ => true) T k + cntB (fun _ => true) (T k); rw [cntB_true, ← HMM.out, ← HS0.out], by omega, HBX.out⟩
          case measure => simp [intOf]; omega
    · obtain rfl : k = n := by omega
      have c1 := HRr.out.c1
      rw [HV.out, ← HZ.out] at c1
      have hzs : s0 = z := by
        have h1 := HM.out.total
        rw [← HS0.out, ← HZ.out] at h1
        exact h1.symm
      subst hzs
      go_wp2_with fail
      go_ret
      exact ⟨rfl, HB.out⟩
end
end Go.Proofs.Ytpjfnmmgfmfcfaa
