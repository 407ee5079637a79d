/- Processes: TaskFamilies. -/
import Derived.Test.YtiedenjcmkebaaaTskO
set_option linter.unusedVariables false
set_option linter.unusedSimpArgs false
namespace Go.Proofs.Ytiedenjcmkebaaa
open Go.RowKit
open Go.Maps (Keyed)

section
variable {B : Nat} {w0 w w' : World} {g gm gd : Nat} {a : Option Addr} {T T' : Nat → List TE} {D D' : Nat → Option Bool}
/-- All that the walk holds. -/
structure FM (B : Nat) (w0 w : World) (g gm gd : Nat) (a : Option Addr) (T : Nat → List TE) (D : Nat → Option Bool) : Prop where
  bl : Below w0.heap.size w0 w
  tt : TT B w g gm a T
  mp : MB w Try.prog 39 gd u16V Value.bool D
  ne : gd ≠ gm
  b0 : w0.heap.size ≤ B
  b2 : w0.heap.size ≤ gd
  b3 : B ≤ g
  b4 : B ≤ gm
  b5 : B ≤ w.heap.size
theorem FM.keep (h : FM B w0 w g gm gd a T D) (hb : Below w.heap.size w w') : FM B w0 w' g gm gd a T D :=
  ⟨h.bl.trans (hb.mono h.bl.size), h.tt.keep hb, h.mp.keep hb, h.ne, h.b0, h.b2, h.b3, h.b4, Nat.le_trans h.b5 hb.size⟩
theorem FM.gdS (h : FM B w0 w g gm gd a T D) : ¬ tS g gm T gd := fun hk => by
  rcases hk with e | e | ⟨l, t, ht, e⟩
  · have := rowIs_arr h.tt.tp.row
    rw [← e] at this
    exact h.mp.mp.notCells this
  · exact h.ne e
  · have := rowIs_arr (h.tt.pr l t ht)
    rw [e] at this
    exact h.mp.mp.notCells this
theorem FM.tab (h : FM B w0 w g gm gd a T D) (c : Chg (tS g gm T) w w') (ht : TT B w' g gm a T') : FM B w0 w' g gm gd a T' D :=
  ⟨Chg.go h.bl c (fun k hk => by
    have h0 := h.b0
    have h3 := h.b3
    have h4 := h.b4
    rcases hk with rfl | rfl | ⟨l, t, ht, rfl⟩
    · omega
    · omega
    · have := h.tt.ok.base _ _ ht; omega) h.bl.size, ht, h.mp.keepAt (c.block gd h.mp.mp.lt h.gdS), h.ne, h.b0, h.b2, h.b3, h.b4, Nat.le_trans h.b5 c.size⟩
theorem FM.map (h : FM B w0 w g gm gd a T D) (o : One w w' (some gd)) (hm : MB w' Try.prog 39 gd u16V Value.bool D') : FM B w0 w' g gm gd a T D' :=
  ⟨bone h.bl o h.b2 h.bl.size, h.tt.one o h.gdS, hm, h.ne, h.b0, h.b2, h.b3, h.b4, Nat.le_trans h.b5 o.size⟩
end

theorem HearP.all {B g gm : Nat} {a : Option Addr} {T : Nat → List TE} {l n : Nat} {w w' : World} {e : Ending} (h : HearP B g gm a T l n w e w') :
    ∃ (num : Nat) (sta f : Int) (T2 : Nat → List TE), e = .returned (.tuple #[.int .u16 num, .int .i32 sta, .int .i64 f]) ∧ TT B w' g gm a T2 ∧ Duo w w' g gm ∧
      ((∃ t, hearL (T l) n = some t ∧ num = t.pr.num ∧ f = 0 ∧ T2 = setT T l (dropE (T l) t.pr.num)) ∨ (hearL (T l) n = none ∧ num = 0 ∧ f = (if kidsL (T l) n = [] then 17 else 33) ∧ T2 = T)) := by
  obtain ⟨hd, ⟨t, h1, h2, h3⟩ | ⟨h1, h2, h3⟩⟩ := h
  · exact ⟨_, _, _, _, h2, h3, hd, .inl ⟨t, h1, rfl, rfl, rfl⟩⟩
  · exact ⟨0, _, _, _, h2, h3, hd, .inr ⟨h1, rfl, rfl, rfl⟩⟩
set_option maxRecDepth 200000 in
set_option maxHeartbeats 16000000 in
theorem taskFamilies_walk (W : World) (v0 v1 : Value) (o0 : Arg Try.prog W 5 v0) (o1 : Arg Try.prog W 24 v1) :
    Calls Try.prog 5 #[v0, v1] W fun e w' => e = .returned (.bool true) ∧ Below W.heap.size W w' := by
  obtain ⟨x0, rfl, h1⟩ := Arg.int Try.underlying5 o0
  have b1 := wf_u8 h1
  obtain ⟨nn, rfl⟩ : ∃ n : Nat, x0 = n := ⟨x0.toNat, by omega⟩
  obtain ⟨zs, hz⟩ := SI.of_arg (k := .u8) Try.underlying24 Try.underlying5 (by kernel_rfl) o1
  obtain ⟨Az, capz, rfl, hz1, hz2⟩ := hz.sr.form
  have HZ := Lib.hid hz
  have hzm : zs.length ≤ 9223372036854775807 := by have := hz1; have := hz2; unfold maxLen at *; omega
  clear o0 o1 hz h1
  obtain ⟨m, hm⟩ : ∃ m, m = nn % 6 := ⟨_, rfl⟩
  have hm6 : m ≤ 5 := by omega
  have fm : (nn : Int) % 6 = m := by omega
  have fm2 : (nn : Int).tmod 6 = m := by rw [Int.tmod_eq_emod_of_nonneg (by omega)]; omega
  have fm3 : IntKind.i64.wrap (m : Int) = m := by rw [IntKind.wrap_i64]; omega
  clear hm
  have hX := fun w => hvX_ok w 0 5 0 0 (by omega) (by omega) (by omega) (by omega)
  unfold hvX at hX
  go_enter Try.func5, Try.ntmps5
  go_wp2_with fail
  refine (taskAwake_in _).mono ?_; rintro e w1 ⟨rfl, hb1⟩
  have HB1 := Lib.hid hb1
  clear hb1
  go_wp2_with fail
  refine (sizeConf_in _ _ (hvS 0 5 0 0) (hX _)).mono ?_; rintro e w3 ⟨hb3, cg, gT, gN, gL, v', m', u', rfl, hcf⟩
  have HP := Lib.hid (hcf.toP (sizeLe _) (sizeOk _))
  have HB3 := Lib.hid (bnext HB1.out hb3)
  clear hcf hb3 hX
  go_wp2_with fail
  refine (taskNew_in _ _).mono ?_; rintro e w4 ⟨g, gm, rfl, hg, hgm, ht, hb4⟩
  have HT4 := Lib.hid ht
  have HB4 := Lib.hid hb4
  have HG := Lib.hid (And.intro hg hgm)
  clear hb4 ht hg hgm
  go_wp2_with fail
  have hadd := taskAdd_ok HP.out HB4.out HT4.out HG.out.1 HG.out.2 (by have := HG.out.1; have := HT4.out.tp.row.lt; omega) 0 1 (by rw [hvS_len]; omega) (sizeLe64 _) 0 (by rw [sizePr]; decide) (by simp) (by omega) (by omega) rfl (fun m h1 h2 => by omega)
  refine hadd.mono ?_
  rintro e w5 ⟨x1, rfl, hx1, ht5, hd5⟩
  have HT5 := Lib.hid ht5
  have HB5 := Lib.hid (Duo.go HB4.out hd5 HG.out.1 HG.out.2 HB4.out.size)
  have HF5 := Lib.hid (show FamI x1 ((setT (fun x => []) 0 (insE ((fun x => []) 0) { blk := x1, pr := newP 0 1 0 (sizeRegs (hvS 0 5 0 0))[0].cl })) 0) (fun _ => none) 0 0 from FamI.start _ _)
  clear hadd ht5 hd5
  go_wp2_with fail
  go_loopw [8, 38] (fun r8 r wx => ∃ (i : Nat) (T : Nat → List TE), i ≤ m ∧ r = .int .i64 i ∧ r8 = .int .i64 m ∧ Below w3.heap.size w3 wx ∧ TT w3.heap.size wx g gm (some ⟨cg, 0, none⟩) T ∧ FamI x1 (T 0) (fun _ => none) 0 i) (fun _ r _ => m - (intOf r).toNat)
  case atStart => exact ⟨0, _, Nat.zero_le _, rfl, rfl, HB5.out, HT5.out, HF5.out⟩
  case round =>
    obtain ⟨i, T, hi, rfl, rfl, hbr, htr, hfr⟩ := hrel
    have HBR := Lib.hid hbr
    have HTR := Lib.hid htr
    have HFR := Lib.hid hfr
    clear hbr htr hfr
    by_cases hin : i < m
    · have f1 : (i : Int) < m := by omega
      obtain ⟨tp, htp, hn1⟩ := HFR.out.par
      have hrow := HTR.out.pr 0 tp htp
      rw [(HFR.out.one tp htp hn1).1] at hrow
      have e1 : wr.cell? ⟨x1, 1, none⟩ = some (.int .u16 1) := by rw [hrow.cell (i := 1) (by omega)]; simp [prF, hn1]
      have hlen := HFR.out.len
      obtain ⟨q, q1, q2, q3, q4⟩ := free_asc (T 0) 0 HFR.out.asc (fun t ht => HFR.out.pos t ht)
      have hadd := taskAdd_ok HP.out HBR.out HTR.out HG.out.1 HG.out.2 (by have := HG.out.1; have := HTR.out.tp.row.lt; omega) 0 q (by rw [hvS_len]; omega) (sizeLe64 _) 1 (by rw [sizePr]; show (T 0).length < 1 + 5 % 6; omega) (by omega) (by omega) (by omega) (tF_no q3) (fun m h1 h2 => by
        obtain ⟨t, ht, e⟩ := q4 m (by omega) h2
        rw [← e, tF_at HTR.out.ok ht]
        exact Option.some_ne_none _)
      have HADD := Lib.hid hadd
      have HQ := Lib.hid (show ∀ b c, FamI x1 (insE (T 0) ⟨b, newP 0 q 1 c⟩) (fun _ => none) 0 (i + 1) from fun b c => HFR.out.add q3 (by omega))
      clear hadd q1 q2 q3 q4 hrow hn1 htp hlen
      go_wp2_with fail
      refine HADD.out.mono ?_
      rintro e w8 ⟨x, rfl, hx8, ht8, hd8⟩
      have HT8 := Lib.hid ht8
      have HB8 := Lib.hid (Duo.go HBR.out hd8 HG.out.1 HG.out.2 HBR.out.size)
      have HF8 := Lib.hid (show FamI x1 ((setT T 0 (insE (T 0) ⟨x, newP 0 q 1 (sizeRegs (hvS 0 5 0 0))[0].cl⟩)) 0) (fun _ => none) 0 (i + 1) by rw [setT_same]; exact HQ.out _ _)
      clear ht8 hd8 e1
      go_wp2_with fail
      go_roundw
      case rel => exact ⟨i + 1, _, by omega, by go_num, rfl, HB8.out, HT8.out, HF8.out⟩
      case measure => simp [intOf]; omega
    · obtain rfl : i = m := by omega
      have f1 : ¬ ((i : Int) < i) := by omega
      have hmm := @run_makeMap Try.prog
      have hb7 := bnew wr (.map #[] 0)
      have hm7 := MK.made (κ := Nat) (P := Try.prog) (k := 39) (kv := u16V) (vv := Value.bool) wr
      have hfm : FM w3.heap.size w3 (wr.alloc (.map #[] 0)) g gm wr.heap.size (some ⟨cg, 0, none⟩) T (fun _ => none) :=
        ⟨HBR.out.trans (hb7.mono HBR.out.size), HTR.out.keep hb7, ⟨hm7, BN.made wr⟩, by have := HTR.out.tp.mp.lt; omega, Nat.le_refl _, HBR.out.size, HG.out.1, HG.out.2, Nat.le_trans HBR.out.size hb7.size⟩
      have HFM := Lib.hid hfm
      clear hb7 hm7 hfm
      go_wp2_with fail
      obtain ⟨gd, hgd⟩ : ∃ gd, gd = wr.heap.size := ⟨_, rfl⟩
      rw [← hgd] at HFM
      rw [← hgd]
      generalize wr.alloc (.map #[] 0) = w7 at *
      clear hgd hmm
      go_loopw [12, 58] (fun r12 r wx => ∃ (j h : Nat) (T : Nat → List TE) (D : Nat → Option Bool), j ≤ zs.length ∧ r = .int .i64 j ∧ r12 = .int .i64 h ∧ FM w3.heap.size w3 wx g gm gd (some ⟨cg, 0, none⟩) T D ∧ FamI x1 (T 0) D h i) (fun _ r _ => zs.length - (intOf r).toNat)
      case atStart => exact ⟨0, 0, _, _, Nat.zero_le _, rfl, rfl, HFM.out, HFR.out⟩
      case round =>
        obtain ⟨j, h, T, D, hj, rfl, rfl, hfm, hfi⟩ := hrel
        have HFR := Lib.hid hfm
        have HFI := Lib.hid hfi
        have hh5 : h ≤ 5 := by have := hfi.kidsLen; omega
        clear hfm hfi
        by_cases hjn : j < zs.length
        · rcases HZ.out.cases with ⟨hz0, _⟩ | ⟨_, gz, offz, cz, hs, _, _, hgz, hcz⟩
          · rw [hz0] at hjn; simp at hjn
          cases hs
          have hx8 := wf_u8 (HZ.out.wf (zs.getD j 0) (by rw [List.getD_eq_getElem?_getD, List.getElem?_eq_getElem hjn]; exact List.getElem_mem hjn))
          have hzc := (World.cell?_of_block (a := ⟨gz, offz + j, none⟩) ((HB3.out.trans (HFR.out.bl.mono HB3.out.size)).block gz hgz)).trans (hcz j hjn)
          clear hcz
          obtain ⟨x, hx⟩ : ∃ x : Nat, zs.getD j 0 = x := ⟨(zs.getD j 0).toNat, by omega⟩
          rw [hx] at hzc hx8
          clear hx
          have f2 : (j : Int) < zs.length := by omega
          by_cases h30 : 30 < j
          · have f3 : (30 : Int) < j := by omega
            obtain ⟨u, hu⟩ : ∃ u, u = (T 0).length := ⟨_, rfl⟩
            have hul := HFI.out.len
            rw [← hu] at hul
            have g1 : IntKind.i64.wrap (1 + (i : Int)) = 1 + (i : Int) := by rw [IntKind.wrap_i64]; omega
            have g2 : IntKind.i64.wrap (1 + (i : Int) - (h : Int)) = (u : Int) := by rw [IntKind.wrap_i64]; omega
            have hhi : h ≤ i := by have := HFI.out.kidsLen; omega
            have g3 : (h : Int) ≤ i := by omega
            have g4 : decide ((h : Int) ≤ i) = true := decide_eq_true g3
            have HU := Lib.hid hu
            clear hu hul hhi
            go_wp2_with fail
            refine (taskUsed_tp HFR.out.tt.tp 0 (by omega)).mono ?_
            rintro e w8 ⟨rfl, rfl⟩
            rw [show usT T 0 = u from HU.out.symm]
            go_wp2_with fail
            go_ret
            exact ⟨rfl, HB3.out.trans (HFR.out.bl.mono HB3.out.size)⟩
          have f3 : ¬ ((30 : Int) < j) := by omega
          obtain ⟨m8, hm8⟩ : ∃ m, m = x % 8 := ⟨_, rfl⟩
          have f4 : (x : Int) % 8 = m8 := by omega
          have f5 : (x : Int).tmod 8 = m8 := by rw [Int.tmod_eq_emod_of_nonneg (by omega)]; omega
          have f6 : IntKind.u16.wrap (m8 : Int) = m8 := by simp [IntKind.wrap, IntKind.bits, IntKind.signed]; omega
          have f7 : IntKind.u16.wrap (2 + (m8 : Int)) = ((2 + m8 : Nat) : Int) := by simp [IntKind.wrap, IntKind.bits, IntKind.signed]; omega
          obtain ⟨kk, hkk⟩ : ∃ k, k = 2 + m8 := ⟨_, rfl⟩
          rw [← hkk] at f7
          have hk10 : kk ≤ 9 := by omega
          have hk1 : kk ≠ 1 := by omega
          clear hm8 hkk
          go_wp2_with fail
          refine (taskGet_in HFR.out.tt (0, kk) (by show 0 ≤ 255; omega) (by show kk ≤ 65535; omega)).mono ?_
          rintro e wG ⟨rfl, hbG⟩
          have HFG := Lib.hid (HFR.out.keep hbG)
          obtain ⟨o, ho⟩ : ∃ o, o = tF T (0, kk) := ⟨_, rfl⟩
          rw [← ho]
          have HO := Lib.hid ho
          clear hbG ho hzc f4 f5 f6 f7
          go_upto_region 20 with fail
          go_cut [81] (fun s81 wx => ∃ run : Bool, s81 = .bool run ∧ (run = true → ∃ (q : Nat) (hq : q < (T 0).length) (t : TE), (T 0)[q] = t ∧ t.pr.num = kk ∧ t.pr.st ≠ 3 ∧ o = some t.blk) ∧ wx = wG)
          case first =>
            cases o with
            | none =>
              simp only [ptrO, Option.map_none]
              have hud : undef = Value.tuple #[] := rfl
              go_wp2_with fail
              go_meet
              exact ⟨false, rfl, fun e => absurd e (by simp), rfl⟩
            | some b =>
              obtain ⟨q, hq, hqn, hqb⟩ := tF_get HFG.out.tt.ok HO.out.symm
              obtain ⟨t, ht⟩ : ∃ t, (T 0)[q] = t := ⟨_, rfl⟩
              rw [ht] at hqn hqb
              subst hqb
              have hrow := HFG.out.tt.pr 0 t (by rw [← ht]; exact List.getElem_mem hq)
              have e5 : wG.cell? ⟨t.blk, 5, none⟩ = some (.int .u8 t.pr.st) := hrow.cell (i := 5) (by omega)
              have HTQ := Lib.hid ht
              simp only [ptrO, Option.map_some]
              clear hrow ht
              by_cases hst : t.pr.st = 3
              · have g1 : ((t.pr.st : Int) != 3) = false := by rw [bne_eq_false_iff_eq]; omega
                have HST := Lib.hid hst
                clear hst
                go_wp2_with fail
                go_meet
                exact ⟨false, rfl, fun e => absurd e (by simp), rfl⟩
              · have g1 : ((t.pr.st : Int) != 3) = true := by rw [bne_iff_ne]; omega
                have HST := Lib.hid hst
                clear hst
                go_wp2_with fail
                go_meet
                exact ⟨true, rfl, fun _ => ⟨q, hq, t, HTQ.out, hqn, HST.out, rfl⟩, rfl⟩
          case rest =>
            obtain ⟨run, rfl, hrun, rfl⟩ := hcut
            have HRUN := Lib.hid hrun
            clear hrun
            go_upto_if 81 with fail
            go_cut [] (fun wx => ∃ (T' : Nat → List TE) (D' : Nat → Option Bool), FM w3.heap.size w3 wx g gm gd (some ⟨cg, 0, none⟩) T' D' ∧ FamI x1 (T' 0) D' h i)
            case first =>
              cases run with
              | false =>
                go_wp2_with fail
                go_meet
                exact ⟨T, D, HFG.out, HFI.out⟩
              | true =>
                obtain ⟨q, hq, t, ht, hqn, hst, rfl⟩ := HRUN.out rfl
                have hmem : t ∈ T 0 := by rw [← ht]; exact List.getElem_mem hq
                have hrow := HFG.out.tt.pr 0 t hmem
                have hlab := HFG.out.tt.ok.lab 0 t hmem
                have e0 : wc.cell? ⟨t.blk, 0, none⟩ = some (.int .u8 0) := by rw [hrow.cell (i := 0) (by omega)]; simp [prF, hlab]
                have e1 : wc.cell? ⟨t.blk, 1, none⟩ = some (.int .u16 kk) := by rw [hrow.cell (i := 1) (by omega)]; simp [prF, hqn]
                have f8 : IntKind.i32.wrap (x : Int) = x := by simp [IntKind.wrap, IntKind.bits, IntKind.signed]; omega
                have HKID := Lib.hid (HFI.out.kid t hmem (by rw [hqn]; exact hk1))
                have hend := taskEnd_in HFG.out.tt (l := 0) (by omega) hq ht kk hqn.symm (x : Int) hst (HFI.out.nokid hk1) (by rw [HKID.out.1]; omega) (fun s hs hn => by
                  rw [HKID.out.1] at hn
                  rw [(HFI.out.one s hs hn).2.1]; omega) (fun _ => False) (fun _ => True) (fun _ h => h.elim) (fun _ _ h => h) (fun _ _ _ _ => trivial) (fun w1 _ => by
                    rw [HKID.out.2.1]
                    exact (spaceFree_nil w1).mono (by rintro e w2 ⟨rfl, rfl⟩; exact ⟨rfl, Chg.of_below _ (Below.refl _ _), trivial⟩))
                have HEND := Lib.hid hend
                have hfin := HFI.out.fin hq ht (by rw [hqn]; exact hk1) (x : Int)
                rw [hqn] at hfin
                have HFIN := Lib.hid hfin
                have HQ := Lib.hid hq
                clear hmem hrow hlab ht hqn hst hend hfin
                simp only [ptrO, Option.map_some]
                go_wp2_with fail
                refine HEND.out.mono ?_
                rintro e w8 ⟨rfl, ht8, hc8, _⟩
                have HF8 := Lib.hid (HFG.out.tab (hc8.mono (fun _ _ hk => hk.elim (fun f => f.elim) id)) ht8)
                clear ht8 hc8 e0 e1
                obtain ⟨lk, hkey⟩ := key_u16 kk (by omega)
                go_wp2_with (with_reducible refine wpList_stop none rfl ?_)
                refine Lib.hid ?_
                refine wpList_update_mb (by kernel_rfl) rfl HF8.out.mp keyedU16 u16V_inj Try.underlying86 _ _ _ rfl (by go_simp) kk (by go_simp; try rfl) hkey true (by go_simp) ?_
                intro w9 hm9 ho9
                have HF9 := Lib.hid (HF8.out.map ho9 hm9)
                clear hm9 ho9 hkey
                go_wp2_with fail
                go_meet
                refine ⟨_, _, HF9.out, ?_⟩
                rw [setT_same]
                unfold endL
                rw [if_neg (by rw [HKID.out.1]; omega)]
                exact HFIN.out
            case rest =>
              obtain ⟨T', D', hfm, hfi⟩ := hcut
              have HFM2 := Lib.hid hfm
              have HFI2 := Lib.hid hfi
              clear HFR HFI HFG HRUN hfm hfi
              obtain ⟨u16, hu16⟩ : ∃ u, u = ptrO o := ⟨_, rfl⟩
              rw [← hu16]
              clear HO hu16
              clear T D o
              by_cases h127 : 127 < x
              · have f8 : (127 : Int) < x := by omega
                obtain ⟨tp, htp, hn1⟩ := HFI2.out.par
                have hrow := HFM2.out.tt.pr 0 tp htp
                have hlab := HFM2.out.tt.ok.lab 0 tp htp
                rw [(HFI2.out.one tp htp hn1).1] at hrow
                have e0 : wc.cell? ⟨x1, 0, none⟩ = some (.int .u8 0) := by rw [hrow.cell (i := 0) (by omega)]; simp [prF, hlab]
                have e1 : wc.cell? ⟨x1, 1, none⟩ = some (.int .u16 1) := by rw [hrow.cell (i := 1) (by omega)]; simp [prF, hn1]
                clear hrow hlab hn1 htp
                go_wp2_with fail
                refine (taskHear_in HFM2.out.tt 0 1 (by omega) (by omega)).mono ?_
                intro e w8 hear
                obtain ⟨num, sta, f, T2, rfl, ht8, hd8, hcase⟩ := hear.all
                have HCASE := Lib.hid hcase
                have HF8 := Lib.hid (HFM2.out.tab (Chg.of_duo (S := tS g gm T') hd8 (.inl rfl) (.inr (.inl rfl))) ht8)
                clear hear hcase ht8 hd8 e0 e1
                go_wp2_with (with_reducible refine wpList_stop (some 105) rfl ?_)
                refine Lib.hid ?_
                refine wpList_range_mb (by kernel_rfl) (some 105) rfl HF8.out.mp Try.underlying86 _ rfl (by go_simp) ?_
                intro w9 hit9 hb9
                have HIT9 := Lib.hid hit9
                have HB9 := Lib.hid hb9
                obtain ⟨r0, hr0⟩ : ∃ r0, r0 = w8.heap.size := ⟨_, rfl⟩
                rw [← hr0] at HIT9 ⊢
                have HR0 := Lib.hid hr0
                clear hit9 hb9 hr0
                go_simp
                go_wp2_with fail
                go_loopw [20] (fun r20 wx => ∃ (l : Nat) (done : Nat → Bool), r20 = .int .u16 l ∧ IT wx Try.prog 39 gd r0 u16V Value.bool D' done ∧ LeastI D' done l ∧ Below w8.heap.size w8 wx) (fun _ wx => rngLeft wx gd r0)
                case atStart => exact ⟨0, _, rfl, HIT9.out, LeastI.start, HB9.out⟩
                case round =>
                  obtain ⟨l, done, rfl, hit, hl, hbl⟩ := hrel
                  have HIT := Lib.hid hit
                  have HL := Lib.hid hl
                  have HBL := Lib.hid hbl
                  clear hit hl hbl
                  go_wp2_with (with_reducible refine wpList_stop (some 106) rfl ?_)
                  refine Lib.hid ?_
                  refine wpList_next_it (by kernel_rfl) (some 106) rfl HIT.out u16V_inj _ rfl (by go_simp) ?_ ?_
                  · intro hd
                    have hfin := HL.out.fin hd
                    have HFL := Lib.hid (HF8.out.keep HBL.out)
                    have HMB := Lib.hid HIT.out.mb
                    clear hd
                    rcases HCASE.out with ⟨t, h1, h2, h3, h4⟩ | ⟨h1, h2, h3, h4⟩
                    · obtain ⟨s1, s2, s3, s4, s5⟩ := HFI2.out.hsome h1
                      have hlt : l = t.pr.num := by
                        rcases hfin with ⟨_, g2⟩ | ⟨g1, _, g3⟩
                        · exact absurd (g2 _) s3
                        · have := g3 _ s3
                          have := s4 _ g1
                          omega
                      have hl0 : 0 < l := by have := HFI2.out.ppos _ s3; omega
                      have hl1000 : l ≤ 1000 := by rw [hlt]; exact (HFM2.out.tt.ok.num 0 t s1).2
                      have HIN := Lib.hid (show FamI x1 (T2 0) (delF D' l) (h + 1) i by rw [h4, setT_same, hlt]; exact HFI2.out.hear s1 s2)
                      have h2' : num = l := by rw [h2, hlt]
                      subst h3
                      subst h2'
                      clear hfin h1 h2 h4 hlt s1 s2 s3 s4
                      have c1 : (0 : Int) < num := by omega
                      have c2 : ((h : Int) == i) = false := by rw [beq_eq_false_iff_ne]; omega
                      have c3 : IntKind.i64.wrap ((h : Int) + 1) = ((h + 1 : Nat) : Int) := by rw [IntKind.wrap_i64]; omega
                      have c4 : decide ((0 : Int) < num) = true := decide_eq_true c1
                      have HS5 := Lib.hid s5
                      clear s5
                      obtain ⟨lk, hkey⟩ := key_u16 num (by omega)
                      go_wp2_with (with_reducible refine wpList_stop none rfl ?_)
                      refine Lib.hid ?_
                      refine wpList_delete_mb (by kernel_rfl) none rfl HMB.out keyedU16 u16V_inj Try.underlying86 _ _ rfl (by go_simp) num (by go_simp; try rfl) hkey ?_
                      intro w10 hm10 ho10
                      have HF10 := Lib.hid (HFL.out.map ho10 hm10)
                      clear hm10 ho10 hkey
                      go_wp2_with fail
                      refine ⟨⟨j + 1, h + 1, _, _, by omega, by go_num, by go_num, HF10.out, HIN.out⟩, ?_⟩
                      simp [intOf]; omega
                    · have hno := HFI2.out.hno h1
                      have hl0 : l = 0 := by
                        rcases hfin with ⟨g1, _⟩ | ⟨g1, _⟩
                        · exact g1
                        · exact absurd (hno _) g1
                      have hkl := HFI2.out.kidsLen
                      subst h2
                      subst hl0
                      subst h4
                      clear hfin h1 hno
                      by_cases hk : kidsL (T2 0) 1 = []
                      · rw [if_pos hk] at h3
                        rw [hk] at hkl
                        have hkl2 : h = i := by simpa using hkl
                        have c2 : ((h : Int) == i) = true := by rw [beq_iff_eq]; omega
                        subst h3
                        clear hk hkl hkl2
                        go_wp2_with fail
                        refine ⟨⟨j + 1, h, _, _, by omega, by go_num, by go_num, HFL.out, HFI2.out⟩, ?_⟩
                        simp [intOf]; omega
                      · rw [if_neg hk] at h3
                        have hkl2 : h ≠ i := by
                          have := List.length_pos_iff.2 hk
                          omega
                        have c2 : ((h : Int) == i) = false := by rw [beq_eq_false_iff_ne]; omega
                        subst h3
                        clear hk hkl hkl2
                        go_wp2_with fail
                        refine ⟨⟨j + 1, h, _, _, by omega, by go_num, by go_num, HFL.out, HFI2.out⟩, ?_⟩
                        simp [intOf]; omega
                  · intro y b w10 hFy hdn hit hch hlt hE
                    have HIT10 := Lib.hid hit
                    have HB10 := Lib.hid (Chg.go HBL.out hch (fun k hk => by rw [hk, HR0.out]; omega) HBL.out.size)
                    have HLT := Lib.hid hlt
                    have hy1 : 1 ≤ y := HFI2.out.ppos y (by rw [hFy]; exact Option.some_ne_none _)
                    have HFY := Lib.hid (show D' y ≠ none by rw [hFy]; exact Option.some_ne_none _)
                    clear hit hch hlt hFy hdn
                    unfold u16V at hE ⊢
                    go_wp2_with (with_reducible refine wpList_stop (some 108) rfl ?_)
                    refine Lib.hid ?_
                    refine wpList_entry_it (by kernel_rfl) (some 108) rfl hE _ rfl (by go_simp) ?_
                    clear hE
                    by_cases hl0 : l = 0
                    · have c1 : ((l : Int) == 0) = true := by rw [beq_iff_eq]; omega
                      have HLN := Lib.hid (HL.out.take HFY.out hy1 (.inl hl0))
                      clear hl0
                      go_wp2_with fail
                      go_roundw
                      case rel => exact ⟨y, _, rfl, HIT10.out, HLN.out, HB10.out⟩
                      case measure => exact HLT.out
                    · have c1 : ((l : Int) == 0) = false := by rw [beq_eq_false_iff_ne]; omega
                      by_cases hyl : y < l
                      · have c2 : (y : Int) < l := by omega
                        have HLN := Lib.hid (HL.out.take HFY.out hy1 (.inr hyl))
                        clear hl0 hyl
                        go_wp2_with fail
                        go_roundw
                        case rel => exact ⟨y, _, rfl, HIT10.out, HLN.out, HB10.out⟩
                        case measure => exact HLT.out
                      · have c2 : ¬ (y : Int) < l := by omega
                        have HLN := Lib.hid (HL.out.skip hl0 hyl)
                        clear hl0 hyl
                        go_wp2_with fail
                        go_roundw
                        case rel => exact ⟨l, _, rfl, HIT10.out, HLN.out, HB10.out⟩
                        case measure => exact HLT.out
              · have f8 : ¬ (127 : Int) < x := by omega
                go_wp2_with fail
                go_roundw
                case rel => exact ⟨j + 1, h, _, _, by omega, by go_num, rfl, HFM2.out, HFI2.out⟩
                case measure => simp [intOf]; omega
        · obtain rfl : j = zs.length := by omega
          have f2 : ¬ ((zs.length : Int) < zs.length) := by omega
          obtain ⟨u, hu⟩ : ∃ u, u = (T 0).length := ⟨_, rfl⟩
          have hul := HFI.out.len
          rw [← hu] at hul
          have g1 : IntKind.i64.wrap (1 + (i : Int)) = 1 + (i : Int) := by rw [IntKind.wrap_i64]; omega
          have g2 : IntKind.i64.wrap (1 + (i : Int) - (h : Int)) = (u : Int) := by rw [IntKind.wrap_i64]; omega
          have hhi : h ≤ i := by have := HFI.out.kidsLen; omega
          have g3 : (h : Int) ≤ i := by omega
          have g4 : decide ((h : Int) ≤ i) = true := decide_eq_true g3
          have HU := Lib.hid hu
          clear hu hul hhi
          go_wp2_with fail
          refine (taskUsed_tp HFR.out.tt.tp 0 (by omega)).mono ?_
          rintro e w8 ⟨rfl, rfl⟩
          rw [show usT T 0 = u from HU.out.symm]
          go_wp2_with fail
          go_ret
          exact ⟨rfl, HB3.out.trans (HFR.out.bl.mono HB3.out.size)⟩
end Go.Proofs.Ytiedenjcmkebaaa
