/- The law FramePlays: its walk. -/
import Derived.Test.YtdahmibgjbhmfaaPolE
import Derived.Deep.CutBlock
import Derived.Deep.CutRange
set_option linter.unusedVariables false
set_option linter.unusedSimpArgs false
namespace Go.Proofs.Ytdahmibgjbhmfaa
open Go.RowKit
open Go.Maps (Keyed)

def kinds18 : List CK := [⟨0, .u8, 0⟩, ⟨0, .u8, 0⟩, ⟨0, .u8, 0⟩, ⟨0, .i64, 0⟩, ⟨0, .u8, 0⟩, ⟨1, .i64, 0⟩]
def actC (kd lab num : Nat) (off : Int) (c : Nat) (raw : Bool) : Array Value := #[.int .u8 kd, .int .u8 lab, .int .u8 num, .int .i64 off, .int .u8 c, .bool raw]
/-- An action's cells. -/
theorem act18 {w : World} {m : Nat} {cs : List Value} (h : Okay Try.prog w m 40 cs) :
    ∃ (kd lab num : Nat) (off : Int) (c : Nat) (raw : Bool), cs = (actC kd lab num off c raw).toList ∧ kd ≤ 255 ∧ lab ≤ 255 ∧ num ≤ 255 ∧ c ≤ 255 ∧ -9223372036854775808 ≤ off ∧ off ≤ 9223372036854775807 := by
  have hf := Okay.fits 6 40 m cs kinds18 h (by kernel_rfl)
  obtain ⟨hl, hg⟩ := FitsAll.get hf
  obtain ⟨v0, h0, ⟨x0, rfl, w0⟩⟩ := hg 0 ⟨0, .u8, 0⟩ rfl
  obtain ⟨v1, h1, ⟨x1, rfl, w1⟩⟩ := hg 1 ⟨0, .u8, 0⟩ rfl
  obtain ⟨v2, h2, ⟨x2, rfl, w2⟩⟩ := hg 2 ⟨0, .u8, 0⟩ rfl
  obtain ⟨v3, h3, ⟨x3, rfl, w3⟩⟩ := hg 3 ⟨0, .i64, 0⟩ rfl
  obtain ⟨v4, h4, ⟨x4, rfl, w4⟩⟩ := hg 4 ⟨0, .u8, 0⟩ rfl
  obtain ⟨v5, h5, ⟨x5, rfl⟩⟩ := hg 5 ⟨1, .i64, 0⟩ rfl
  have b0 := wf_u8 w0
  have b1 := wf_u8 w1
  have b2 := wf_u8 w2
  have b3 := wf_i64 w3
  have b4 := wf_u8 w4
  obtain ⟨a, rfl⟩ : ∃ n : Nat, x0 = n := ⟨x0.toNat, by omega⟩
  obtain ⟨b, rfl⟩ : ∃ n : Nat, x1 = n := ⟨x1.toNat, by omega⟩
  obtain ⟨c, rfl⟩ : ∃ n : Nat, x2 = n := ⟨x2.toNat, by omega⟩
  obtain ⟨d, rfl⟩ : ∃ n : Nat, x4 = n := ⟨x4.toNat, by omega⟩
  refine ⟨a, b, c, x3, d, x5, ?_, by omega, by omega, by omega, by omega, b3.1, b3.2⟩
  match cs, hl, h0, h1, h2, h3, h4, h5 with
  | [y0, y1, y2, y3, y4, y5], _, h0, h1, h2, h3, h4, h5 =>
    simp only [List.getElem?_cons_zero, List.getElem?_cons_succ, Option.some.injEq] at h0 h1 h2 h3 h4 h5
    subst h0 h1 h2 h3 h4 h5
    rfl
def inP (p : Int) : Bool := decide (0 ≤ p) && decide (p < 64)
theorem inP_yes {p : Int} (h : inP p = true) : ∃ n : Nat, p = n ∧ n < 64 := by
  unfold inP at h
  rw [Bool.and_eq_true, decide_eq_true_iff, decide_eq_true_iff] at h
  exact ⟨p.toNat, by omega, by omega⟩
theorem inP_no {p : Int} (h : inP p = false) : p < 0 ∨ 64 ≤ p := by
  unfold inP at h
  by_cases h0 : p < 0
  · exact .inl h0
  · refine .inr ?_
    rw [decide_eq_true (by omega)] at h
    simp at h
    exact h
def atOf (raw : Bool) (off : Int) : Int := if raw then off else off % 64
def labOf (raw : Bool) (lab n : Nat) : Nat := if raw then lab else lab % n

set_option maxRecDepth 200000 in
set_option maxHeartbeats 64000000 in
theorem framePlays_walk (W : World) (v0 v1 : Value) (o0 : Arg Try.prog W 26 v0) (o1 : Arg Try.prog W 27 v1) :
    Calls Try.prog 3 #[v0, v1] W fun e w' => e = .returned (.bool true) ∧ Below W.heap.size W w' := by
  obtain ⟨s, S0⟩ := SizeV.of_arg o0
  have HSV := Lib.hid S0
  obtain ⟨X, tv, rfl, hX, hrest⟩ := S0
  obtain ⟨n, hn⟩ : ∃ n, n = (sizeRegs s).length := ⟨_, rfl⟩
  have HN := Lib.hid hn
  have hn64 : n ≤ 64 := by rw [hn]; exact sizeLe64 s
  have hn1 : 0 < n := by rw [hn, sizeRegs_length]; have := manyOf_le s; omega
  clear hrest hn
  have HX := Lib.hid (show (Try.prog.info? 26).map (·.size) = some X.size by rw [hX]; kernel_rfl)
  clear hX
  obtain ⟨m, xs, hs, hx⟩ := SR.of_arg (e := 40) Try.underlying27 (by rw [show Try.prog.cellsOf 40 = 6 by kernel_rfl]; omega) o1
  have e6 : Try.prog.cellsOf 40 = 6 := by kernel_rfl
  rw [e6] at hs hx
  obtain ⟨A, cap, rfl, hn1', hn2⟩ := hs.form
  have hnm : (m : Int) ≤ 9223372036854775807 := by unfold maxLen at hn2; omega
  have HS := Lib.hid hs
  have HXA := Lib.hid hx
  clear hs hx o0 o1 e6
  have hb0 := bnew W (.cells X 26)
  have ha0 := heap_alloc_last W (.cells X 26)
  have HSX := Lib.hid (SizeV.keep HSV.out hb0)
  clear HSV
  go_enter Try.func3, Try.ntmps3
  go_wp2_with fail
  obtain ⟨G, hG⟩ : ∃ G, G = W.heap.size := ⟨_, rfl⟩
  rw [← hG] at ha0 ⊢
  generalize W.alloc (.cells X 26) = w0 at *
  have HG := Lib.hid hG
  have HB0 := Lib.hid hb0
  have HA0 := Lib.hid ha0
  clear hG hb0 ha0
  refine (frameAwake_in _).mono ?_; rintro e w1 ⟨rfl, hb1⟩
  have HB1 := Lib.hid (bnext HB0.out hb1)
  have HA1 := Lib.hid (bkeep hb1 HA0.out)
  have HS1 := Lib.hid (SizeV.keep HSX.out hb1)
  clear hb1
  go_wp2_with (refine wpList_load_pieceTo rfl 26 (.tmp 2) rfl (some 30) rfl G 0 rfl X _ (fun j v hj => by rw [Nat.zero_add, rowcell HA1.out]; simpa using hj) Try.underlying26 rfl HX.out ?_)
  refine (sizeRegs_in _ _ s HS1.out).mono ?_; rintro e w2 ⟨hb2, rv, mv, rfl, hr, _⟩
  have HR2 := Lib.hid (SR.of_own hr)
  clear hr
  obtain ⟨RA, rcap, rfl, hc1, hc2⟩ := HR2.out.form
  have HB2 := Lib.hid (bnext HB1.out hb2)
  have HA2 := Lib.hid (bkeep hb2 HA1.out)
  have HS2 := Lib.hid (SizeV.keep HS1.out hb2)
  clear hb2 HA1 HS1
  go_wp2_with (refine wpList_load_pieceTo rfl 26 (.tmp 2) rfl (some 34) rfl G 0 rfl X _ (fun j v hj => by rw [Nat.zero_add, rowcell HA2.out]; simpa using hj) Try.underlying26 rfl HX.out ?_)
  refine (sizeConf_in _ _ s HS2.out).mono ?_; rintro e w3 ⟨hb3, cg, gT, gN, gL, v', m', u', rfl, hcf⟩
  have HP := Lib.hid (hcf.toP (sizeLe _) (sizeOk _))
  have HB3 := Lib.hid (bnext HB2.out hb3)
  have HR3 := Lib.hid (HR2.out.keep hb3)
  clear hcf hb3 HR2
  have HFR := Lib.hid (show ∀ k, k < (sizeRegs s).length → frOf (sizeRegs s) k ≤ 50 from fun k hk => by rw [frOf_at hk, sizeFr]; omega)
  go_wp2_with fail
  refine (frameNew_in _ _).mono ?_; rintro e w4 ⟨g, gm, rfl, hg, hgm, hT, hb4⟩
  have HGG := Lib.hid (And.intro hg hgm)
  have HB4 := Lib.hid hb4
  have HT4 := Lib.hid hT
  clear hT hg hgm hb4
  go_wp2_with fail
  refine (refPoolNew_in _ _ (sizeRegs s) (HR3.out.keep HB4.out) (by rw [← HN.out]; exact hn1) (sizeLe64 s) (fun k hk => Nat.le_trans (HFR.out k hk) (by omega)) w3.heap.size HB4.out.size).mono ?_; rintro e w5 ⟨Y, rfl, hYm, hYf, hYb, hrp, hb5⟩
  rw [← HN.out] at hYm ⊢
  have hpw : FW w3 w5 g gm (some ⟨cg, 0, none⟩) (usF Y fun _ _ => false) (polF Y (fun _ _ => false) fun _ _ _ => 0) Y (fun _ _ => none) (fun _ _ => false) (fun _ _ _ => 0) := by
    have e1 : usF Y (fun _ _ => false) = fun _ => 0 := by
      funext l
      unfold usF
      have h0 : ∀ n, cntT (fun _ => false) n = 0 := fun n => by
        induction n with
        | zero => rfl
        | succ n ih => show cntT (fun _ => false) n + _ = 0; rw [ih]; rfl
      split
      · exact h0 _
      · rfl
    have e2 : polF Y (fun _ _ => false) (fun _ _ _ => 0) = fun _ => none := by
      funext p
      unfold polF hasB
      simp
    rw [e1, e2]
    exact ⟨bnext HB4.out hb5, HT4.out.keep hb5, hrp, HGG.out.1, HGG.out.2, hYb⟩
  have HPW0 := Lib.hid hpw
  have HYM := Lib.hid hYm
  have HYF := Lib.hid hYf
  clear hb5 hrp hpw hYm hYf hYb HGG HT4 HB4 HA2 HS2 HSX HA0 HG HB0 HB1 HB2
  go_wp2_with fail
  go_loopg [42] m (fun k r wr => ∃ (i : Nat) (pv : Nat → Nat → Option Nat) (T : Nat → Nat → Bool) (B : Nat → Nat → Nat → Nat), i + k = m ∧ r = .int .i64 i ∧ FW w3 wr g gm (some ⟨cg, 0, none⟩) (usF Y T) (polF Y T B) Y pv T B)
  case atStart => exact ⟨0, fun _ _ => none, fun _ _ => false, fun _ _ _ => 0, by omega, rfl, HPW0.out⟩
  case round =>
    clear HPW0
    obtain ⟨i, pv, T, B, hi, rfl, hpw⟩ := hrel
    have HPW := Lib.hid hpw
    clear hpw
    by_cases hlt : i < m
    · obtain ⟨mm, hok⟩ := HXA.out i hlt
      obtain ⟨kd, lab, num, off, cb, raw, hC, k1, k2, k3, k4, k5, k6⟩ := act18 hok
      rcases HS.out.cases with ⟨h, _⟩ | ⟨_, ga, o_, cz, hsl, _, _, hga, hca⟩
      · omega
      cases hsl
      have hpc : ∀ j v, (actC kd lab num off cb raw).toList[j]? = some v → wr.cell? ⟨ga, o_ + i * 6 + j, none⟩ = some v := fun j v hj => by
        have hj6 : j < 6 := by
          rcases Nat.lt_or_ge j 6 with h | h
          · exact h
          · rw [List.getElem?_eq_none (by simpa [actC] using h)] at hj; cases hj
        rw [World.cell?_of_block (w := W) (a := ⟨ga, o_ + i * 6 + j, none⟩) ((HB3.out.trans (HPW.out.bl.mono HB3.out.size)).block ga hga), Nat.add_assoc, hca (i * 6 + j) (by omega)]
        rw [← hC] at hj
        simpa [List.getElem?_take_of_lt hj6] using hj
      have HPC := Lib.hid hpc
      clear hpc hca hC hok
      have hlti : (i : Int) < m := by omega
      unfold actC at HPC
      go_upto_region 9 with (first | (refine wpList_load_pieceTo rfl 40 (.tmp 45) rfl (some 46) rfl ga (o_ + i * 6) rfl #[.int .u8 kd, .int .u8 lab, .int .u8 num, .int .i64 off, .int .u8 cb, .bool raw] _ HPC.out Try.underlying40 rfl (by kernel_rfl) ?_))
      have hbA := bnew wr (.cells #[.int .u8 kd, .int .u8 lab, .int .u8 num, .int .i64 off, .int .u8 cb, .bool raw] 40)
      have hA := heap_alloc_last wr (.cells #[.int .u8 kd, .int .u8 lab, .int .u8 num, .int .i64 off, .int .u8 cb, .bool raw] 40)
      have HPA := Lib.hid (HPW.out.keep hbA)
      obtain ⟨N, hN⟩ : ∃ N, N = wr.heap.size := ⟨_, rfl⟩
      rw [← hN] at hA ⊢
      generalize wr.alloc (.cells #[.int .u8 kd, .int .u8 lab, .int .u8 num, .int .i64 off, .int .u8 cb, .bool raw] 40) = wA at *
      have HA := Lib.hid hA
      clear hbA hN hA HPW HPC hga
      by_cases h100 : 100 < i
      · have h100' : (100 : Int) < i := by omega
        go_wp2_with fail
        go_ret
        exact ⟨rfl, HB3.out.trans (HPA.out.bl.mono HB3.out.size)⟩
      · have h100' : ¬ (100 : Int) < i := by omega
        have cA := rowcell HA.out
        have d0 : ((n : Int) == 0) = false := by simpa using (show ¬ n = 0 by omega)
        go_upto_if 56 with fail
        go_cut [12] from 57 to 59 (fun s12 wx => wx = wA ∧ s12 = .int .i64 (labOf raw lab n : Nat))
        case first =>
          cases raw with
          | true =>
            go_wp2_with fail
            go_meet
            exact ⟨rfl, rfl⟩
          | false =>
            go_wp2_with fail
            go_meet
            exact ⟨rfl, by unfold labOf; rw [if_neg (by decide)]; exact congrArg (Value.int .i64) (by first | (rw [Int.tmod_eq_emod_of_nonneg (Int.natCast_nonneg _)]; rfl) | rfl | simp)⟩
        case rest =>
          obtain ⟨rfl, rfl⟩ := hcut
          obtain ⟨k, hk⟩ : ∃ k, k = labOf raw lab n := ⟨_, rfl⟩
          have hk255 : k ≤ 255 := by
            rw [hk]; unfold labOf
            split
            · exact k2
            · have := Nat.mod_le lab n; omega
          rw [← hk]
          have HK := Lib.hid hk
          clear hk d0
          go_at_K
          go_step
          have hkw : IntKind.u8.wrap (k : Int) = k := by rw [IntKind.wrap_u8]; omega
          go_upto_region 14 with fail
          obtain ⟨q, hq⟩ : ∃ q, q = num % 8 := ⟨_, rfl⟩
          have hqi : (num : Int) % 8 = q := by omega
          have hq7 : q ≤ 7 := by omega
          rw [hqi]
          have hbB := bnew wc (.cells #[.int .u8 k, .int .u16 q] 43)
          have HPB := Lib.hid (HPA.out.keep hbB)
          have hF := heap_alloc_last wc (.cells #[.int .u8 k, .int .u16 q] 43)
          have HA2 := Lib.hid (bkeep hbB HA.out)
          obtain ⟨M, hM⟩ : ∃ M, M = wc.heap.size := ⟨_, rfl⟩
          rw [← hM] at hF ⊢
          generalize wc.alloc (.cells #[.int .u8 k, .int .u16 q] 43) = wB at *
          have HF := Lib.hid hF
          clear hF hbB hM hqi hq HA HPA cA
          have cA := rowcell HA2.out
          go_upto_if 71 with fail
          go_cut [14] from 72 to 75 (fun s14 wx => wx = wB ∧ s14 = .int .i64 (atOf raw off))
          case first =>
            cases raw with
            | true =>
              go_wp2_with fail
              go_meet
              exact ⟨rfl, rfl⟩
            | false =>
              go_wp2_with fail
              go_meet
              refine ⟨rfl, congrArg (Value.int .i64) ?_⟩
              show _ = off % 64
              have e1 : (IntKind.u64.wrap off).tmod 64 = off % 64 := by
                rw [IntKind.wrap_u64, Int.tmod_eq_emod_of_nonneg (Int.emod_nonneg _ (by decide))]; omega
              rw [e1]
              simp only [wrap64]
              omega
          case rest =>
            obtain ⟨rfl, rfl⟩ := hcut
            obtain ⟨p, hp⟩ : ∃ p, p = atOf raw off := ⟨_, rfl⟩
            rw [← hp]
            clear hp
            go_at_K
            go_step
            have cF := rowcell HF.out
            have hq1000 : q ≤ 1000 := by omega
            have HHAS := Lib.hid (refHas_in HPB.out.rp k q (by omega) hq1000)
            go_wp2_with fail
            refine HHAS.out.mono ?_
            rintro e wD ⟨rfl, hwD⟩
            subst hwD
            obtain ⟨hb, hhb⟩ : ∃ hb, hb = hasB Y T k q := ⟨_, rfl⟩
            rw [← hhb]
            have HH := Lib.hid hhb
            clear hhb HHAS
            obtain ⟨z1, hz1⟩ : ∃ z, z = decide (0 ≤ p) := ⟨_, rfl⟩
            obtain ⟨z2, hz2⟩ : ∃ z, z = decide (p < 64) := ⟨_, rfl⟩
            have HI := Lib.hid (show inP p = (z1 && z2) from by rw [hz1, hz2]; rfl)
            have e1 := hz1.symm
            have e2 := hz2.symm
            clear hz1 hz2
            go_upto_region 18 with fail
            go_cut [16] from 82 to 87 (fun s16 wx => wx = wc ∧ s16 = .bool (z1 && z2))
            case first =>
              cases z1 with
              | true =>
                go_wp2_with fail
                go_meet
                exact ⟨rfl, rfl⟩
              | false =>
                go_wp2_with fail
                go_meet
                exact ⟨rfl, rfl⟩
            case rest =>
              obtain ⟨rfl, rfl⟩ := hcut
              obtain ⟨ib, hib⟩ : ∃ b, b = (z1 && z2) := ⟨_, rfl⟩
              rw [← hib] at HI ⊢
              clear hib e1 e2
              go_at_K
              go_step
              go_upto_block 2 with fail
              go_cut [] (fun wx => ∃ (pv' : Nat → Nat → Option Nat) (T' : Nat → Nat → Bool) (B' : Nat → Nat → Nat → Nat), FW w3 wx g gm (some ⟨cg, 0, none⟩) (usF Y T') (polF Y T' B') Y pv' T' B')
              case first =>
                have hNE := HPB.out.ne HF.out (by decide)
                have HNE := Lib.hid hNE
                have hNA := HPB.out.ne HA2.out (by decide)
                have HNA := Lib.hid hNA
                have hk2 : (k, q).1 ≤ 255 := hk255
                have hq2 : (k, q).2 ≤ 65535 := by show q ≤ 65535; omega
                clear hNE hNA
                have h6 : ((kd : Int) % 6 == 2) = true ∨ (((kd : Int) % 6 == 2) = false ∧ ((kd : Int) % 6 == 3) = true) ∨ (((kd : Int) % 6 == 2) = false ∧ ((kd : Int) % 6 == 3) = false ∧ ((kd : Int) % 6 == 4) = true) ∨ (((kd : Int) % 6 == 2) = false ∧ ((kd : Int) % 6 == 3) = false ∧ ((kd : Int) % 6 == 4) = false ∧ ((kd : Int) % 6 == 5) = true) ∨ (((kd : Int) % 6 == 2) = false ∧ ((kd : Int) % 6 == 3) = false ∧ ((kd : Int) % 6 == 4) = false ∧ ((kd : Int) % 6 == 5) = false) := by
                  simp only [beq_iff_eq, beq_eq_false_iff_ne]; omega
                rcases h6 with b2 | ⟨b2, b3⟩ | ⟨b2, b3, b4⟩ | ⟨b2, b3, b4, b5⟩ | ⟨b2, b3, b4, b5⟩
                · as_aux_lemma =>
                    cases hb with
                    | true =>
                      have hyes : hasB Y T k q = true := by rw [← HH.out]
                      obtain ⟨hkm, hqf, hTT⟩ := has_iff.mp hyes
                      have HYES := Lib.hid hyes
                      have HKM := Lib.hid hkm
                      have HQF := Lib.hid hqf
                      have HTT := Lib.hid hTT
                      have hk64 : k < 64 := by have := HPB.out.rp.m64; omega
                      clear hyes hkm hqf hTT
                      have hgive := usF_give (Y := Y) (T := T) HKM.out HQF.out HTT.out
                      go_wp2_with fail
                      refine (frameGive_ok HPB.out.fp (k, q) hk64 hq2 (by rw [polF_is]; exact HYES.out) hgive.2 (by have := cntT_le (T k) (Y.fr k); have := HPB.out.rp.frs k HKM.out; show usF Y T k < 65536; rw [usF_in HKM.out]; omega)).mono ?_
                      rintro e wS ⟨rfl, hT, hD⟩
                      rw [polF_give, show setN (usF Y T) (k, q).1 (usF Y T (k, q).1 - 1) = usF Y (set2 T k q false) from hgive.1] at hT
                      have HPS := Lib.hid (HPB.out.duo hD hT)
                      have HFS := Lib.hid (hD.blk HF.out HNE.out.1 HNE.out.2)
                      clear hT hD cF cA hgive
                      have cF := rowcell HFS.out
                      have c1 := HPS.out.rp.c1
                      have c2 := HPS.out.rp.ct_cell HKM.out
                      have c3 := HPS.out.rp.t_cell HKM.out HQF.out
                      have f3 := (HPS.out.rp.rowT k HKM.out).frozen q
                      have hkY : (k : Int) < Y.m := by have := HKM.out; omega
                      have hqY : (q : Int) < Y.fr k := by have := HQF.out; omega
                      have hkYn : k < Y.m := HKM.out
                      have hqYn : q < Y.fr k := HQF.out
                      unfold rowS at c2
                      go_upto_region 29 with fail
                      refine wp_region_still_tail 10 (by kernel_rfl) (by kernel_rfl) ?_
                      simp only [List.take_succ_cons, List.take_zero, List.drop_succ_cons, List.drop_zero]
                      change wpStill _ _ (World.drew wS) _ _ _
                      iterate 10 still_step
                      refine wpStill_nil ?_
                      change wpList _ _ _ _ _ (World.drew wS)
                      go_wp2_with fail
                      go_meet
                      exact ⟨pv, _, _, (HPS.out.keep (drewb wS)).give HKM.out HQF.out⟩
                    | false =>
                      have HNO := Lib.hid (show hasB Y T k q = false from by rw [← HH.out])
                      go_wp2_with fail
                      refine (frameGive_none HPB.out.fp (k, q) hk2 hq2 (polF_none HNO.out)).mono ?_
                      rintro e wS ⟨rfl, hbS⟩
                      have HPS := Lib.hid (HPB.out.keep hbS)
                      clear hbS cF cA
                      go_wp2_with fail
                      go_meet
                      exact ⟨pv, T, B, HPS.out⟩
                · as_aux_lemma =>
                    cases hb with
                    | true =>
                      have hyes : hasB Y T k q = true := by rw [← HH.out]
                      obtain ⟨hkm, hqf, hTT⟩ := has_iff.mp hyes
                      have HYES := Lib.hid hyes
                      have HKM := Lib.hid hkm
                      have HQF := Lib.hid hqf
                      have HTT := Lib.hid hTT
                      have hk64 : k < 64 := by have := HPB.out.rp.m64; omega
                      clear hyes hkm hqf hTT
                      cases ib with
                      | true =>
                        obtain ⟨pn, rfl, hpn⟩ := inP_yes HI.out
                        have hpi : (pn : Int) < 64 := by omega
                        go_wp2_with fail
                        refine (frameSet_yes HPB.out.fp (k, q) hk2 hq2 pn hpn cb (B k q) (polF_some HYES.out)).mono ?_
                        rintro e wS ⟨rfl, hT, hD⟩
                        rw [polF_put HYES.out] at hT
                        have HPS := Lib.hid (HPB.out.duo hD hT)
                        have HFS := Lib.hid (hD.blk HF.out HNE.out.1 HNE.out.2)
                        have HAS := Lib.hid (hD.blk HA2.out HNA.out.1 HNA.out.2)
                        clear hT hD cF cA
                        have cF := rowcell HFS.out
                        have cA := rowcell HAS.out
                        have c1 := HPS.out.rp.c2
                        have c2 := HPS.out.rp.cb_cell HKM.out
                        have c3 := HPS.out.rp.b_cell HKM.out HQF.out
                        obtain ⟨pb, hpb, hprow⟩ := HPS.out.rp.pg k q HKM.out HQF.out HTT.out
                        rw [hpb] at c3
                        have HPB1 := Lib.hid hpb
                        have HPR := Lib.hid hprow
                        clear hpb hprow
                        have hkY : (k : Int) < Y.m := by have := HKM.out; omega
                        have hqY : (q : Int) < Y.fr k := by have := HQF.out; omega
                        have hkYn : k < Y.m := HKM.out
                        have hqYn : q < Y.fr k := HQF.out
                        unfold rowS at c2
                        unfold pageS at c3
                        have c4 := HPR.out.cell hpn
                        have f4 := HPR.out.frozen pn
                        unfold byteF at c4
                        go_upto_region 34 with fail
                        refine wp_region_still_tail 15 (by kernel_rfl) (by kernel_rfl) ?_
                        simp only [List.take_succ_cons, List.take_zero, List.drop_succ_cons, List.drop_zero]
                        change wpStill _ _ (World.drew wS) _ _ _
                        iterate 15 still_step
                        refine wpStill_nil ?_
                        change wpList _ _ _ _ _ (World.drew wS)
                        go_wp2_with fail
                        go_meet
                        exact ⟨pv, T, _, (HPS.out.keep (drewb wS)).byte HKM.out HQF.out HPB1.out HPR.out.drew pn cb k4⟩
                      | false =>
                        go_wp2_with fail
                        refine (frameSet_no HPB.out.fp (k, q) hk2 hq2 p cb (.inr (inP_no HI.out))).mono ?_
                        rintro e wS ⟨rfl, hbS⟩
                        have HPS := Lib.hid (HPB.out.keep hbS)
                        clear hbS cF cA
                        go_wp2_with fail
                        go_meet
                        exact ⟨pv, T, B, HPS.out⟩
                    | false =>
                      have HNO := Lib.hid (show hasB Y T k q = false from by rw [← HH.out])
                      go_wp2_with fail
                      refine (frameSet_no HPB.out.fp (k, q) hk2 hq2 p cb (.inl (by rw [polF_is]; exact HNO.out))).mono ?_
                      rintro e wS ⟨rfl, hbS⟩
                      have HPS := Lib.hid (HPB.out.keep hbS)
                      clear hbS cF cA
                      go_wp2_with fail
                      go_meet
                      exact ⟨pv, T, B, HPS.out⟩
                · as_aux_lemma =>
                    cases hb with
                    | true =>
                      have hyes : hasB Y T k q = true := by rw [← HH.out]
                      obtain ⟨hkm, hqf, hTT⟩ := has_iff.mp hyes
                      have HYES := Lib.hid hyes
                      have HKM := Lib.hid hkm
                      have HQF := Lib.hid hqf
                      have HTT := Lib.hid hTT
                      have hk64 : k < 64 := by have := HPB.out.rp.m64; omega
                      clear hyes hkm hqf hTT
                      cases ib with
                      | true =>
                        obtain ⟨pn, rfl, hpn⟩ := inP_yes HI.out
                        have hpi : (pn : Int) < 64 := by omega
                        have hpi0 : (0 : Int) ≤ pn := by omega
                        go_wp2_with fail
                        refine (frameByte_yes HPB.out.fp (k, q) hk2 hq2 pn hpn (B k q) (polF_some HYES.out)).mono ?_
                        rintro e wS ⟨rfl, hbS⟩
                        have HPS := Lib.hid (HPB.out.keep hbS)
                        have HFS := Lib.hid (bkeep hbS HF.out)
                        clear hbS cF cA
                        have cF := rowcell HFS.out
                        have c1 := HPS.out.rp.c2
                        have c2 := HPS.out.rp.cb_cell HKM.out
                        have c3 := HPS.out.rp.b_cell HKM.out HQF.out
                        obtain ⟨pb, hpb, hprow⟩ := HPS.out.rp.pg k q HKM.out HQF.out HTT.out
                        rw [hpb] at c3
                        have HPB1 := Lib.hid hpb
                        have HPR := Lib.hid hprow
                        clear hpb hprow
                        have hkY : (k : Int) < Y.m := by have := HKM.out; omega
                        have hqY : (q : Int) < Y.fr k := by have := HQF.out; omega
                        have hkYn : k < Y.m := HKM.out
                        have hqYn : q < Y.fr k := HQF.out
                        unfold rowS at c2
                        unfold pageS at c3
                        have c4 := HPR.out.cell hpn
                        unfold byteF at c4
                        obtain ⟨y, hy⟩ : ∃ y, y = B k q pn := ⟨_, rfl⟩
                        rw [← hy] at c4 ⊢
                        clear hy
                        go_upto_region 37 with fail
                        go_quiet (fail)
                        go_wp2_with fail
                        go_meet
                        exact ⟨pv, T, B, HPS.out.keep (bdrewN (Below.refl _ _) _)⟩
                      | false =>
                        go_wp2_with fail
                        refine (frameByte_no HPB.out.fp (k, q) hk2 hq2 p (.inr (inP_no HI.out))).mono ?_
                        rintro e wS ⟨rfl, hbS⟩
                        have HPS := Lib.hid (HPB.out.keep hbS)
                        clear hbS cF cA
                        go_upto_region 37 with fail
                        go_quiet (fail)
                        go_wp2_with fail
                        go_meet
                        exact ⟨pv, T, B, HPS.out.keep (bdrewN (Below.refl _ _) _)⟩
                    | false =>
                      have HNO := Lib.hid (show hasB Y T k q = false from by rw [← HH.out])
                      go_wp2_with fail
                      refine (frameByte_no HPB.out.fp (k, q) hk2 hq2 p (.inl (by rw [polF_is]; exact HNO.out))).mono ?_
                      rintro e wS ⟨rfl, hbS⟩
                      have HPS := Lib.hid (HPB.out.keep hbS)
                      clear hbS cF cA
                      go_upto_region 37 with fail
                      go_quiet (fail)
                      go_wp2_with fail
                      go_meet
                      exact ⟨pv, T, B, HPS.out.keep (bdrewN (Below.refl _ _) _)⟩
                · as_aux_lemma =>
                    obtain ⟨l2, hl2⟩ : ∃ l, l = cb % n := ⟨_, rfl⟩
                    have hl2n : l2 < n := by rw [hl2]; exact Nat.mod_lt _ hn1
                    have d1 : (cb : Int).tmod n = l2 := by rw [Int.tmod_eq_emod_of_nonneg (Int.natCast_nonneg _), hl2]; rfl
                    have d1' : (cb : Int) % n = l2 := by rw [hl2]; rfl
                    have d0 : ((n : Int) == 0) = false := by simpa using (show ¬ n = 0 by omega)
                    obtain ⟨n2, hn2'⟩ : ∃ l, l = cb / 8 % 8 := ⟨_, rfl⟩
                    have hn27 : n2 ≤ 7 := by omega
                    have d2 : (cb : Int) / 8 % 8 = n2 := by omega
                    have d3 : ((cb / 8 : Nat) : Int) % 8 = n2 := by omega
                    have hl2255 : l2 ≤ 255 := by omega
                    have hlw : IntKind.u8.wrap (l2 : Int) = l2 := by rw [IntKind.wrap_u8]; omega
                    have hcw : IntKind.i64.wrap (cb : Int) = cb := by rw [IntKind.wrap_i64]; omega
                    have hnw : IntKind.u16.wrap (n2 : Int) = n2 := by rw [IntKind.wrap_u16]; omega
                    have d4 : (cb : Int).tdiv 8 = ((cb / 8 : Nat) : Int) := by rw [Int.tdiv_eq_ediv_of_nonneg (Int.natCast_nonneg _)]; omega
                    have d5 : ((cb / 8 : Nat) : Int).tmod 8 = n2 := by rw [Int.tmod_eq_emod_of_nonneg (Int.natCast_nonneg _)]; omega
                    have hn0 : ¬ n = 0 := by omega
                    have hw4 : IntKind.u8.wrap ((cb : Int) / 8) = (cb : Int) / 8 := by rw [IntKind.wrap_u8]; omega
                    have d6 : ((cb : Int) / 8).tmod 8 = n2 := by rw [Int.tmod_eq_emod_of_nonneg (by omega)]; omega
                    clear hl2 hn2'
                    go_upto_region 40 with fail
                    have hqA : ∀ w', Below wc.heap.size wc.drew w' → ∀ o, w'.cell? ⟨N, o, none⟩ = (#[.int .u8 kd, .int .u8 lab, .int .u8 num, .int .i64 off, .int .u8 cb, .bool raw] : Array Value)[o]? := fun w' hb => rowcell (bkeep (w := w') (W := wc.drew) hb HA2.out)
                    have hS0 : Below wc.heap.size wc.drew wc.drew := Below.refl _ _
                    clear cA cF
                    refine wp_region_held (S := fun w' => Below wc.heap.size wc.drew w') (by kernel_rfl) ?_
                    change wpAnyH _ _ _ _ _ _ _ _ (World.drew _)
                    refine takeH 0 (.pointer (some ⟨N, 4, none⟩)) (some 225) rfl rfl (by kernel_rfl) (by kernel_rfl) (by kernel_rfl) (fun _ _ _ h => h) (.inl ⟨by kernel_rfl, fun w hw => by go_simp⟩) hS0 ?_
                    refine takeH 1 (.int .u8 cb) (some 226) rfl rfl (by kernel_rfl) (by kernel_rfl) (by kernel_rfl) (fun _ _ _ h => h) (.inl ⟨by kernel_rfl, fun w hw => by have hc := hqA w hw; go_simp⟩) hS0 ?_
                    refine takeH 2 (.int .i64 cb) (some 227) rfl rfl (by kernel_rfl) (by kernel_rfl) (by kernel_rfl) (fun _ _ _ h => h) (.inl ⟨by kernel_rfl, fun w hw => by go_simp⟩) hS0 ?_
                    go_simp
                    refine takeH 3 (.slice RA n rcap) (some 228) rfl rfl (by kernel_rfl) (by kernel_rfl) (by kernel_rfl) (fun _ _ _ h => h) (.inl ⟨by kernel_rfl, fun w hw => by go_simp⟩) hS0 ?_
                    refine takeH 4 (.int .i64 n) (some 229) rfl rfl (by kernel_rfl) (by kernel_rfl) (by kernel_rfl) (fun _ _ _ h => h) (.inl ⟨by kernel_rfl, fun w hw => by go_simp⟩) hS0 ?_
                    refine takeH 5 (.int .i64 l2) (some 230) rfl rfl (by kernel_rfl) (by kernel_rfl) (by kernel_rfl) (fun _ _ _ h => h) (.inl ⟨by kernel_rfl, fun w hw => by go_simp⟩) hS0 ?_
                    go_simp
                    refine takeH 6 (.int .u8 l2) (some 231) rfl rfl (by kernel_rfl) (by kernel_rfl) (by kernel_rfl) (fun _ _ _ h => h) (.inl ⟨by kernel_rfl, fun w hw => by go_simp⟩) hS0 ?_
                    refine takeH 7 (.pointer (some ⟨N, 4, none⟩)) (some 232) rfl rfl (by kernel_rfl) (by kernel_rfl) (by kernel_rfl) (fun _ _ _ h => h) (.inl ⟨by kernel_rfl, fun w hw => by go_simp⟩) hS0 ?_
                    refine takeH 8 (.int .u8 cb) (some 233) rfl rfl (by kernel_rfl) (by kernel_rfl) (by kernel_rfl) (fun _ _ _ h => h) (.inl ⟨by kernel_rfl, fun w hw => by have hc := hqA w hw; go_simp⟩) hS0 ?_
                    go_simp
                    refine takeH 9 (.int .u8 (cb / 8 : Nat)) (some 234) rfl rfl (by kernel_rfl) (by kernel_rfl) (by kernel_rfl) (fun _ _ _ h => h) (.inl ⟨by kernel_rfl, fun w hw => by go_simp⟩) hS0 ?_
                    refine takeH 10 (.int .u8 n2) (some 235) rfl rfl (by kernel_rfl) (by kernel_rfl) (by kernel_rfl) (fun _ _ _ h => h) (.inl ⟨by kernel_rfl, fun w hw => by go_simp⟩) hS0 ?_
                    refine takeH 11 (.int .u16 n2) (some 236) rfl rfl (by kernel_rfl) (by kernel_rfl) (by kernel_rfl) (fun _ _ _ h => h) (.inl ⟨by kernel_rfl, fun w hw => by go_simp⟩) hS0 ?_
                    go_simp
                    refine takeH 12 (.agg #[.int .u8 l2, .int .u16 n2]) (some 237) rfl rfl (by kernel_rfl) (by kernel_rfl) (by kernel_rfl) (fun _ _ _ h => h) (.inl ⟨by kernel_rfl, fun w hw => by go_simp⟩) hS0 ?_
                    go_simp
                    have hS1 : Below wc.heap.size wc.drew (wc.drew.alloc (.cells #[.int .u8 0, .int .u16 0] 43)) := hS0.alloc hS0.size _
                    refine runH 13 (.pointer (some ⟨wc.heap.size, 0, none⟩)) (some 20) rfl (by kernel_rfl) (by kernel_rfl) rfl (w' := wc.drew.alloc (.cells #[.int .u8 0, .int .u16 0] 43)) (exec_alloc 43 rfl (.agg #[.int .u8 0, .int .u16 0]) (by kernel_rfl)) hS1 ?_
                    go_simp
                    refine storeWholeH 14 rfl (by kernel_rfl) (by kernel_rfl) rfl 43 (.tmp 20) (.tmp 237) rfl #[.int .u8 l2, .int .u16 n2] #[.int .u8 0, .int .u16 0] 43 (g := wc.heap.size) (by go_simp) (by go_simp) (by kernel_rfl) (heap_alloc_last wc.drew _) rfl (List.all_eq_true.1 (by rfl)) (fun w10 g10 o10 => ?_)
                    have hb10 : Below wc.heap.size wc.drew w10 := bone hS1 o10 (Nat.le_refl _) hS1.size
                    refine ⟨hb10, ?_⟩
                    refine wpAnyH_done (by kernel_rfl) ?_ _
                    go_simp
                    have hbX : Below wc.heap.size wc w10 := (drewb wc).trans hb10
                    have HPX := Lib.hid (HPB.out.keep hbX)
                    have HFX := Lib.hid (bkeep hbX HF.out)
                    have HGX := Lib.hid g10
                    obtain ⟨M2, hM2⟩ : ∃ M2, M2 = wc.heap.size := ⟨_, rfl⟩
                    rw [← hM2] at HGX ⊢
                    have HNX := Lib.hid (HPX.out.ne HGX.out (by decide))
                    clear hbX hb10 o10 g10 hS1 hS0 hqA hM2
                    have hl2' : (l2, n2).1 ≤ 255 := hl2255
                    have hn2' : (l2, n2).2 ≤ 65535 := by show n2 ≤ 65535; omega
                    have cG := rowcell HGX.out
                    have cF := rowcell HFX.out
                    cases hb with
                    | true =>
                      have hyes : hasB Y T k q = true := by rw [← HH.out]
                      obtain ⟨hkm, hqf, hTT⟩ := has_iff.mp hyes
                      have HYES := Lib.hid hyes
                      have HKM := Lib.hid hkm
                      have HQF := Lib.hid hqf
                      have HTT := Lib.hid hTT
                      have hk64 : k < 64 := by have := HPB.out.rp.m64; omega
                      clear hyes hkm hqf hTT
                      have HHAS := Lib.hid (refHas_in HPX.out.rp l2 n2 (by omega) (by omega))
                      go_wp2_with fail
                      refine HHAS.out.mono ?_
                      rintro e wD ⟨rfl, hwD⟩
                      subst hwD
                      clear HHAS
                      cases hb2 : hasB Y T l2 n2 with
                      | true =>
                        have HYES2 := Lib.hid hb2
                        clear hb2
                        go_wp2_with fail
                        refine (frameCopy_in HPX.out.fp (k, q) (l2, n2) hk2 hq2 hl2' hn2').mono ?_
                        rintro e wS ⟨he, hT, hD⟩
                        rw [polF_is, polF_is, HYES.out, HYES2.out, show (true && true) = true from rfl] at he hT
                        subst he
                        rw [if_pos rfl, polF_some HYES2.out, Option.getD_some, polF_put HYES.out] at hT
                        have HPS := Lib.hid (HPX.out.duo hD hT)
                        have HFS := Lib.hid (hD.blk HFX.out HNE.out.1 HNE.out.2)
                        have HGS := Lib.hid (hD.blk HGX.out HNX.out.1 HNX.out.2)
                        clear hT hD cF cG
                        have cF := rowcell HFS.out
                        have cG := rowcell HGS.out
                        obtain ⟨hkm2, hqf2, hTT2⟩ := has_iff.mp HYES2.out
                        have c1 := HPS.out.rp.c2
                        have c2 := HPS.out.rp.cb_cell HKM.out
                        have c3 := HPS.out.rp.b_cell HKM.out HQF.out
                        obtain ⟨pb, hpb, hprow⟩ := HPS.out.rp.pg k q HKM.out HQF.out HTT.out
                        rw [hpb] at c3
                        have HPB1 := Lib.hid hpb
                        have HPR := Lib.hid hprow
                        clear hpb hprow
                        have hkY : (k : Int) < Y.m := by have := HKM.out; omega
                        have hqY : (q : Int) < Y.fr k := by have := HQF.out; omega
                        have hkYn : k < Y.m := HKM.out
                        have hqYn : q < Y.fr k := HQF.out
                        unfold rowS at c2
                        unfold pageS at c3
                        have e2 := HPS.out.rp.cb_cell hkm2
                        have e3 := HPS.out.rp.b_cell hkm2 hqf2
                        obtain ⟨pb2, hpb2, hprow2⟩ := HPS.out.rp.pg l2 n2 hkm2 hqf2 hTT2
                        rw [hpb2] at e3
                        have HPR2 := Lib.hid hprow2
                        have hl2Y : (l2 : Int) < Y.m := by omega
                        have hn2Y : (n2 : Int) < Y.fr l2 := by omega
                        unfold rowS at e2
                        unfold pageS at e3
                        clear hpb2 hprow2
                        have hl2Yn := hkm2
                        have hn2Yn := hqf2
                        clear hkm2 hqf2 hTT2
                        go_upto_region 45 with fail
                        refine wp_region_still_tail 23 (by kernel_rfl) (by kernel_rfl) ?_
                        simp only [List.take_succ_cons, List.take_zero, List.drop_succ_cons, List.drop_zero]
                        change wpStill _ _ (World.drew wS) _ _ _
                        iterate 23 still_step
                        refine wpStill_nil ?_
                        change wpList _ _ _ _ _ (World.drew wS)
                        refine wpList_copy_full rfl (.tmp 266) (.tmp 278) 24 24 rfl (some 279) rfl 5 pb 64 64 1 (.slice (some ⟨pb2, 0, none⟩) 64 64) (rowArr 64 (byteF (B l2 n2))).toList 5 (byteF (B k q)) (by go_simp) (by go_simp) Try.underlying24 (by kernel_rfl) HPR.out.drew (SR.of_row HPR2.out.drew rfl (by unfold maxLen; omega)) (fun v hv => by
                          obtain ⟨j, hj⟩ := List.mem_iff_getElem?.1 hv
                          obtain ⟨_, rfl⟩ := rowArr_get _ _ _ _ hj
                          rfl) (fun w' hw' => ?_)
                        have oP : One (World.drew wS) w' (some pb) := by rw [hw']; exact One.setCells _ 0 (One.refl _ _)
                        have rP : w'.rowIs pb 5 64 (byteF (B l2 n2)) := by
                          rw [hw']
                          exact (rowIs_piece (m := 64) (off := 0) (h := byteF (B l2 n2)) HPR.out.drew).congr (fun i hi => by rw [if_pos (by omega)]; rfl)
                        have HPZ := Lib.hid ((HPS.out.keep (drewb wS)).whole HKM.out HQF.out HPB1.out HPR.out.drew (B l2 n2) (fun j => HPS.out.rp.bd l2 n2 j) oP rP)
                        clear oP rP hw'
                        go_wp2_with fail
                        go_meet
                        exact ⟨pv, T, _, HPZ.out⟩
                      | false =>
                        have HNO2 := Lib.hid hb2
                        clear hb2
                        go_wp2_with fail
                        refine (frameCopy_in HPX.out.fp (k, q) (l2, n2) hk2 hq2 hl2' hn2').mono ?_
                        rintro e wS ⟨he, hT, hD⟩
                        rw [polF_is, polF_is, HYES.out, HNO2.out] at he hT
                        subst he
                        rw [if_neg (by decide)] at hT
                        have HPS := Lib.hid (HPX.out.duo hD hT)
                        clear hT hD cF cG
                        go_wp2_with fail
                        go_meet
                        exact ⟨pv, T, B, HPS.out⟩
                    | false =>
                      have HNO := Lib.hid (show hasB Y T k q = false from by rw [← HH.out])
                      go_wp2_with fail
                      refine (frameCopy_in HPX.out.fp (k, q) (l2, n2) hk2 hq2 hl2' hn2').mono ?_
                      rintro e wS ⟨he, hT, hD⟩
                      rw [polF_is, HNO.out, Bool.false_and] at he hT
                      subst he
                      rw [if_neg (by decide)] at hT
                      have HPS := Lib.hid (HPX.out.duo hD hT)
                      clear hT hD cF cG
                      go_wp2_with fail
                      go_meet
                      exact ⟨pv, T, B, HPS.out⟩
                · as_aux_lemma =>
                    clear cA cF
                    have hYm : Y.m = n := HYM.out
                    by_cases hkn : k < n
                    · have hkm : k < Y.m := by omega
                      have HKM := Lib.hid hkm
                      have hk64 : k < 64 := by omega
                      have hkrs : k < (sizeRegs s).length := by rw [← HN.out]; exact hkn
                      have h64 : (sizeRegs s).length ≤ 64 := by rw [← HN.out]; exact hn64
                      have hfr : Y.fr k = (sizeRegs s)[k].fr := by rw [HYF.out, frOf_at hkrs]
                      have HFRK := Lib.hid hfr
                      have hfr50 := HFR.out k hkrs
                      rw [← HYF.out] at hfr50
                      clear hkm
                      rcases first_free (T k) (Y.fr k) with ⟨hall, hc⟩ | ⟨j, hj, hTj, hall, hlt⟩
                      · have HALL := Lib.hid hall
                        have HUS := Lib.hid (show (sizeRegs s)[k].fr ≤ usF Y T k from by rw [usF_in HKM.out, hc, hfr]; exact Nat.le_refl _)
                        clear hall hc hfr
                        go_wp2_with fail
                        refine (frameTake_full HP.out HPB.out.bl HPB.out.fp k hkrs h64 HUS.out).mono ?_
                        rintro e wS ⟨rfl, hbS⟩
                        rw [show markV (0, 0) = .agg #[.int .u8 0, .int .u16 0] from rfl]
                        have HPS := Lib.hid (HPB.out.keep hbS)
                        clear hbS
                        go_upto_region 21 with fail
                        have hbQ := bnew wS (.cells #[.int .u8 0, .int .u16 0] 43)
                        have HPQ := Lib.hid (HPS.out.keep hbQ)
                        generalize wS.alloc (.cells #[.int .u8 0, .int .u16 0] 43) = wQ at *
                        clear hbQ
                        go_wp2_with fail
                        refine (refTake_full HPQ.out.rp k HKM.out HALL.out).mono ?_
                        rintro e wR ⟨rfl, hwR⟩
                        subst hwR
                        go_wp2_with fail
                        go_meet
                        exact ⟨pv, T, B, HPQ.out⟩
                      · have HALL := Lib.hid hall
                        have HJ := Lib.hid hj
                        have HTJ := Lib.hid hTj
                        have HUS := Lib.hid (show usF Y T k < (sizeRegs s)[k].fr from by rw [usF_in HKM.out, ← hfr]; exact hlt)
                        have hj50 : j ≤ 50 := by omega
                        have hjw : IntKind.u16.wrap (j : Int) = j := by rw [IntKind.wrap_u16]; omega
                        have hkw : IntKind.u8.wrap (k : Int) = k := by rw [IntKind.wrap_u8]; omega
                        clear hall hj hTj hfr hlt
                        go_wp2_with fail
                        refine (frameTake_ok HP.out HPB.out.bl HPB.out.fp HPB.out.g0 HPB.out.gm0 k j hkrs h64 HUS.out (by have := HUS.out; have := HFRK.out; omega) (by omega) (polF_none (by unfold hasB; rw [HTJ.out]; simp)) (fun i hi => by rw [polF_some (has_iff.mpr ⟨HKM.out, by have := HJ.out; omega, HALL.out i hi⟩)]; simp)).mono ?_
                        rintro e wS ⟨rfl, hT, hD⟩
                        rw [usF_take HKM.out HJ.out HTJ.out, polF_take HKM.out HJ.out] at hT
                        rw [show markV (k, j) = .agg #[.int .u8 k, .int .u16 j] from rfl]
                        have HPS := Lib.hid (HPB.out.duo hD hT)
                        clear hT hD
                        go_upto_region 21 with fail
                        have hbQ := bnew wS (.cells #[.int .u8 k, .int .u16 j] 43)
                        have hMQ := heap_alloc_last wS (.cells #[.int .u8 k, .int .u16 j] 43)
                        have HPQ := Lib.hid (HPS.out.keep hbQ)
                        obtain ⟨M3, hM3⟩ : ∃ x, x = wS.heap.size := ⟨_, rfl⟩
                        rw [← hM3] at hMQ ⊢
                        generalize wS.alloc (.cells #[.int .u8 k, .int .u16 j] 43) = wQ at *
                        have HMQ := Lib.hid hMQ
                        clear hbQ hMQ hM3
                        go_wp2_with fail
                        refine (refTake_ok HPQ.out.rp k j HKM.out HJ.out HTJ.out HALL.out (by have := HPQ.out.bl.size; rw [HPQ.out.b0]; exact this)).mono ?_
                        rintro e wR ⟨rfl, ⟨b, hrp⟩, hDR⟩
                        have HPR := Lib.hid (HPQ.out.take HKM.out hDR hrp)
                        obtain ⟨d1, hd1⟩ := rowIs_blk (HPQ.out.rp.rowT k HKM.out)
                        obtain ⟨d2, hd2⟩ := rowIs_blk (HPQ.out.rp.rowB k HKM.out)
                        have HMR := Lib.hid (hDR.blk HMQ.out (row_ne HMQ.out hd1 (by decide)) (row_ne HMQ.out hd2 (by decide)))
                        clear hDR hrp hd1 hd2
                        have cM := rowcell HMR.out
                        have eqq : ∀ w : World, (Op.equalIn 10000 43 (.agg #[.int .u8 k, .int .u16 j]) (.agg #[.int .u8 k, .int .u16 j])).run Try.prog w = .ok true w := fun w => by have := eqFrame (k, j) (k, j) (by omega) (by omega) (by omega) (by omega) w; rwa [decide_eq_true rfl] at this
                        go_wp2_with fail
                        go_meet
                        exact ⟨_, _, _, HPR.out⟩
                    · have hin : inB (k : Int) (sizeRegs s).length = false := by rw [← HN.out]; unfold inB; rw [decide_eq_false (p := (k : Int) < n) (by omega)]; simp
                      have hkm : ¬ k < Y.m := by omega
                      have HIN := Lib.hid hin
                      have HKM := Lib.hid hkm
                      clear hin hkm
                      go_wp2_with fail
                      refine (frameTake_no HP.out HPB.out.bl HPB.out.fp k HIN.out).mono ?_
                      rintro e wS ⟨rfl, hbS⟩
                      rw [show markV (0, 0) = .agg #[.int .u8 0, .int .u16 0] from rfl]
                      have HPS := Lib.hid (HPB.out.keep hbS)
                      clear hbS
                      go_upto_region 21 with fail
                      have hbQ := bnew wS (.cells #[.int .u8 0, .int .u16 0] 43)
                      have HPQ := Lib.hid (HPS.out.keep hbQ)
                      generalize wS.alloc (.cells #[.int .u8 0, .int .u16 0] 43) = wQ at *
                      clear hbQ
                      go_wp2_with fail
                      refine (refTake_no HPQ.out.rp k HKM.out).mono ?_
                      rintro e wR ⟨rfl, hwR⟩
                      subst hwR
                      go_wp2_with fail
                      go_meet
                      exact ⟨pv, T, B, HPQ.out⟩
              case rest =>
                obtain ⟨pv2, T2, B2, hpe⟩ := hcut
                have HPE := Lib.hid hpe
                clear hpe HPB HF HA2 HH HI cF cA
                go_at_K
                go_step
                obtain ⟨wo, hwo⟩ : ∃ wo, wo = wc := ⟨_, rfl⟩
                subst hwo
                go_wp2_with fail
                go_loopw [282] (fun r wx => ∃ j : Nat, j ≤ n ∧ r = .int .i64 j ∧ Below wo.heap.size wo wx) (fun r _ => n - (intOf r).toNat)
                case atStart => exact ⟨0, by omega, rfl, Below.refl _ _⟩
                case round =>
                  obtain ⟨j, hj, rfl, hbx⟩ := hrel
                  have HPX := Lib.hid (HPE.out.keep hbx)
                  have HBX := Lib.hid hbx
                  clear hbx
                  by_cases hjn : j < n
                  · have f1 : (j : Int) < n := by omega
                    have hjm : j < Y.m := by have := HYM.out; omega
                    have hjrs : j < (sizeRegs s).length := by rw [← HN.out]; exact hjn
                    have h64 : (sizeRegs s).length ≤ 64 := by rw [← HN.out]; exact hn64
                    have hfr : Y.fr j = (sizeRegs s)[j].fr := by rw [HYF.out, frOf_at hjrs]
                    have hfr50 := HFR.out j hjrs
                    rw [← HYF.out] at hfr50
                    have hcl := cntT_le (T2 j) (Y.fr j)
                    obtain ⟨gr, ofr, capr, hRA, _, _, hgr, hrc⟩ := RS_cases HR3.out (by omega)
                    have hc5 := (hrc j hjrs).2.2.2.2.2.1
                    rw [← hfr] at hc5
                    have HRA := Lib.hid hRA
                    clear hrc hRA
                    go_upto_region 49 with fail
                    obtain ⟨u, hu⟩ : ∃ u, u = cntT (T2 j) (Y.fr j) := ⟨_, rfl⟩
                    obtain ⟨fj, hfj⟩ : ∃ f, f = Y.fr j := ⟨_, rfl⟩
                    rw [← hu, ← hfj] at hcl
                    rw [← hfj] at hfr50
                    have hwr : IntKind.i64.wrap ((fj : Int) - (u : Int)) = (fj : Int) - u := by rw [IntKind.wrap_i64]; omega
                    have hwr2 : wrap64 ((fj : Int) - (u : Int)) = (fj : Int) - u := by simp only [wrap64]; omega
                    have cU : ∀ d os, Calls Try.prog 16 #[.pointer (some ⟨g, 0, none⟩), .int .i64 j] (Go.Sort.grow (redrawn wr d) os) fun e w'' => e = .returned (.int .i64 u) ∧ ∃ p : Regrown, w'' = Go.Sort.grow (redrawn wr p.d) p.os := fun d os =>
                      Calls.regrown_of ((frameUsed_in (HPX.out.keep (below_regrown wr d os)).fp j (by omega)).mono fun e w h => ⟨by rw [hu, ← usF_in hjm]; exact h.1, by rw [← h.2]; exact Below.refl _ _⟩)
                    have cM : ∀ d os, Calls Try.prog 17 #[.pointer (some ⟨Y.gq, 0, none⟩), .int .i64 j] (Go.Sort.grow (redrawn wr d) os) fun e w'' => e = .returned (.int .i64 u) ∧ ∃ p : Regrown, w'' = Go.Sort.grow (redrawn wr p.d) p.os := fun d os =>
                      Calls.regrown_of ((refUsed_in (HPX.out.keep (below_regrown wr d os)).rp j hjm).mono fun e w h => ⟨by rw [hu]; exact h.1, by rw [← h.2]; exact Below.refl _ _⟩)
                    have cR : ∀ d os, Calls Try.prog 18 #[.pointer (some ⟨g, 0, none⟩), .int .i64 j] (Go.Sort.grow (redrawn wr d) os) fun e w'' => e = .returned (.int .i64 ((fj : Int) - u)) ∧ ∃ p : Regrown, w'' = Go.Sort.grow (redrawn wr p.d) p.os := fun d os =>
                      Calls.regrown_of ((frameRoom_in HP.out (HPX.out.keep (below_regrown wr d os)).bl (HPX.out.keep (below_regrown wr d os)).fp j hjrs h64 (by rw [usF_in hjm, ← hu]; omega) (by rw [← hfr]; omega)).mono fun e w h => ⟨by rw [h.1, usF_in hjm, ← hu, hfj, hfr], h.2⟩)
                    have cC : ∀ d os, (Go.Sort.grow (redrawn wr d) os).cell? ⟨gr, ofr + j * 9 + 5, none⟩ = some (.int .i64 (fj : Nat)) := fun d os => by
                      have hb := (HPX.out.keep (below_regrown wr d os)).bl
                      rw [World.cell?_of_block (w := w3) (a := ⟨gr, ofr + j * 9 + 5, none⟩) (hb.block gr hgr), hfj]
                      exact hc5
                    have CU := Lib.hid cU
                    have CM := Lib.hid cM
                    have CR := Lib.hid cR
                    have hra : RA = some ⟨gr, ofr, none⟩ := by have := HRA.out; injection this
                    subst hra
                    clear cU cM cR hu hfj hc5 hgr HRA hfr hcl
                    refine wp_region_quiet_below (by kernel_rfl) (by kernel_rfl) ?_
                    repeat (go_big_quiet_step (first
                      | (go_at_call 16; with_reducible exact CU.out _ _)
                      | (go_at_call 18; with_reducible exact CR.out _ _)
                      | (go_at_call 17; with_reducible exact CM.out _ _)))
                    refine wpQuiet_nil ?_
                    intro w6 hw6
                    have hb6 : Below wr.heap.size wr w6 := by obtain ⟨p, rfl⟩ := hw6; exact below_regrown wr p.d p.os
                    have HB6 := Lib.hid (HBX.out.trans (hb6.mono HBX.out.size))
                    clear hw6 hb6 cC
                    go_wp2_with fail
                    refine ⟨⟨j + 1, by omega, by go_num, HB6.out⟩, ?_⟩
                    simp [intOf]
                    omega
                  · obtain rfl : j = n := by omega
                    have f1 : ¬ ((j : Int) < j) := by omega
                    go_wp2_with fail
                    go_roundg (gk - 1)
                    case measure => omega
                    case rel => exact ⟨i + 1, pv2, T2, B2, by omega, by go_num, HPX.out⟩
    · go_wp2_with fail
      go_ret
      exact ⟨rfl, HB3.out.trans (HPW.out.bl.mono HB3.out.size)⟩
end Go.Proofs.Ytdahmibgjbhmfaa
