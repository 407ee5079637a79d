/- The law RuleKeeps: its walk, way A. -/
import Derived.Test.YtlclainjefchlaaRuleH
set_option linter.unusedVariables false
set_option linter.unusedSimpArgs false
namespace Go.Proofs.Ytlclainjefchlaa
open Go.RowKit

set_option maxRecDepth 100000 in
set_option maxHeartbeats 16000000 in
theorem ruleKeeps_A (W : World) (v0 : Value) (sz : SizeL) (hsv : SizeV W v0 sz) (a b n : Int) (hn8 : 0 ≤ n ∧ n ≤ 255) (hc : True) :
    Calls Try.prog 5 #[v0, .int .i64 a, .int .i64 b, .int .u8 n, .bool false] W fun e w' => e = .returned (.bool true) ∧ Below W.heap.size W w' := by
  obtain ⟨X, tv, rfl, hX, hrest⟩ := hsv
  have HV := Lib.hid (show SizeV W (.agg X) sz from ⟨X, tv, rfl, hX, hrest⟩)
  have HCC := Lib.hid hc
  clear hrest hc
  have HXS := Lib.hid (sizeCells hX)
  clear hX
  obtain ⟨w0, hw0⟩ : ∃ w0, w0 = ((W.alloc (.cells X 26)).alloc (.cells #[.int .i64 a] 3)).alloc (.cells #[.int .i64 b] 3) := ⟨_, rfl⟩
  have hx : w0.heap[W.heap.size]? = some (.cells X 26) := by rw [hw0]; exact bkeep (bnew _ _) (bkeep (bnew _ _) (heap_alloc_last W _))
  have hpa : w0.heap[W.heap.size + 1]? = some (.cells #[.int .i64 a] 3) := by
    rw [hw0]; refine bkeep (bnew _ _) ?_
    have := heap_alloc_last (W.alloc (.cells X 26)) (.cells #[.int .i64 a] 3)
    simpa using this
  have hpb : w0.heap[W.heap.size + 2]? = some (.cells #[.int .i64 b] 3) := by
    rw [hw0]
    have := heap_alloc_last ((W.alloc (.cells X 26)).alloc (.cells #[.int .i64 a] 3)) (.cells #[.int .i64 b] 3)
    simpa using this
  have hB : Below W.heap.size W w0 := by rw [hw0]; exact bnewAfter (bnewAfter (bnew W _) _) _
  have HW0 := Lib.hid hw0
  clear hw0
  go_enter Try.func5, Try.ntmps5
  go_wp2_with fail
  rw [← HW0.out]
  clear HW0
  refine (ruleAwake_in _).mono ?_; rintro e w1 ⟨rfl, hb1⟩
  have HX1 := Lib.hid (bkeep hb1 hx)
  have HA1 := Lib.hid (bkeep hb1 hpa)
  have HC1 := Lib.hid (bkeep hb1 hpb)
  have HB1 := Lib.hid (bnext hB hb1)
  have HPX := Lib.hid (cellsPiece HX1.out)
  clear hb1 hx hpa hpb hB
  go_wp2_with (refine wpList_load_pieceTo rfl 26 (.tmp 5) rfl (some 25) rfl W.heap.size 0 rfl X _ HPX.out Try.underlying26 rfl HXS.out ?_)
  refine (sizeRegs_in _ _ sz (HV.out.keep HB1.out)).mono ?_; rintro e w2 ⟨hb2, rv, mv, rfl, hr, _⟩
  have hr2 := SR.of_own hr
  obtain ⟨A, cap, rfl, hc1, hc2⟩ := hr2.form
  have hb3 := bnewAfter hb2 (.cells #[.slice A (sizeRegs sz).length cap] 32)
  have hg3 := heap_alloc_last w2 (.cells #[.slice A (sizeRegs sz).length cap] 32)
  have HX3 := Lib.hid (bkeep hb3 HX1.out)
  have HA3 := Lib.hid (bkeep hb3 HA1.out)
  have HC3 := Lib.hid (bkeep hb3 HC1.out)
  have HB3 := Lib.hid (bnext HB1.out hb3)
  have HR3 := Lib.hid (own_below hr (bnew w2 (.cells #[.slice A (sizeRegs sz).length cap] 32)))
  have HC1' := Lib.hid HC1.out
  have HG3 := Lib.hid hg3
  have hw22 : W.heap.size + 2 < w2.heap.size := by have := rowlt HC1.out; have := hb2.size; omega
  clear hb2 hb3 hr hr2 hg3 HPX HX1 HA1 HC1 HB1
  have HPX3 := Lib.hid (cellsPiece HX3.out)
  go_wp2_with (refine wpList_load_pieceTo rfl 26 (.tmp 5) rfl (some 29) rfl W.heap.size 0 rfl X _ HPX3.out Try.underlying26 rfl HXS.out ?_)
  generalize w2.alloc (.cells #[.slice A (sizeRegs sz).length cap] 32) = w3 at *
  refine (sizeConf_cb _ _ sz (HV.out.keep HB3.out)).mono ?_; rintro e w4 ⟨hb4, Bc, g, gT, gN, gL, v', m', u', rfl, hBc, hcb⟩
  have HP4 := Lib.hid hcb
  have hw12 : W.heap.size + 2 < w1.heap.size := rowlt HC1'.out
  have hbc12 : W.heap.size + 2 < Bc := by have := rowlt HC3.out; omega
  have HA4 := Lib.hid (bkeep hb4 HA3.out)
  have HC4 := Lib.hid (bkeep hb4 HC3.out)
  have HG4 := Lib.hid (bkeep hb4 HG3.out)
  have HB4 := Lib.hid (bnext HB3.out hb4)
  have HR4 := Lib.hid (own_below HR3.out hb4)
  clear hcb hb4 HPX3 HX3 HA3 HC3 HG3 HB3 HR3 HV HXS
  obtain ⟨rs, hrs⟩ : ∃ rs, rs = sizeRegs sz := ⟨_, rfl⟩
  have hle : rs.length ≤ 100 := hrs ▸ size_le sz
  have hanti : antiI rs := hrs ▸ size_anti sz
  have hoks : ∀ r ∈ rs, okL r.lab := hrs ▸ size_oks sz
  have hk2 : 2 ≤ rs.length := by have := manyOf_le sz; rw [hrs, sizeRegs_length]; omega
  have hk5 : rs.length ≤ 5 := by have := manyOf_le sz; rw [hrs, sizeRegs_length]; omega
  rw [← hrs] at HP4 HR4 HG4 hc1 ⊢
  clear hrs
  have HAN := Lib.hid hanti
  have HOK := Lib.hid hoks
  clear hanti hoks
  go_wp2_with fail
  refine (ruleNew_in _ _).mono ?_; rintro e w5 ⟨rfl, hb5⟩
  have hm := heap_alloc_last w5 (.cells #[.pointer (some ⟨g, 0, none⟩)] 38)
  have hb6 := bnewAfter hb5 (.cells #[.pointer (some ⟨g, 0, none⟩)] 38)
  have HM := Lib.hid hm
  have HB := Lib.hid (bnext HB4.out hb6)
  have HA := Lib.hid (bkeep hb6 HA4.out)
  have HC := Lib.hid (bkeep hb6 HC4.out)
  have HG := Lib.hid (bkeep hb6 HG4.out)
  have HR := Lib.hid (own_below HR4.out hb6)
  have HP := Lib.hid (HP4.out.keep hb6)
  have hw5 : W.heap.size + 2 < w5.heap.size := by have := rowlt HC4.out; have := hb5.size; omega
  clear hm hb5 hb6 HB4 HA4 HC4 HG4 HR4 HP4
  go_upto_if 33 with fail
  generalize w5.alloc (.cells #[.pointer (some ⟨g, 0, none⟩)] 38) = w6 at *
  have HSC := Lib.hid (show Scene W w6 w2.heap.size w5.heap.size g a b A cap rs from ⟨HB.out, HA.out, HC.out, HG.out, HM.out, SR.of_own HR.out, HP.out.toCF.toP hle HOK.out⟩)
  go_cut [] (fun wx => ∃ a' b' : Int, (inB a' rs.length = true ∧ inB b' rs.length = true) ∧ Scene W wx w2.heap.size w5.heap.size g a' b' A cap rs)
  case first =>
    obtain ⟨A1, hA1⟩ : ∃ z, IntKind.u64.wrap a = z := ⟨_, rfl⟩
    obtain ⟨B1, hB1⟩ : ∃ z, IntKind.u64.wrap b = z := ⟨_, rfl⟩
    obtain ⟨k, hk⟩ : ∃ k : Int, (rs.length : Int) = k := ⟨_, rfl⟩
    have hL : IntKind.u64.wrap k = k := by rw [IntKind.wrap_u64]; omega
    have hk0 : ¬ k = 0 := by omega
    have bA : 0 ≤ A1 := by rw [← hA1, IntKind.wrap_u64]; omega
    have bB : 0 ≤ B1 := by rw [← hB1, IntKind.wrap_u64]; omega
    obtain ⟨x, hx⟩ : ∃ z, A1.tmod k = z := ⟨_, rfl⟩
    obtain ⟨y, hy⟩ : ∃ z, B1.tmod k = z := ⟨_, rfl⟩
    have bx : 0 ≤ x ∧ x < k := by rw [← hx, Int.tmod_eq_emod_of_nonneg bA]; exact ⟨Int.emod_nonneg _ (by omega), Int.emod_lt_of_pos _ (by omega)⟩
    have bY : 0 ≤ y ∧ y < k := by rw [← hy, Int.tmod_eq_emod_of_nonneg bB]; exact ⟨Int.emod_nonneg _ (by omega), Int.emod_lt_of_pos _ (by omega)⟩
    have ux : IntKind.u64.wrap x = x := by rw [IntKind.wrap_u64]; omega
    have uy : IntKind.u64.wrap y = y := by rw [IntKind.wrap_u64]; omega
    have ix : IntKind.i64.wrap x = x := by rw [IntKind.wrap_i64]; omega
    have iy : IntKind.i64.wrap y = y := by rw [IntKind.wrap_i64]; omega
    have c1 := rowcell HA.out
    have c2 := rowcell HC.out
    have c3 := rowcell HG.out
    have f1 := rowfree HA.out
    have f2 := rowfree HC.out
    have oA := one_setCell w6 (W.heap.size + 1) 0 (.int .i64 x)
    have hGA := oA.blk HG.out (fun e => by have := Option.some.inj e; omega)
    have hCA := oA.blk HC.out (fun e => by have := Option.some.inj e; omega)
    have c4 := rowcell hGA
    have c5 := rowcell hCA
    have f5 := rowfree hCA
    clear oA hGA hCA
    go_wp2_with fail
    go_region
    rw [← hk]
    go_wp2_with fail
    go_meet
    refine ⟨x, y, ⟨by simp [inB]; omega, by simp [inB]; omega⟩, ?_⟩
    clear c1 c2 c3 c4 c5 f1 f2 f5 hk hA1 hB1 hL hk0 hx hy ux uy ix iy
    have oA := one_setCell w6 (W.heap.size + 1) 0 (.int .i64 x)
    have hA := heap_setCell_at (off := 0) HA.out (.int .i64 x) (by simp)
    have hG := oA.blk HG.out (fun e => by have := Option.some.inj e; omega)
    have hC := oA.blk HC.out (fun e => by have := Option.some.inj e; omega)
    have hM := oA.blk HM.out (fun e => by have := Option.some.inj e; omega)
    have hR := own_one HR.out oA (fun k hk e => by have := (own_blk HR.out hk).1; have := Option.some.inj e; omega)
    have hP := HP.out.one (by omega) oA
    have hB := HB.out.trans (oA.toBelow (fun k hk => by cases hk; omega) HB.out.size)
    generalize w6.setCell ⟨W.heap.size + 1, 0, none⟩ (.int .i64 x) = wa at *
    have oB := one_setCell wa (W.heap.size + 2) 0 (.int .i64 y)
    have hB2 := hB.trans (oB.toBelow (fun k hk => by cases hk; omega) hB.size)
    have hC2 := heap_setCell_at (off := 0) hC (.int .i64 y) (by simp)
    have hA2 := oB.blk hA (fun e => by have := Option.some.inj e; omega)
    have hG2 := oB.blk hG (fun e => by have := Option.some.inj e; omega)
    have hM2 := oB.blk hM (fun e => by have := Option.some.inj e; omega)
    have hR2 := own_one hR oB (fun k hk e => by have := (own_blk hR hk).1; have := Option.some.inj e; omega)
    have hP2 := hP.one (by omega) oB
    exact Scene.keep ⟨hB2, hA2, hC2, hG2, hM2, SR.of_own hR2, hP2.toCF.toP hle HOK.out⟩ (drewb _)
  case rest =>
    obtain ⟨wx, hwx⟩ : ∃ wx, wx = wc := ⟨_, rfl⟩
    subst hwx
    clear HSC HA HC HG HM HR HP HB hbc12 hw12
    obtain ⟨a1, b1, hin, hsc⟩ := hcut
    have HIN := Lib.hid hin
    clear hin
    have HS := Lib.hid hsc
    clear hsc
    obtain ⟨kd, hkd⟩ : ∃ k, k = decide (0 < bits BinOp.and IntKind.u8 n 1) := ⟨_, rfl⟩
    obtain ⟨kr, hkr⟩ : ∃ k, k = decide (0 < bits BinOp.and IntKind.u8 n 2) := ⟨_, rfl⟩
    obtain ⟨kw, hkw⟩ : ∃ k, k = decide (0 < bits BinOp.and IntKind.u8 n 4) := ⟨_, rfl⟩
    have HKD := Lib.hid hkd
    have HKR := Lib.hid hkr
    have HKW := Lib.hid hkw
    clear hkd hkr hkw
    go_upto_region 9 with fail
    rw [← HKD.out, ← HKR.out, ← HKW.out]
    clear HKD HKR HKW
    go_cut [18] (fun s18 wx => s18 = .bool (keepsI rs a1 b1 kd kr kw) ∧ Scene W wx w2.heap.size w5.heap.size g a1 b1 A cap rs)
    case first =>
      cases kr
      case false =>
        cases kd
        case false =>
          cases kw
          case false =>
            go_wp2_with fail
            go_meet
            refine ⟨?_, HS.out⟩
            exact congrArg Value.bool (by simp [keepsI])
          case true =>
            go_wp2_with fail
            refine (keepFn_in HS.out HOK.out HAN.out 3).mono ?_; rintro e y2 ⟨rfl, hby2⟩
            have HS2 := Lib.hid (HS.out.keep hby2)
            clear hby2
            obtain ⟨q2, hq2⟩ : ∃ q, q = (judgeI rs a1 0 b1 false 3 == 0) := ⟨_, rfl⟩
            rw [← hq2]
            have HQ2 := Lib.hid hq2
            clear hq2
            cases q2
            case false =>
              go_wp2_with fail
              go_meet
              refine ⟨?_, HS2.out⟩
              exact congrArg Value.bool (by have e2 := HQ2.out; simp [keepsI, ← e2])
            case true =>
              go_wp2_with fail
              go_meet
              refine ⟨?_, HS2.out⟩
              exact congrArg Value.bool (by have e2 := HQ2.out; simp [keepsI, ← e2])
        case true =>
          go_wp2_with fail
          refine (keepFn_in HS.out HOK.out HAN.out 1).mono ?_; rintro e y1 ⟨rfl, hby1⟩
          have HS1 := Lib.hid (HS.out.keep hby1)
          clear hby1
          obtain ⟨q1, hq1⟩ : ∃ q, q = (judgeI rs a1 0 b1 false 1 == 0) := ⟨_, rfl⟩
          rw [← hq1]
          have HQ1 := Lib.hid hq1
          clear hq1
          cases q1
          case false =>
            go_wp2_with fail
            go_meet
            refine ⟨?_, HS1.out⟩
            exact congrArg Value.bool (by have e1 := HQ1.out; simp [keepsI, ← e1])
          case true =>
            cases kw
            case false =>
              go_wp2_with fail
              go_meet
              refine ⟨?_, HS1.out⟩
              exact congrArg Value.bool (by have e1 := HQ1.out; simp [keepsI, ← e1])
            case true =>
              go_wp2_with fail
              refine (keepFn_in HS1.out HOK.out HAN.out 3).mono ?_; rintro e y2 ⟨rfl, hby2⟩
              have HS2 := Lib.hid (HS1.out.keep hby2)
              clear hby2
              obtain ⟨q2, hq2⟩ : ∃ q, q = (judgeI rs a1 0 b1 false 3 == 0) := ⟨_, rfl⟩
              rw [← hq2]
              have HQ2 := Lib.hid hq2
              clear hq2
              cases q2
              case false =>
                go_wp2_with fail
                go_meet
                refine ⟨?_, HS2.out⟩
                exact congrArg Value.bool (by have e1 := HQ1.out; have e2 := HQ2.out; simp [keepsI, ← e1, ← e2])
              case true =>
                go_wp2_with fail
                go_meet
                refine ⟨?_, HS2.out⟩
                exact congrArg Value.bool (by have e1 := HQ1.out; have e2 := HQ2.out; simp [keepsI, ← e1, ← e2])
      case true =>
        go_wp2_with fail
        refine (keepFn_in HS.out HOK.out HAN.out 0).mono ?_; rintro e y0 ⟨rfl, hby0⟩
        have HS0 := Lib.hid (HS.out.keep hby0)
        clear hby0
        obtain ⟨q0, hq0⟩ : ∃ q, q = (judgeI rs a1 0 b1 false 0 == 0) := ⟨_, rfl⟩
        rw [← hq0]
        have HQ0 := Lib.hid hq0
        clear hq0
        cases q0
        case false =>
          go_wp2_with fail
          go_meet
          refine ⟨?_, HS0.out⟩
          exact congrArg Value.bool (by have e0 := HQ0.out; simp [keepsI, ← e0])
        case true =>
          cases kd
          case false =>
            cases kw
            case false =>
              go_wp2_with fail
              go_meet
              refine ⟨?_, HS0.out⟩
              exact congrArg Value.bool (by have e0 := HQ0.out; simp [keepsI, ← e0])
            case true =>
              go_wp2_with fail
              refine (keepFn_in HS0.out HOK.out HAN.out 3).mono ?_; rintro e y2 ⟨rfl, hby2⟩
              have HS2 := Lib.hid (HS0.out.keep hby2)
              clear hby2
              obtain ⟨q2, hq2⟩ : ∃ q, q = (judgeI rs a1 0 b1 false 3 == 0) := ⟨_, rfl⟩
              rw [← hq2]
              have HQ2 := Lib.hid hq2
              clear hq2
              cases q2
              case false =>
                go_wp2_with fail
                go_meet
                refine ⟨?_, HS2.out⟩
                exact congrArg Value.bool (by have e0 := HQ0.out; have e2 := HQ2.out; simp [keepsI, ← e0, ← e2])
              case true =>
                go_wp2_with fail
                go_meet
                refine ⟨?_, HS2.out⟩
                exact congrArg Value.bool (by have e0 := HQ0.out; have e2 := HQ2.out; simp [keepsI, ← e0, ← e2])
          case true =>
            go_wp2_with fail
            refine (keepFn_in HS0.out HOK.out HAN.out 1).mono ?_; rintro e y1 ⟨rfl, hby1⟩
            have HS1 := Lib.hid (HS0.out.keep hby1)
            clear hby1
            obtain ⟨q1, hq1⟩ : ∃ q, q = (judgeI rs a1 0 b1 false 1 == 0) := ⟨_, rfl⟩
            rw [← hq1]
            have HQ1 := Lib.hid hq1
            clear hq1
            cases q1
            case false =>
              go_wp2_with fail
              go_meet
              refine ⟨?_, HS1.out⟩
              exact congrArg Value.bool (by have e0 := HQ0.out; have e1 := HQ1.out; simp [keepsI, ← e0, ← e1])
            case true =>
              cases kw
              case false =>
                go_wp2_with fail
                go_meet
                refine ⟨?_, HS1.out⟩
                exact congrArg Value.bool (by have e0 := HQ0.out; have e1 := HQ1.out; simp [keepsI, ← e0, ← e1])
              case true =>
                go_wp2_with fail
                refine (keepFn_in HS1.out HOK.out HAN.out 3).mono ?_; rintro e y2 ⟨rfl, hby2⟩
                have HS2 := Lib.hid (HS1.out.keep hby2)
                clear hby2
                obtain ⟨q2, hq2⟩ : ∃ q, q = (judgeI rs a1 0 b1 false 3 == 0) := ⟨_, rfl⟩
                rw [← hq2]
                have HQ2 := Lib.hid hq2
                clear hq2
                cases q2
                case false =>
                  go_wp2_with fail
                  go_meet
                  refine ⟨?_, HS2.out⟩
                  exact congrArg Value.bool (by have e0 := HQ0.out; have e1 := HQ1.out; have e2 := HQ2.out; simp [keepsI, ← e0, ← e1, ← e2])
                case true =>
                  go_wp2_with fail
                  go_meet
                  refine ⟨?_, HS2.out⟩
                  exact congrArg Value.bool (by have e0 := HQ0.out; have e1 := HQ1.out; have e2 := HQ2.out; simp [keepsI, ← e0, ← e1, ← e2])
    case rest =>
      obtain ⟨wx, hwx⟩ : ∃ wx, wx = wc := ⟨_, rfl⟩
      subst hwx
      obtain ⟨rfl, hsc⟩ := hcut
      clear HS
      have HS := Lib.hid hsc
      clear hsc
      have c1 := rowcell HS.out.cg
      go_wp2_with fail
      clear c1
      go_loopw [19, 82] (fun u19 r wr => ∃ i : Nat, i ≤ rs.length ∧ r = .int .i64 i ∧ Below wx.heap.size wx wr ∧ wr.ownsRow wx.heap.size 3 1 u19 (seesTo rs a1 i).length (natVs (seesTo rs a1 i))) (fun _ r _ => rs.length - (intOf r).toNat)
      case atStart => exact ⟨0, by omega, rfl, Below.refl _ _, ⟨rfl, .inl ⟨rfl, rfl⟩⟩⟩
      case round =>
        obtain ⟨i, hi, rfl, hbr, hor⟩ := hrel
        have HSR := Lib.hid (HS.out.keep hbr)
        have HBR := Lib.hid hbr
        have HOR := Lib.hid hor
        clear hbr hor
        by_cases hlt : i < rs.length
        · have hlti : (i : Int) < rs.length := by omega
          have hlm : (i : Int) < 9223372036854775807 := by omega
          go_wp2_with fail
          have hsl := seesTo_len rs a1 i
          have HNX := Lib.hid (seesTo_next rs a1 i)
          obtain ⟨h0, h1⟩ : 0 ≤ a1 ∧ a1 < rs.length := by have h9 := HIN.out.1; simp [inB] at h9; exact h9
          obtain ⟨k, hk1⟩ : ∃ k : Nat, a1 = k := ⟨a1.toNat, by omega⟩
          have hkl : k < rs.length := by omega
          have hkli : (k : Int) < rs.length := by omega
          have hnx := leqI_nat (rs := rs) hlt hkl
          rw [← hk1] at hnx
          have HLI := Lib.hid hnx
          clear hnx
          obtain ⟨gr, off, cp, hAe, hcc1, hcc2, hgr, hc⟩ := RS_cases HSR.out.sr (by omega)
          cases hAe
          obtain ⟨_, p1, p2, _⟩ := hc i hlt
          obtain ⟨_, q1, q2, _⟩ := hc k hkl
          clear hc
          have oi := HOK.out _ (List.getElem_mem hlt)
          have oj := HOK.out _ (List.getElem_mem hkl)
          generalize rs[i] = ra at *
          generalize rs[k] = rb at *
          have HSK := Lib.hid HSR.out
          rw [hk1] at HSK
          have hS : Below wr.heap.size wr wr.drew := drewb wr
          refine wp_region_held (S := fun w' => Below wr.heap.size wr w') (by kernel_rfl) ?_
          change wpAnyH _ _ _ _ _ _ _ _ (World.drew _)
          refine takeH 0 (.int .i64 (k : Nat)) (some 85) rfl rfl (by kernel_rfl) (by kernel_rfl) (by kernel_rfl) (fun _ _ _ h => h) (.inl ⟨by kernel_rfl, fun w hw => by have hc := (fun w hw => rowcell (HSK.out.keep hw).ca) w hw; go_simp⟩) hS ?_
          refine takeH 1 (.bool true) (some 86) rfl rfl (by kernel_rfl) (by kernel_rfl) (by kernel_rfl) (fun _ _ _ h => h) (.inl ⟨by kernel_rfl, fun w _ => by go_simp⟩) hS ?_
          refine takeH 2 (.bool true) (some 87) rfl rfl (by kernel_rfl) (by kernel_rfl) (by kernel_rfl) (fun _ _ _ h => h) (.inl ⟨by kernel_rfl, fun w _ => by go_simp⟩) hS ?_
          refine takeH 3 (.int .i64 (k : Nat)) (some 88) rfl rfl (by kernel_rfl) (by kernel_rfl) (by kernel_rfl) (fun _ _ _ h => h) (.inl ⟨by kernel_rfl, fun w hw => by have hc := (fun w hw => rowcell (HSK.out.keep hw).ca) w hw; go_simp⟩) hS ?_
          refine takeH 4 (.slice (some ⟨gr, off, none⟩) rs.length cap) (some 89) rfl rfl (by kernel_rfl) (by kernel_rfl) (by kernel_rfl) (fun _ _ _ h => h) (.inl ⟨by kernel_rfl, fun w hw => by have hc := (fun w hw => rowcell (HSK.out.keep hw).cg) w hw; go_simp⟩) hS ?_
          refine takeH 5 (.int .i64 rs.length) (some 90) rfl rfl (by kernel_rfl) (by kernel_rfl) (by kernel_rfl) (fun _ _ _ h => h) (.inl ⟨by kernel_rfl, fun w _ => by go_simp⟩) hS ?_
          refine takeH 6 (.bool true) (some 91) rfl rfl (by kernel_rfl) (by kernel_rfl) (by kernel_rfl) (fun _ _ _ h => h) (.inl ⟨by kernel_rfl, fun w _ => by go_simp⟩) hS ?_
          refine takeH 7 (.bool true) (some 92) rfl rfl (by kernel_rfl) (by kernel_rfl) (by kernel_rfl) (fun _ _ _ h => h) (.inl ⟨by kernel_rfl, fun w _ => by go_simp⟩) hS ?_
          refine takeH 8 (.bool true) (some 93) rfl rfl (by kernel_rfl) (by kernel_rfl) (by kernel_rfl) (fun _ _ _ h => h) (.inl ⟨by kernel_rfl, fun w _ => by go_simp⟩) hS ?_
          refine takeH 9 (.slice (some ⟨gr, off, none⟩) rs.length cap) (some 94) rfl rfl (by kernel_rfl) (by kernel_rfl) (by kernel_rfl) (fun _ _ _ h => h) (.inl ⟨by kernel_rfl, fun w hw => by have hc := (fun w hw => rowcell (HSK.out.keep hw).cg) w hw; go_simp⟩) hS ?_
          refine takeH 10 (.int .i64 i) (some 95) rfl rfl (by kernel_rfl) (by kernel_rfl) (by kernel_rfl) (fun _ _ _ h => h) (.inl ⟨by kernel_rfl, fun w _ => by go_simp⟩) hS ?_
          refine takeH 11 (.pointer (some ⟨gr, off + i * 9, none⟩)) (some 96) rfl rfl (by kernel_rfl) (by kernel_rfl) (by kernel_rfl) (fun _ _ _ h => h) (.inl ⟨by kernel_rfl, fun w _ => by go_simp⟩) hS ?_
          refine takeH 12 (.pointer (some ⟨gr, off + i * 9 + 1, none⟩)) (some 97) rfl rfl (by kernel_rfl) (by kernel_rfl) (by kernel_rfl) (fun _ _ _ h => h) (.inl ⟨by kernel_rfl, fun w _ => by go_simp⟩) hS ?_
          refine takeH 13 (.agg #[.int .u8 ra.lab.1, .int .u16 ra.lab.2]) (some 98) rfl rfl (by kernel_rfl) (by kernel_rfl) (by kernel_rfl) (fun _ _ _ h => h) (.inl ⟨by kernel_rfl, fun w hw => by have e1 := (World.cell?_of_block (a := ⟨gr, off + i * 9 + 1, none⟩) (hw.block gr hgr)).trans p1; have e2 := (World.cell?_of_block (a := ⟨gr, off + i * 9 + 2, none⟩) (hw.block gr hgr)).trans p2; go_simp⟩) hS ?_
          refine takeH 14 (.slice (some ⟨gr, off, none⟩) rs.length cap) (some 99) rfl rfl (by kernel_rfl) (by kernel_rfl) (by kernel_rfl) (fun _ _ _ h => h) (.inl ⟨by kernel_rfl, fun w hw => by have hc := (fun w hw => rowcell (HSK.out.keep hw).cg) w hw; go_simp⟩) hS ?_
          refine takeH 15 (.int .i64 (k : Nat)) (some 100) rfl rfl (by kernel_rfl) (by kernel_rfl) (by kernel_rfl) (fun _ _ _ h => h) (.inl ⟨by kernel_rfl, fun w hw => by have hc := (fun w hw => rowcell (HSK.out.keep hw).ca) w hw; go_simp⟩) hS ?_
          refine takeH 16 (.pointer (some ⟨gr, off + k * 9, none⟩)) (some 101) rfl rfl (by kernel_rfl) (by kernel_rfl) (by kernel_rfl) (fun _ _ _ h => h) (.inl ⟨by kernel_rfl, fun w _ => by go_simp⟩) hS ?_
          refine takeH 17 (.pointer (some ⟨gr, off + k * 9 + 1, none⟩)) (some 102) rfl rfl (by kernel_rfl) (by kernel_rfl) (by kernel_rfl) (fun _ _ _ h => h) (.inl ⟨by kernel_rfl, fun w _ => by go_simp⟩) hS ?_
          refine takeH 18 (.agg #[.int .u8 rb.lab.1, .int .u16 rb.lab.2]) (some 103) rfl rfl (by kernel_rfl) (by kernel_rfl) (by kernel_rfl) (fun _ _ _ h => h) (.inl ⟨by kernel_rfl, fun w hw => by have e1 := (World.cell?_of_block (a := ⟨gr, off + k * 9 + 1, none⟩) (hw.block gr hgr)).trans q1; have e2 := (World.cell?_of_block (a := ⟨gr, off + k * 9 + 2, none⟩) (hw.block gr hgr)).trans q2; go_simp⟩) hS ?_
          refine callH 19 rfl (by kernel_rfl) (by kernel_rfl) (some 104) rfl 23 #[.agg #[.int .u8 ra.lab.1, .int .u16 ra.lab.2], .agg #[.int .u8 rb.lab.1, .int .u16 rb.lab.2]] ?hrun ((refLeq_any ra.lab rb.lab oi oj _).mono ?_)
          case hrun => go_simp
          rintro e y2 ⟨he, hb2⟩
          have hS2 := hS.trans (hb2.mono hS.size)
          refine ⟨_, he, hS2, ?_⟩
          refine takeH 20 (.bool (leqL ra.lab rb.lab)) (some 105) rfl rfl (by kernel_rfl) (by kernel_rfl) (by kernel_rfl) (fun _ _ _ h => h) (.inl ⟨by kernel_rfl, fun w _ => by go_simp⟩) hS2 ?_
          refine wpAnyH_done (by kernel_rfl) ?_ _
          go_simp
          rw [← hk1]
          obtain ⟨lv, hlv⟩ : ∃ l, l = leqL ra.lab rb.lab := ⟨_, rfl⟩
          rw [← hlv]
          have HLV := Lib.hid hlv
          clear hlv
          have HB2 := Lib.hid (HBR.out.trans (hS2.mono HBR.out.size))
          have HO2 := Lib.hid (own_below HOR.out hS2)
          clear hS hS2 hb2 p1 p2 q1 q2
          cases lv
          · go_wp2_with fail
            refine ⟨⟨i + 1, by omega, rfl, HB2.out, ?_⟩, by simp [intOf]; omega⟩
            rw [HNX.out, HLI.out, ← HLV.out]
            exact HO2.out
          · go_wp2_with (with_reducible refine wpList_stop (some 109) rfl ?_)
            refine Lib.hid ?_
            have hbi5 := bnew y2 (.cells #[.int .i64 i] 3)
            have hM5 := own_below HO2.out hbi5
            have hl5 := heap_alloc_last y2 (.cells #[.int .i64 i] 3)
            have hw5x := HB2.out.trans (hbi5.mono HB2.out.size)
            obtain ⟨A9, c9, hA9⟩ := own_form HO2.out
            subst hA9
            refine wpList_append_sr rfl (.tmp 106) (.tmp 108) 53 rfl (some 109) rfl wx.heap.size 3 (.int .i64 0) 1 8 Try.underlying53 (by kernel_rfl) rfl (by decide) (.slice A9 (seesTo rs a1 i).length c9) (.slice (some ⟨y2.heap.size, 0, none⟩) 1 1) (seesTo rs a1 i).length 1 (natVs (seesTo rs a1 i)) _ rfl hM5 rfl (SR.lit hl5 rfl) (List.all_eq_true.1 (by rfl)) (by unfold maxLen; omega) (by omega) hw5x.size ?_
            intro v8 w8 hown8 hgr8 hloc8
            have o8 := one_of_grown hgr8
            have hb8 := hw5x.trans (o8.toBelow (fun j hj => (own_blk hM5 hj).1) hw5x.size)
            have HB8 := Lib.hid hb8
            have HO8 := Lib.hid hown8
            clear hown8 hgr8 hloc8 o8 hM5 hl5 hw5x hbi5 hb8
            go_wp2_with fail
            refine ⟨⟨v8, _, _, ⟨i + 1, by omega, rfl, HB8.out, ?_⟩, rfl, rfl, rfl⟩, by simp [intOf]; omega⟩
            rw [← hk1, HNX.out, HLI.out, ← HLV.out]
            simpa [natVs, intV] using HO8.out
        · have hge : ¬ (i : Int) < rs.length := by omega
          obtain rfl : rs.length = i := by omega
          go_upto_region 17 with fail
          go_cut [21] (fun s21 wy => s21 = .bool (inB a1 rs.length && inB b1 rs.length) ∧ wy = wr)
          case first =>
            have c1 := rowcell HSR.out.ca
            have c2 := rowcell HSR.out.cb
            have c3 := rowcell HSR.out.cg
            obtain ⟨h0, h2⟩ : 0 ≤ a1 ∧ a1 < rs.length := by have h9 := HIN.out.1; simp [inB] at h9; exact h9
            obtain ⟨h1, h3⟩ : 0 ≤ b1 ∧ b1 < rs.length := by have h9 := HIN.out.2; simp [inB] at h9; exact h9
            go_wp2_with fail
            go_meet
            exact ⟨congrArg Value.bool (by simp [inB]; omega), rfl⟩
          case rest =>
            obtain ⟨rfl, hwy⟩ := hcut
            have hwy' := hwy.symm
            clear hwy
            subst hwy'
            go_upto_region 18 with fail
            obtain ⟨kp, hkp⟩ : ∃ k, k = keepsI rs a1 b1 kd kr kw := ⟨_, rfl⟩
            rw [← hkp]
            have HKP := Lib.hid hkp
            clear hkp
            have hsm : ∀ c ∈ seesTo rs a1 rs.length, c < 1000 := fun c hc => by
              have := seesTo_lt hc
              omega
            have hsn := seesTo_len rs a1 rs.length
            have HSM := Lib.hid hsm
            clear hsm
            have hin : (inB a1 rs.length = true ∧ inB b1 rs.length = true) := HIN.out
            obtain ⟨hina, hinb⟩ := hin
            rw [hina, hinb]
            obtain ⟨k, rfl, hkl⟩ := inB_yes hina
            obtain ⟨l, rfl, hll⟩ := inB_yes hinb
            have HLI := Lib.hid (leqI_nat (rs := rs) hkl hll)
            have hkli : (k : Int) < rs.length := by omega
            have hlli : (l : Int) < rs.length := by omega
            clear hina hinb
            obtain ⟨gr, off, cp, hAe, hcc1, hcc2, hgr, hc⟩ := RS_cases HSR.out.sr (by omega)
            cases hAe
            obtain ⟨_, p1, p2, _⟩ := hc k hkl
            obtain ⟨_, q1, q2, _⟩ := hc l hll
            clear hc
            have oi := HOK.out _ (List.getElem_mem hkl)
            have oj := HOK.out _ (List.getElem_mem hll)
            generalize rs[k] = ra at *
            generalize rs[l] = rb at *
            have hS : Below wr.heap.size wr wr.drew := drewb wr
            refine wp_region_held (S := fun w' => Below wr.heap.size wr w') (by kernel_rfl) ?_
            change wpAnyH _ _ _ _ _ _ _ _ (World.drew _)
            refine takeH 0 (.agg #[.pointer (some ⟨g, 0, none⟩)]) (some 129) rfl rfl (by kernel_rfl) (by kernel_rfl) (by kernel_rfl) (fun _ _ _ h => h) (.inl ⟨by kernel_rfl, fun w hw => by have hc := (fun w hw => rowcell (HSR.out.keep hw).cm) w hw; go_simp⟩) hS ?_
            refine takeH 1 (.int .i64 (k : Nat)) (some 130) rfl rfl (by kernel_rfl) (by kernel_rfl) (by kernel_rfl) (fun _ _ _ h => h) (.inl ⟨by kernel_rfl, fun w hw => by have hc := (fun w hw => rowcell (HSR.out.keep hw).ca) w hw; go_simp⟩) hS ?_
            refine takeH 2 (.int .i64 (l : Nat)) (some 131) rfl rfl (by kernel_rfl) (by kernel_rfl) (by kernel_rfl) (fun _ _ _ h => h) (.inl ⟨by kernel_rfl, fun w hw => by have hc := (fun w hw => rowcell (HSR.out.keep hw).cb) w hw; go_simp⟩) hS ?_
            refine takeH 3 (.bool kd) (some 132) rfl rfl (by kernel_rfl) (by kernel_rfl) (by kernel_rfl) (fun _ _ _ h => h) (.inl ⟨by kernel_rfl, fun w _ => by go_simp⟩) hS ?_
            refine takeH 4 (.bool kr) (some 133) rfl rfl (by kernel_rfl) (by kernel_rfl) (by kernel_rfl) (fun _ _ _ h => h) (.inl ⟨by kernel_rfl, fun w _ => by go_simp⟩) hS ?_
            refine takeH 5 (.bool kw) (some 134) rfl rfl (by kernel_rfl) (by kernel_rfl) (by kernel_rfl) (fun _ _ _ h => h) (.inl ⟨by kernel_rfl, fun w _ => by go_simp⟩) hS ?_
            refine takeH 7 (.bool kp) (some 136) rfl rfl (by kernel_rfl) (by kernel_rfl) (by kernel_rfl) (fun _ _ _ h => h) (.inl ⟨by kernel_rfl, fun w _ => by go_simp⟩) hS ?_
            refine callH 6 rfl (by kernel_rfl) (by kernel_rfl) (some 135) rfl 24 #[.agg #[.pointer (some ⟨g, 0, none⟩)], .int .i64 (k : Nat), .int .i64 (l : Nat), .bool kd, .bool kr, .bool kw] ?hrun ((keeps_in HSR.out.cp hS (k : Nat) (l : Nat) kd kr kw).mono ?_)
            case hrun => go_simp
            rintro e y3 ⟨he, hb3⟩
            rw [← HKP.out] at he
            have hS3 := hS.trans (hb3.mono hS.size)
            refine ⟨_, he, hS3, ?_⟩
            refine takeH 8 (.bool true) (some 137) rfl rfl (by kernel_rfl) (by kernel_rfl) (by kernel_rfl) (fun _ _ _ h => h) (.inl ⟨by kernel_rfl, fun w _ => by go_simp⟩) hS3 ?_
            refine takeH 9 (.bool true) (some 138) rfl rfl (by kernel_rfl) (by kernel_rfl) (by kernel_rfl) (fun _ _ _ h => h) (.inl ⟨by kernel_rfl, fun w _ => by go_simp⟩) hS3 ?_
            refine takeH 10 (.agg #[.pointer (some ⟨g, 0, none⟩)]) (some 139) rfl rfl (by kernel_rfl) (by kernel_rfl) (by kernel_rfl) (fun _ _ _ h => h) (.inl ⟨by kernel_rfl, fun w hw => by have hc := (fun w hw => rowcell (HSR.out.keep hw).cm) w hw; go_simp⟩) hS3 ?_
            refine takeH 11 (.int .i64 (k : Nat)) (some 140) rfl rfl (by kernel_rfl) (by kernel_rfl) (by kernel_rfl) (fun _ _ _ h => h) (.inl ⟨by kernel_rfl, fun w hw => by have hc := (fun w hw => rowcell (HSR.out.keep hw).ca) w hw; go_simp⟩) hS3 ?_
            refine takeH 13 (u19) (some 142) rfl rfl (by kernel_rfl) (by kernel_rfl) (by kernel_rfl) (fun _ _ _ h => h) (.inl ⟨by kernel_rfl, fun w _ => by go_simp⟩) hS3 ?_
            refine callH 12 rfl (by kernel_rfl) (by kernel_rfl) (some 141) rfl 26 #[.agg #[.pointer (some ⟨g, 0, none⟩)], .int .i64 (k : Nat)] ?hrun ((sees_in HSR.out.cp hS3 hle (k : Nat)).mono ?_)
            case hrun => go_simp
            rintro e y4 ⟨hb4, vs, he, hvs⟩
            have hS4 := hS3.trans (hb4.mono hS3.size)
            refine ⟨_, he, hS4, ?_⟩
            refine callH 14 rfl (by kernel_rfl) (by kernel_rfl) (some 143) rfl 25 #[vs, u19] ?hrun ((sameInts_any vs u19 _ _ (SI.ofNatVs hvs HSM.out) (SI.ofNatVs (own_below HOR.out hS4) HSM.out) (by rw [List.length_map]; omega)).mono ?_)
            case hrun => go_simp
            rintro e y5 ⟨he, hb5⟩
            have hS5 := hS4.trans (hb5.mono hS4.size)
            refine ⟨_, he, hS5, ?_⟩
            refine takeH 15 (.bool true) (some 144) rfl rfl (by kernel_rfl) (by kernel_rfl) (by kernel_rfl) (fun _ _ _ h => h) (.inl ⟨by kernel_rfl, fun w _ => by go_simp⟩) hS5 ?_
            refine takeH 16 (.bool true) (some 145) rfl rfl (by kernel_rfl) (by kernel_rfl) (by kernel_rfl) (fun _ _ _ h => h) (.inl ⟨by kernel_rfl, fun w _ => by go_simp⟩) hS5 ?_
            refine takeH 17 (.agg #[.pointer (some ⟨g, 0, none⟩)]) (some 146) rfl rfl (by kernel_rfl) (by kernel_rfl) (by kernel_rfl) (fun _ _ _ h => h) (.inl ⟨by kernel_rfl, fun w hw => by have hc := (fun w hw => rowcell (HSR.out.keep hw).cm) w hw; go_simp⟩) hS5 ?_
            refine takeH 18 (.int .i64 (k : Nat)) (some 147) rfl rfl (by kernel_rfl) (by kernel_rfl) (by kernel_rfl) (fun _ _ _ h => h) (.inl ⟨by kernel_rfl, fun w hw => by have hc := (fun w hw => rowcell (HSR.out.keep hw).ca) w hw; go_simp⟩) hS5 ?_
            refine takeH 19 (.int .i64 (l : Nat)) (some 148) rfl rfl (by kernel_rfl) (by kernel_rfl) (by kernel_rfl) (fun _ _ _ h => h) (.inl ⟨by kernel_rfl, fun w hw => by have hc := (fun w hw => rowcell (HSR.out.keep hw).cb) w hw; go_simp⟩) hS5 ?_
            refine takeH 21 (.bool true) (some 150) rfl rfl (by kernel_rfl) (by kernel_rfl) (by kernel_rfl) (fun _ _ _ h => h) (.inl ⟨by kernel_rfl, fun w _ => by go_simp⟩) hS5 ?_
            refine callH 20 rfl (by kernel_rfl) (by kernel_rfl) (some 149) rfl 27 #[.agg #[.pointer (some ⟨g, 0, none⟩)], .int .i64 (k : Nat), .int .i64 (l : Nat)] ?hrun ((flows_in HSR.out.cp hS5 (k : Nat) (l : Nat)).mono ?_)
            case hrun => go_simp
            rintro e y6 ⟨he, hb6⟩
            rw [HLI.out] at he
            have hS6 := hS5.trans (hb6.mono hS5.size)
            refine ⟨_, he, hS6, ?_⟩
            refine takeH 22 (.bool true) (some 151) rfl rfl (by kernel_rfl) (by kernel_rfl) (by kernel_rfl) (fun _ _ _ h => h) (.inl ⟨by kernel_rfl, fun w _ => by go_simp⟩) hS6 ?_
            refine takeH 23 (.slice (some ⟨gr, off, none⟩) rs.length cap) (some 152) rfl rfl (by kernel_rfl) (by kernel_rfl) (by kernel_rfl) (fun _ _ _ h => h) (.inl ⟨by kernel_rfl, fun w hw => by have hc := (fun w hw => rowcell (HSR.out.keep hw).cg) w hw; go_simp⟩) hS6 ?_
            refine takeH 24 (.int .i64 (k : Nat)) (some 153) rfl rfl (by kernel_rfl) (by kernel_rfl) (by kernel_rfl) (fun _ _ _ h => h) (.inl ⟨by kernel_rfl, fun w hw => by have hc := (fun w hw => rowcell (HSR.out.keep hw).ca) w hw; go_simp⟩) hS6 ?_
            refine takeH 25 (.pointer (some ⟨gr, off + k * 9, none⟩)) (some 154) rfl rfl (by kernel_rfl) (by kernel_rfl) (by kernel_rfl) (fun _ _ _ h => h) (.inl ⟨by kernel_rfl, fun w _ => by go_simp⟩) hS6 ?_
            refine takeH 26 (.pointer (some ⟨gr, off + k * 9 + 1, none⟩)) (some 155) rfl rfl (by kernel_rfl) (by kernel_rfl) (by kernel_rfl) (fun _ _ _ h => h) (.inl ⟨by kernel_rfl, fun w _ => by go_simp⟩) hS6 ?_
            refine takeH 27 (.agg #[.int .u8 ra.lab.1, .int .u16 ra.lab.2]) (some 156) rfl rfl (by kernel_rfl) (by kernel_rfl) (by kernel_rfl) (fun _ _ _ h => h) (.inl ⟨by kernel_rfl, fun w hw => by have e1 := (World.cell?_of_block (a := ⟨gr, off + k * 9 + 1, none⟩) (hw.block gr hgr)).trans p1; have e2 := (World.cell?_of_block (a := ⟨gr, off + k * 9 + 2, none⟩) (hw.block gr hgr)).trans p2; go_simp⟩) hS6 ?_
            refine takeH 28 (.slice (some ⟨gr, off, none⟩) rs.length cap) (some 157) rfl rfl (by kernel_rfl) (by kernel_rfl) (by kernel_rfl) (fun _ _ _ h => h) (.inl ⟨by kernel_rfl, fun w hw => by have hc := (fun w hw => rowcell (HSR.out.keep hw).cg) w hw; go_simp⟩) hS6 ?_
            refine takeH 29 (.int .i64 (l : Nat)) (some 158) rfl rfl (by kernel_rfl) (by kernel_rfl) (by kernel_rfl) (fun _ _ _ h => h) (.inl ⟨by kernel_rfl, fun w hw => by have hc := (fun w hw => rowcell (HSR.out.keep hw).cb) w hw; go_simp⟩) hS6 ?_
            refine takeH 30 (.pointer (some ⟨gr, off + l * 9, none⟩)) (some 159) rfl rfl (by kernel_rfl) (by kernel_rfl) (by kernel_rfl) (fun _ _ _ h => h) (.inl ⟨by kernel_rfl, fun w _ => by go_simp⟩) hS6 ?_
            refine takeH 31 (.pointer (some ⟨gr, off + l * 9 + 1, none⟩)) (some 160) rfl rfl (by kernel_rfl) (by kernel_rfl) (by kernel_rfl) (fun _ _ _ h => h) (.inl ⟨by kernel_rfl, fun w _ => by go_simp⟩) hS6 ?_
            refine takeH 32 (.agg #[.int .u8 rb.lab.1, .int .u16 rb.lab.2]) (some 161) rfl rfl (by kernel_rfl) (by kernel_rfl) (by kernel_rfl) (fun _ _ _ h => h) (.inl ⟨by kernel_rfl, fun w hw => by have e1 := (World.cell?_of_block (a := ⟨gr, off + l * 9 + 1, none⟩) (hw.block gr hgr)).trans q1; have e2 := (World.cell?_of_block (a := ⟨gr, off + l * 9 + 2, none⟩) (hw.block gr hgr)).trans q2; go_simp⟩) hS6 ?_
            refine callH 33 rfl (by kernel_rfl) (by kernel_rfl) (some 162) rfl 23 #[.agg #[.int .u8 ra.lab.1, .int .u16 ra.lab.2], .agg #[.int .u8 rb.lab.1, .int .u16 rb.lab.2]] ?hrun ((refLeq_any ra.lab rb.lab oi oj _).mono ?_)
            case hrun => go_simp
            rintro e y7 ⟨he, hb7⟩
            have hS7 := hS6.trans (hb7.mono hS6.size)
            refine ⟨_, he, hS7, ?_⟩
            refine takeH 34 (.bool (leqL ra.lab rb.lab)) (some 163) rfl rfl (by kernel_rfl) (by kernel_rfl) (by kernel_rfl) (fun _ _ _ h => h) (.inl ⟨by kernel_rfl, fun w _ => by go_simp⟩) hS7 ?_
            refine takeH 35 (.bool true) (some 164) rfl rfl (by kernel_rfl) (by kernel_rfl) (by kernel_rfl) (fun _ _ _ h => h) (.inl ⟨by kernel_rfl, fun w _ => by go_simp⟩) hS7 ?_
            refine takeH 36 (.bool true) (some 165) rfl rfl (by kernel_rfl) (by kernel_rfl) (by kernel_rfl) (fun _ _ _ h => h) (.inl ⟨by kernel_rfl, fun w _ => by go_simp⟩) hS7 ?_
            refine takeH 37 (.bool true) (some 10) rfl rfl (by kernel_rfl) (by kernel_rfl) (by kernel_rfl) (fun _ _ _ h => h) (.inl ⟨by kernel_rfl, fun w _ => by go_simp⟩) hS7 ?_
            refine wpAnyH_done (by kernel_rfl) ?_ _
            go_simp
            go_wp2_with fail
            go_ret
            exact ⟨rfl, (HSR.out.keep hS7).below⟩
end Go.Proofs.Ytlclainjefchlaa
