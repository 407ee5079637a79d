/- Memory of a process: Grow, so many pages more. -/
import Derived.Test.YtapcbfeifeobhaaSpcA
import Derived.Test.YtapcbfeifeobhaaCal
set_option linter.unusedVariables false
set_option linter.unusedSimpArgs false
namespace Go.Proofs.Ytapcbfeifeobhaa
open Go.RowKit

theorem setN_twice (us : Nat → Nat) (l m n : Nat) : setN (setN us l m) l n = setN us l n := by
  funext j; unfold setN; split <;> rfl
theorem setN_zero (us : Nat → Nat) (l : Nat) : setN us l (us l + 0) = us := by
  funext j; unfold setN; split <;> simp_all
def spS (g gm gs : Nat) (v : Value) : Nat → Prop := fun k => k = g ∨ k = gm ∨ k = gs ∨ v.ownBlock = some k
section
variable {w w' w0 : World} {base gs g gm lab : Nat} {ps : List (Nat × Nat)} {v : Value} {a : Option Addr} {us : Nat → Nat} {F : Nat × Nat → Option (Nat → Nat)} {rs : List RegL}
set_option maxRecDepth 100000 in
set_option maxHeartbeats 8000000 in
theorem spaceGrow_up (hp : ConfP w0 a rs) (hb : Below w0.heap.size w0 w) (ht : FP w g gm a us F) (hs : SpV w base gs g lab ps v) (hc : Cont us F) (g0 : w0.heap.size ≤ g) (g1 : w0.heap.size ≤ gm) (hbase : w0.heap.size ≤ base) (hbw : base ≤ w.heap.size)
    (hl : lab < rs.length) (h64 : rs.length ≤ 64) (m : Nat) (h32 : ps.length + m ≤ 32) (hfr : rs[lab].fr < 65536) (hroom : us lab + m ≤ rs[lab].fr) :
    Calls Try.prog 33 #[.pointer (some ⟨gs, 0, none⟩), .int .i64 m] w fun e w' => e = .returned (.int .i64 0) ∧ ∃ v', FP w' g gm a (setN us lab (us lab + m)) (moreF F lab (us lab) m) ∧ SpV w' base gs g lab (ps ++ morePs lab (us lab) m) v' ∧
      (∀ x, v'.ownBlock = some x → v.ownBlock = some x ∨ w.heap.size ≤ x) ∧ Chg (spS g gm gs v) w w' := by
  obtain ⟨A, c, hv⟩ := own_form hs.ov
  have c0 := hs.c0
  have c1 := hs.c1
  have c2 := hs.c2
  rw [hv] at c2
  obtain ⟨n, hn⟩ : ∃ n, n = ps.length := ⟨_, rfl⟩
  rw [← hn] at c2 h32
  have HN := Lib.hid hn
  have HV := Lib.hid hv
  have HP := Lib.hid hp
  have HB := Lib.hid hb
  have HT := Lib.hid ht
  have HS := Lib.hid hs
  have HC := Lib.hid hc
  have HG := Lib.hid (And.intro g0 g1)
  have HBA := Lib.hid (And.intro hbase hbw)
  obtain ⟨fr, hf⟩ : ∃ fr, fr = rs[lab].fr := ⟨_, rfl⟩
  rw [← hf] at hfr hroom
  have HF := Lib.hid hf
  obtain ⟨u0, hu0⟩ : ∃ u, u = us lab := ⟨_, rfl⟩
  rw [← hu0] at hroom
  have HU := Lib.hid hu0
  have HL := Lib.hid hl
  have H64 := Lib.hid h64
  have cR : ∀ d os, Calls Try.prog 50 #[.pointer (some ⟨g, 0, none⟩), .int .i64 lab] (Go.Sort.grow (redrawn w d) os) fun e w'' => e = .returned (.int .i64 ((fr : Int) - u0)) ∧ ∃ p : Regrown, w'' = Go.Sort.grow (redrawn w p.d) p.os := fun d os => by
    have := frameRoom_in HP.out (HB.out.trans ((below_regrown w d os).mono HB.out.size)) (HT.out.keep (below_regrown w d os)) lab hl h64 (by rw [← HU.out]; omega) (by rw [← HF.out]; omega)
    rw [← HF.out, ← HU.out] at this
    exact Calls.regrown_of this
  have CR := Lib.hid cR
  have q0 := fun d os => cell_regrown c0 d os
  have q1 := fun d os => cell_regrown c1 d os
  have f0 : IntKind.i64.wrap (32 - (n : Int)) = 32 - (n : Int) := by rw [IntKind.wrap_i64]; omega
  have f1 : ¬ (32 - (n : Int) < (m : Int)) := by omega
  have f2 : IntKind.i64.wrap (-(n : Int)) = -(n : Int) := by rw [IntKind.wrap_i64]; omega
  have f3 : ¬ ((m : Int) < -(n : Int)) := by omega
  have f4 : ¬ ((fr : Int) - u0 < (m : Int)) := by omega
  have f5 : ¬ ((m : Int) < 0) := by omega
  clear hp hb ht hs hc g0 g1 hbase hbw h64 hn hv cR hf hu0
  go_enter Try.func33, Try.ntmps33
  go_upto_region 7 with fail
  refine wp_region_quiet_below (by kernel_rfl) (by kernel_rfl) ?_
  repeat (go_big_quiet_step (first
    | (go_at_call 50; with_reducible exact CR.out _ _)))
  refine wpQuiet_nil ?_
  intro w7 hw7
  have hb7 : Below w.heap.size w w7 := by obtain ⟨p, rfl⟩ := hw7; exact below_regrown w p.d p.os
  have HB7 := Lib.hid (HB.out.trans (hb7.mono HB.out.size))
  have HT7 := Lib.hid (HT.out.keep hb7)
  have HS7 := Lib.hid (HS.out.keep hb7)
  have HC7 := Lib.hid (Chg.of_below (spS g gm gs v) hb7)
  clear hw7 hb7 q0 q1 c0 c1 c2 f0 f1 f2 f3 f4 CR
  go_wp2_with fail
  go_loopw [1] (fun r wx => r = .int .i64 m ∧ wx = w7) (fun _ _ => 0)
  case atStart => exact ⟨rfl, rfl⟩
  case round =>
    obtain ⟨rfl, rfl⟩ := hrel
    go_wp2_with fail
    go_loopw [1] (fun r wx => ∃ (j : Nat) (vr : Value), j ≤ m ∧ r = .int .i64 ((m : Int) - j) ∧ FP wx g gm a (setN us lab (us lab + j)) (moreF F lab (us lab) j) ∧ SpV wx base gs g lab (ps ++ morePs lab (us lab) j) vr ∧
      (∀ x, vr.ownBlock = some x → v.ownBlock = some x ∨ w.heap.size ≤ x) ∧ Chg (spS g gm gs v) w wx) (fun r _ => (intOf r).toNat)
    case atStart => exact ⟨0, v, by omega, by go_num, by rw [setN_zero]; exact HT7.out, by have := HS7.out; simpa [morePs] using this, fun x hx => .inl hx, HC7.out⟩
    case round =>
      obtain ⟨j, vr, hj, rfl, htr, hsr, hlo, hch⟩ := hrel
      have HTR := Lib.hid htr
      have HSR := Lib.hid hsr
      have HLO := Lib.hid hlo
      have HCH := Lib.hid hch
      have HBR := Lib.hid (Chg.go HB.out hch (fun k hk => by
        rcases hk with rfl | rfl | rfl | hk
        · exact HG.out.1
        · exact HG.out.2
        · have := HS.out.bs; have := HBA.out; omega
        · have := (own_blk HS.out.ov hk).1; have := HBA.out; omega) HB.out.size)
      clear htr hsr hlo hch
      by_cases hjm : j < m
      · have f1 : (0 : Int) < (m : Int) - j := by omega
        have c0 := HSR.out.c0
        have c1 := HSR.out.c1
        obtain ⟨y, hy⟩ : ∃ y, y = us lab + j := ⟨_, rfl⟩
        have hyb : y < 65535 := by rw [hy]; have := HU.out; omega
        have cT : ∀ w1, Below wr.heap.size wr w1 → Calls Try.prog 52 #[.pointer (some ⟨g, 0, none⟩), .int .i64 lab] w1 fun e w' => e = .returned (.tuple #[.agg #[.int .u8 lab, .int .u16 y], .int .i64 0]) ∧ FP w' g gm a (setN us lab (us lab + (j + 1))) (moreF F lab (us lab) (j + 1)) ∧ Duo w1 w' g gm := fun w1 h1 => by
          have hct : Cont (setN us lab (us lab + j)) (moreF F lab (us lab) j) := HC.out.more lab j
          have := frameTake_ok HP.out (HBR.out.trans (h1.mono HBR.out.size)) (HTR.out.keep h1) HG.out.1 HG.out.2 lab y hl H64.out (by rw [setN_same, ← HF.out, ← HU.out]; omega) (by rw [setN_same, ← hy]; omega) (by omega)
            ((hct lab y).2 (by rw [setN_same, hy]; exact Nat.le_refl _)) (fun q hq e => by have := (hct lab q).1 e; rw [setN_same] at this; omega)
          rw [setN_same, setN_twice, hy] at this
          rw [hy]
          exact this
        have CT := Lib.hid cT
        have HY := Lib.hid hy
        have HNG := Lib.hid (show g < wr.heap.size ∧ gm < wr.heap.size from ⟨HTR.out.row.lt, HTR.out.mp.lt⟩)
        have h16 : ∀ w', Chg (fun k => k = g ∨ k = gm) wr w' → w'.cell? ⟨gs, 0, none⟩ = some (.pointer (some ⟨g, 0, none⟩)) ∧ w'.cell? ⟨gs, 1, none⟩ = some (.int .i64 lab) := fun w' h => by
          have h2 := HSR.out.chg h (by have := HSR.out.ne HTR.out; omega) (fun x hx => by have := HSR.out.own_ne HTR.out hx; omega)
          exact ⟨h2.c0, h2.c1⟩
        have H16 := Lib.hid h16
        clear cT hy h16
        go_upto_region 16 with fail
        go_cut [6, 7] (fun s6 s7 wx => ∃ M, s6 = .pointer (some ⟨M, 0, none⟩) ∧ s7 = .int .i64 0 ∧ wr.heap.size ≤ M ∧ wx.heap[M]? = some (.cells #[.int .u8 lab, .int .u16 y] 110 (0, 0)) ∧ FP wx g gm a (setN us lab (us lab + (j + 1))) (moreF F lab (us lab) (j + 1)) ∧ Chg (fun k => k = g ∨ k = gm) wr wx)
        case first =>
          refine wp_region_held (S := Chg (fun k => k = g ∨ k = gm) wr) (by kernel_rfl) ?_
          change wpAnyH _ _ _ _ _ _ _ _ (World.drew _)
          have hS : Chg (fun k => k = g ∨ k = gm) wr (World.drew wr) := Chg.of_below _ (drewb wr)
          refine takeH 0 (.pointer (some ⟨gs, 0, none⟩)) (some 77) rfl rfl (by kernel_rfl) (by kernel_rfl) (by kernel_rfl) (fun _ _ _ h => h) (.inl ⟨by kernel_rfl, fun w _ => by go_simp⟩) hS ?_
          refine takeH 1 (.pointer (some ⟨gs, 0, none⟩)) (some 78) rfl rfl (by kernel_rfl) (by kernel_rfl) (by kernel_rfl) (fun _ _ _ h => h) (.inl ⟨by kernel_rfl, fun w _ => by go_simp⟩) hS ?_
          refine takeH 2 (.pointer (some ⟨gs, 0, none⟩)) (some 79) rfl rfl (by kernel_rfl) (by kernel_rfl) (by kernel_rfl) (fun _ _ _ h => h) (.inl ⟨by kernel_rfl, fun w _ => by go_simp⟩) hS ?_
          refine takeH 3 (.pointer (some ⟨g, 0, none⟩)) (some 80) rfl rfl (by kernel_rfl) (by kernel_rfl) (by kernel_rfl) (fun _ _ _ h => h) (.inl ⟨by kernel_rfl, fun w hw => by have hc := (fun w hw => (H16.out w hw).1) w hw; go_simp⟩) hS ?_
          refine takeH 4 (.pointer (some ⟨gs, 0, none⟩)) (some 81) rfl rfl (by kernel_rfl) (by kernel_rfl) (by kernel_rfl) (fun _ _ _ h => h) (.inl ⟨by kernel_rfl, fun w _ => by go_simp⟩) hS ?_
          refine takeH 5 (.pointer (some ⟨gs, 0, none⟩)) (some 82) rfl rfl (by kernel_rfl) (by kernel_rfl) (by kernel_rfl) (fun _ _ _ h => h) (.inl ⟨by kernel_rfl, fun w _ => by go_simp⟩) hS ?_
          refine takeH 6 (.pointer (some ⟨gs, 1, none⟩)) (some 83) rfl rfl (by kernel_rfl) (by kernel_rfl) (by kernel_rfl) (fun _ _ _ h => h) (.inl ⟨by kernel_rfl, fun w _ => by go_simp⟩) hS ?_
          refine takeH 7 (.int .i64 lab) (some 84) rfl rfl (by kernel_rfl) (by kernel_rfl) (by kernel_rfl) (fun _ _ _ h => h) (.inl ⟨by kernel_rfl, fun w hw => by have hc := (fun w hw => (H16.out w hw).2) w hw; go_simp⟩) hS ?_
          have hSB : Chg (fun k => k = g ∨ k = gm) wr ((World.drew wr).alloc (.cells #[.int .u8 0, .int .u16 0] 110)) := hS.trans (Chg.of_below (fun k => k = g ∨ k = gm) (bnew _ _)) (fun _ _ h => h)
          refine callAlloc 8 12 rfl rfl rfl rfl (by kernel_rfl) (by kernel_rfl) 85 6 rfl rfl 52 #[.pointer (some ⟨g, 0, none⟩), .int .i64 lab] 110 rfl (.agg #[.int .u8 0, .int .u16 0]) (by kernel_rfl) (by go_simp) (fun _ w' => by go_simp) ((CT.out _ (drewb wr)).mono ?_) hSB (fun M hM0 => (CT.out _ (bnewAfter (drewb wr) _)).mono ?_) (by decide) (by decide)
          · rintro e wT ⟨he, hT, hD⟩
            have hS1 : Chg (fun k => k = g ∨ k = gm) wr wT := hS.trans (Chg.of_duo hD (.inl rfl) (.inr rfl)) (fun k _ h => h)
            refine ⟨_, he, hS1, ?_⟩
            clear he
            refine takeH 9 (.tuple #[.agg #[.int .u8 lab, .int .u16 y], .int .i64 0]) (some 76) rfl rfl (by kernel_rfl) (by kernel_rfl) (by kernel_rfl) (fun _ _ _ h => h) (.inl ⟨by kernel_rfl, fun w _ => by go_simp⟩) hS1 ?_
            refine takeH 10 (.agg #[.int .u8 lab, .int .u16 y]) (some 86) rfl rfl (by kernel_rfl) (by kernel_rfl) (by kernel_rfl) (fun _ _ _ h => h) (.inl ⟨by kernel_rfl, fun w _ => by go_simp⟩) hS1 ?_
            refine takeH 11 (.int .i64 0) (some 87) rfl rfl (by kernel_rfl) (by kernel_rfl) (by kernel_rfl) (fun _ _ _ h => h) (.inl ⟨by kernel_rfl, fun w _ => by go_simp⟩) hS1 ?_
            refine runH 12 _ (some 6) rfl (by kernel_rfl) (by kernel_rfl) rfl (exec_alloc 110 rfl (.agg #[.int .u8 0, .int .u16 0]) (by kernel_rfl)) (hS1.trans (Chg.of_below (fun k => k = g ∨ k = gm) (bnew _ _)) (fun _ _ h => h)) ?_
            have hm := heap_alloc_last wT (.cells #[.int .u8 0, .int .u16 0] 110)
            have hS2 := hS1.trans (Chg.of_below (fun k => k = g ∨ k = gm) (bnew wT (.cells #[.int .u8 0, .int .u16 0] 110))) (fun _ _ h => h)
            have hT2 := hT.keep (bnew wT (.cells #[.int .u8 0, .int .u16 0] 110))
            have hM : wr.heap.size ≤ wT.heap.size := hS1.size
            refine storeWholeH 13 rfl (by kernel_rfl) (by kernel_rfl) rfl 110 _ _ rfl #[.int .u8 lab, .int .u16 y] #[.int .u8 0, .int .u16 0] 110 (by go_simp; try rfl) (by go_simp) (by kernel_rfl) hm rfl (List.all_eq_true.1 (by rfl)) (fun w3 h3 o3 => ?_)
            have hS3 : Chg (fun k => k = g ∨ k = gm) wr w3 := hS2.trans (Chg.of_one (S := fun k => k = wT.heap.size) o3 rfl) (fun k hk h => by omega)
            refine ⟨hS3, ?_⟩
            refine takeH 14 (.int .i64 0) (some 7) rfl rfl (by kernel_rfl) (by kernel_rfl) (by kernel_rfl) (fun _ _ _ h => h) (.inl ⟨by kernel_rfl, fun w _ => by go_simp⟩) hS3 ?_
            refine wpAnyH_done (by kernel_rfl) ?_ _
            go_simp
            go_wp2_with fail
            go_meet
            exact ⟨_, rfl, rfl, hM, h3, hT2.one o3 (by have := HNG.out.1; omega) (by have := HNG.out.2; omega), hS3⟩
          · rintro e wT ⟨he, hT, hD⟩
            have hS1 : Chg (fun k => k = g ∨ k = gm) wr wT := hSB.trans (Chg.of_duo hD (.inl rfl) (.inr rfl)) (fun k _ h => h)
            refine ⟨_, he, hS1, fun fl hfl => ?_⟩
            obtain rfl : fl = 5 := by simpa using hfl
            clear hfl
            have HM1 := Lib.hid (show M = wr.heap.size from hM0)
            clear hM0
            clear he
            refine takeH 9 (.tuple #[.agg #[.int .u8 lab, .int .u16 y], .int .i64 0]) (some 76) rfl rfl (by kernel_rfl) (by kernel_rfl) (by kernel_rfl) (fun _ _ _ h => h) (.inl ⟨by kernel_rfl, fun w _ => by go_simp⟩) hS1 ?_
            refine takeH 10 (.agg #[.int .u8 lab, .int .u16 y]) (some 86) rfl rfl (by kernel_rfl) (by kernel_rfl) (by kernel_rfl) (fun _ _ _ h => h) (.inl ⟨by kernel_rfl, fun w _ => by go_simp⟩) hS1 ?_
            refine takeH 11 (.int .i64 0) (some 87) rfl rfl (by kernel_rfl) (by kernel_rfl) (by kernel_rfl) (fun _ _ _ h => h) (.inl ⟨by kernel_rfl, fun w _ => by go_simp⟩) hS1 ?_
            have hm : wT.heap[M]? = some (.cells #[.int .u8 0, .int .u16 0] 110 (0, 0)) := by
              rw [HM1.out]
              exact hD.blk (heap_alloc_last (World.drew wr) (.cells #[.int .u8 0, .int .u16 0] 110)) (Ne.symm (Nat.ne_of_lt HNG.out.1)) (Ne.symm (Nat.ne_of_lt HNG.out.2))
            have hS2 := hS1
            have hT2 := hT
            have hM : wr.heap.size ≤ M := Nat.le_of_eq HM1.out.symm
            refine storeWholeH 13 rfl (by kernel_rfl) (by kernel_rfl) rfl 110 _ _ rfl #[.int .u8 lab, .int .u16 y] #[.int .u8 0, .int .u16 0] 110 (by go_simp; try rfl) (by go_simp) (by kernel_rfl) hm rfl (List.all_eq_true.1 (by rfl)) (fun w3 h3 o3 => ?_)
            have hS3 : Chg (fun k => k = g ∨ k = gm) wr w3 := hS2.trans (Chg.of_one (S := fun k => k = M) o3 rfl) (fun k hk h => by omega)
            refine ⟨hS3, ?_⟩
            refine takeH 14 (.int .i64 0) (some 7) rfl rfl (by kernel_rfl) (by kernel_rfl) (by kernel_rfl) (fun _ _ _ h => h) (.inl ⟨by kernel_rfl, fun w _ => by go_simp⟩) hS3 ?_
            refine wpAnyH_done (by kernel_rfl) ?_ _
            go_simp
            go_wp2_with fail
            go_meet
            exact ⟨_, rfl, rfl, hM, h3, hT2.one o3 (by have := HNG.out.1; omega) (by have := HNG.out.2; omega), hS3⟩
        case rest =>
          obtain ⟨M, rfl, rfl, hM, hmb, hTq, hcq⟩ := hcut
          have hgq := row_arr (hcq.blk (row_arr HSR.out.row) (by have := HSR.out.ne HTR.out; omega) |> rowIs_of_arr)
          have hsq := HSR.out.chg hcq (by have := HSR.out.ne HTR.out; omega) (fun x hx => by have := HSR.out.own_ne HTR.out hx; omega)
          have HSQ := Lib.hid hsq
          have HTQ := Lib.hid hTq
          have HCQ := Lib.hid hcq
          have HMB := Lib.hid hmb
          have hg3 : wc.heap[gs]? = some (.cells #[.pointer (some ⟨g, 0, none⟩), .int .i64 lab, vr] 86 (0, 0)) := row_arr hsq.row
          have HG3 := Lib.hid hg3
          have HNM := Lib.hid (show M ≠ gs ∧ ∀ x, vr.ownBlock = some x → M ≠ x from ⟨fun e => by have := HSR.out.row.lt; omega, fun x hx e => by
            obtain ⟨_, cur, hb⟩ := own_blk HSR.out.ov hx
            have := rowlt hb
            omega⟩)
          have HMR := Lib.hid hM
          clear hgq hsq hTq hcq hmb hg3 hM c0 c1
          go_at_K
          go_step
          go_upto_region 19 with fail
          have hx7 : (World.drew wc).heap[M]? = some (.cells #[.int .u8 lab, .int .u16 y] 110 (0, 0)) := HMB.out
          have hg7 : (World.drew wc).heap[gs]? = some (.cells #[.pointer (some ⟨g, 0, none⟩), .int .i64 lab, vr] 86 (0, 0)) := HG3.out
          have hS0 : ∀ l, Stage (fun w' : World => w'.heap[M]? = some (.cells #[.int .u8 lab, .int .u16 y] 110 (0, 0))) [(10, (fun w' : World => w'.heap[gs]? = some (.cells #[.pointer (some ⟨g, 0, none⟩), .int .i64 lab, vr] 86 (0, 0))))] l (World.drew wc) := fun l => Stage.one hx7 (fun _ => hg7)
          refine wp_region_gen (S := Stage (fun w' : World => w'.heap[M]? = some (.cells #[.int .u8 lab, .int .u16 y] 110 (0, 0))) [(10, (fun w' : World => w'.heap[gs]? = some (.cells #[.pointer (some ⟨g, 0, none⟩), .int .i64 lab, vr] 86 (0, 0))))]) (by kernel_rfl) ?_
          change wpAnyG _ _ _ _ _ _ _ _ (World.drew _)
          refine takeG 0 (.pointer (some ⟨gs, 0, none⟩)) (some 91) rfl rfl (by kernel_rfl) (by kernel_rfl) (by kernel_rfl) (by kernel_rfl) (fun _ _ _ h => h) (.inl ⟨by kernel_rfl, fun w _ => by go_simp⟩) (hS0 _) ?_
          refine takeG 1 (.pointer (some ⟨gs, 0, none⟩)) (some 92) rfl rfl (by kernel_rfl) (by kernel_rfl) (by kernel_rfl) (by kernel_rfl) (fun _ _ _ h => h) (.inl ⟨by kernel_rfl, fun w _ => by go_simp⟩) (hS0 _) ?_
          refine takeG 2 (.pointer (some ⟨gs, 0, none⟩)) (some 93) rfl rfl (by kernel_rfl) (by kernel_rfl) (by kernel_rfl) (by kernel_rfl) (fun _ _ _ h => h) (.inl ⟨by kernel_rfl, fun w _ => by go_simp⟩) (hS0 _) ?_
          refine takeG 3 (.pointer (some ⟨gs, 2, none⟩)) (some 94) rfl rfl (by kernel_rfl) (by kernel_rfl) (by kernel_rfl) (by kernel_rfl) (fun _ _ _ h => h) (.inl ⟨by kernel_rfl, fun w _ => by go_simp⟩) (hS0 _) ?_
          refine takeUntil 4 10 List.mem_cons_self (by kernel_rfl) (by kernel_rfl) (vr) (some 95) rfl rfl (by kernel_rfl) (by kernel_rfl) (by kernel_rfl) (by kernel_rfl) (fun _ _ _ h => h) (.inl ⟨by kernel_rfl, fun w hw => by have hc := rowcell (And.right hw); go_simp⟩) (hS0 _) ?_
          refine takeG 5 (.agg #[.int .u8 lab, .int .u16 y]) (some 96) rfl rfl (by kernel_rfl) (by kernel_rfl) (by kernel_rfl) (by kernel_rfl) (fun _ _ _ h => h) (.inl ⟨by kernel_rfl, fun w hw => by have hc := rowcell hw; go_simp⟩) (hS0 _) ?_
          have hS8 : ∀ l, Stage (fun w' : World => w'.heap[M]? = some (.cells #[.int .u8 lab, .int .u16 y] 110 (0, 0))) [(10, (fun w' : World => w'.heap[gs]? = some (.cells #[.pointer (some ⟨g, 0, none⟩), .int .i64 lab, vr] 86 (0, 0))))] l ((World.drew wc).alloc (.cells #[.int .u8 lab, .int .u16 y] 110)) := fun l => Stage.one (bkeep (bnew _ _) hx7) (fun _ => bkeep (bnew _ _) hg7)
          have hb8 : Below wc.heap.size wc ((World.drew wc).alloc (.cells #[.int .u8 lab, .int .u16 y] 110)) := bnewAfter (drewb wc) _
          have hl8 := heap_alloc_last (World.drew wc) (.cells #[.int .u8 lab, .int .u16 y] 110)
          have hs8 := HSQ.out.keep hb8
          refine runG 6 (.slice (some ⟨wc.heap.size, 0, none⟩) 1 1) (some 97) rfl (by kernel_rfl) (by kernel_rfl) rfl (w' := (World.drew wc).alloc (.cells #[.int .u8 lab, .int .u16 y] 110)) (by go_simp) (hS8 _) ?_
          have hlen : (ps ++ morePs lab (us lab) j).length = n + j := by rw [List.length_append, morePs_len, HN.out]
          refine appendG1 7 rfl (by kernel_rfl) (by kernel_rfl) (some 98) rfl (.tmp 95) (.tmp 97) 84 rfl base 110 (.agg #[.int .u8 0, .int .u16 0]) 2 4 Try.underlying84 (by kernel_rfl) rfl (by decide) vr _ (ps ++ morePs lab (us lab) j).length 1 (markCells (ps ++ morePs lab (us lab) j)) (#[.int .u8 lab, .int .u16 y]).toList (by go_simp) hs8.ov (by go_simp) (SR.lit hl8 rfl) (List.all_eq_true.1 (by rfl)) (by rw [hlen]; unfold maxLen; omega) (by rw [hlen]; omega) (by have := HBA.out.2; have := HCH.out.size; have := HCQ.out.size; have := hb8.size; omega) (fun v2 w9 hown hgr9 hloc => ?_)
          have o9 := one_of_grown hgr9
          have hx9 := o9.blk (bkeep (bnew (World.drew wc) (.cells #[.int .u8 lab, .int .u16 y] 110)) hx7) (fun e => HNM.out.2 _ e rfl)
          have hg9 := o9.blk (bkeep (bnew (World.drew wc) (.cells #[.int .u8 lab, .int .u16 y] 110)) hg7) (fun e => by have := HSQ.out.own_ne HTQ.out e; omega)
          have hv2c := own_oneCell hown
          have hS9 : ∀ l, Stage (fun w' : World => w'.heap[M]? = some (.cells #[.int .u8 lab, .int .u16 y] 110 (0, 0))) [(10, (fun w' : World => w'.heap[gs]? = some (.cells #[.pointer (some ⟨g, 0, none⟩), .int .i64 lab, vr] 86 (0, 0))))] l w9 := fun l => Stage.one hx9 (fun _ => hg9)
          refine ⟨hS9 _, ?_⟩
          refine takeG 8 (.pointer (some ⟨gs, 0, none⟩)) (some 99) rfl rfl (by kernel_rfl) (by kernel_rfl) (by kernel_rfl) (by kernel_rfl) (fun _ _ _ h => h) (.inl ⟨by kernel_rfl, fun w _ => by go_simp⟩) (hS9 _) ?_
          refine takeG 9 (.pointer (some ⟨gs, 2, none⟩)) (some 100) rfl rfl (by kernel_rfl) (by kernel_rfl) (by kernel_rfl) (by kernel_rfl) (fun _ _ _ h => h) (.inl ⟨by kernel_rfl, fun w _ => by go_simp⟩) (hS9 _) ?_
          refine storeCellG 10 rfl (by kernel_rfl) (by kernel_rfl) rfl 84 (.tmp 100) (.tmp 98) rfl 2 v2 #[.pointer (some ⟨g, 0, none⟩), .int .i64 lab, vr] 86 (g := gs) (by go_simp) (by go_simp) (by kernel_rfl) (by kernel_rfl) hv2c hg9 (by simp) (fun w10 hq10 o10 => ?_)
          have hg10 : w10.heap[gs]? = some (.cells #[.pointer (some ⟨g, 0, none⟩), .int .i64 lab, v2] 86 (0, 0)) := hq10
          have hx10 := o10.blk hx9 (fun e => HNM.out.1 (by cases e; rfl))
          refine ⟨Stage.late1 hx10 _ (by kernel_rfl), ?_⟩
          refine wpAnyG_done (by kernel_rfl) ?_ _
          go_simp
          have hown2 : w9.ownsRow base 110 2 v2 (ps ++ morePs lab (us lab) (j + 1)).length (markCells (ps ++ morePs lab (us lab) (j + 1))) := by
            rw [morePs_next, ← List.append_assoc, markCells_snoc, List.length_append, ← HY.out]
            exact hown
          have hvo : ∀ x, v2.ownBlock = some x → vr.ownBlock = some x ∨ wc.heap.size ≤ x := fun x hx => by
            rcases hloc with h | h
            · exact .inl (by rw [← h]; exact hx)
            · exact .inr (by rw [h] at hx; cases hx; simp)
          have hs10 : SpV w10 base gs g lab (ps ++ morePs lab (us lab) (j + 1)) v2 := ⟨rowIs_of_arr hg10, own_one hown2 o10 (fun k hk e => by
            cases e
            obtain ⟨_, cur, hb⟩ := own_blk hown2 hk
            rw [hg9] at hb
            simp at hb), HSQ.out.bs⟩
          have hc10 : Chg (fun k => k = gs ∨ vr.ownBlock = some k) wc w10 := (Chg.of_below _ hb8).trans ((Chg.of_oneO (S := fun k => k = gs ∨ vr.ownBlock = some k) o9 (fun x hx => .inr hx)).trans (Chg.of_one (S := fun k => k = gs ∨ vr.ownBlock = some k) o10 (.inl rfl)) (fun k _ h => h)) (fun k _ h => h)
          have HS10 := Lib.hid hs10
          have HVO := Lib.hid hvo
          have HC10 := Lib.hid hc10
          have hne := HSQ.out.ne HTQ.out
          have HT10 := Lib.hid (pt_chg HTQ.out hc10 (fun h => by
            rcases h with h | h
            · exact hne.1 h.symm
            · exact (HSQ.out.own_ne HTQ.out h).1 rfl) (fun h => by
            rcases h with h | h
            · exact hne.2 h.symm
            · exact (HSQ.out.own_ne HTQ.out h).2.1 rfl))
          clear hx7 hg7 hS0 hS8 hb8 hl8 hs8 hlen hown hgr9 hloc o9 hx9 hg9 hv2c hS9 hq10 o10 hg10 hx10 hown2 hvo hs10 hc10 hne
          have f7 : IntKind.i64.wrap ((m : Int) - j - 1) = (m : Int) - ((j + 1 : Nat) : Int) := by rw [IntKind.wrap_i64]; omega
          go_wp2_with fail
          go_roundw
          case rel =>
            refine ⟨j + 1, v2, by omega, by go_num, HT10.out, HS10.out, fun x hx => ?_, ?_⟩
            · rcases HVO.out x hx with h | h
              · exact HLO.out x h
              · exact .inr (by have := HCH.out.size; have := HCQ.out.size; omega)
            · refine (HCH.out.trans HCQ.out (fun k _ h => h.elim .inl (fun h => .inr (.inl h)))).trans HC10.out (fun k hk h => ?_)
              rcases h with h | h
              · exact .inr (.inr (.inl h))
              · rcases HLO.out k h with h2 | h2
                · exact .inr (.inr (.inr h2))
                · omega
          case measure => simp [intOf]; omega
      · obtain rfl : j = m := by omega
        have f1 : ¬ ((0 : Int) < (j : Int) - j) := by omega
        go_wp2_with fail
        go_ret
        exact ⟨rfl, HTR.out, vr, HSR.out, HLO.out, HCH.out⟩
end
end Go.Proofs.Ytapcbfeifeobhaa
