/- Bits: nil ones, places that can't be; BitsNone. -/
import Derived.Test.YtonfnlohbgbffaaBitF
set_option linter.unusedVariables false
set_option linter.unusedSimpArgs false
namespace Go.Proofs.Ytonfnlohbgbffaa
open Go.RowKit
open Go.Maps (Keyed)

section
variable {W w w' : World} {gd gb gl gt gm n lf first many g : Nat} {F : Int → Option (Nat → Nat)} {bad : Int} {D : Nat → Nat → Nat} {left : Int} {dead : Bool}
set_option maxRecDepth 100000 in
set_option maxHeartbeats 4000000 in
theorem bitsFree_range (h : BX w gd gb gl gt gm g n lf first many F bad D left dead) (hm : 0 < many) (hn : n ≤ first) (hF : F first = none) :
    Calls Try.prog 28 #[.pointer (some ⟨g, 0, none⟩)] w fun e w' => e = .returned (.tuple #[.int .i64 (-1), .int .i64 27]) ∧ Chg (dset gd gb) w w' := by
  have H := Lib.hid h
  have HF0 := Lib.hid hF
  have hm2 := h.h2
  have hf := h.h1
  clear h hF
  go_enter Try.func28, Try.ntmps28
  go_wp2_with fail
  go_loopw [4] (fun r4 wx => ∃ j : Nat, j = 0 ∧ r4 = .int .i64 j ∧ wx = w) (fun _ _ => 0)
  case atStart => exact ⟨0, rfl, rfl, rfl⟩
  case round =>
    obtain ⟨j, hj, rfl, rfl⟩ := hrel
    have HBX := H
    have c2 := HBX.out.c2
    obtain ⟨p, hp⟩ : ∃ p, p = first := ⟨_, rfl⟩
    have f1 : (j : Int) * 512 < many := by omega
    have f2 : IntKind.i64.wrap ((first : Int) + (j : Int)) = (p : Int) := by rw [hp, hj]; simp [IntKind.wrap, IntKind.bits, IntKind.signed]; omega
    have HPF := Lib.hid (show F (p : Int) = none by rw [hp]; exact HF0.out)
    have HPN := Lib.hid (show n ≤ p by omega)
    have hp65 : p ≤ 65536 := by omega
    clear hp hj
    go_upto_region 6 with fail
    go_cut [5, 6] (fun sp se wx => ∃ M, sp = .pointer (some ⟨M, 0, none⟩) ∧ se = .int .i64 27 ∧ wr.heap.size ≤ M ∧ wx.rowIs M 52 64 (pgC (fun _ => 0)) ∧ BX wx gd gb gl gt gm g n lf first many F bad D left dead ∧ Chg (dset gd gb) wr wx)
    case first =>
      have HBD := Lib.hid (HBX.out.keep (drewb wr))
      have HGS := Lib.hid (show ¬ dset gd gb g from fun e => by have := HBX.out.ne; rcases e with e | e; exact this.1 e; exact this.2.1 e)
      have hS : Chg (dset gd gb) wr (World.drew wr) := Chg.of_below _ (drewb wr)
      have HC := Lib.hid (show ∀ w', Chg (dset gd gb) wr w' → w'.cell? ⟨g, 0, none⟩ = some (.iface 42 (.pointer (some ⟨gt, 0, none⟩))) ∧ w'.cell? ⟨g, 1, none⟩ = some (.int .i64 first) from fun w' hc => by
        have h2 := hc.row HBX.out.bm HGS.out
        exact ⟨h2.cell (i := 0) (by omega), h2.cell (i := 1) (by omega)⟩)
      have HGET := Lib.hid (show ∀ w', Below wr.heap.size wr w' → Calls Try.prog 26 #[.pointer (some ⟨gt, 0, none⟩), .int .i64 p] w' fun e w2 => e = .returned (.tuple #[pageV (fun _ => 0), .int .i64 27]) ∧ TX w2 gd gb gl gt gm n lf F bad D left dead ∧ Chg (dset gd gb) w' w2 from fun w' hb => ((txnGet_no (HBX.out.keep hb).tx (p : Int) (.inr (by have := HPN.out; omega)) (by omega) HPF.out).mono (by rintro e w2 ⟨rfl, hb2⟩; exact ⟨rfl, (HBX.out.keep hb).tx.keep hb2, Chg.of_below _ hb2⟩)))
      refine wp_region_held (S := Chg (dset gd gb) wr) (by kernel_rfl) ?_
      change wpAnyH _ _ _ _ _ _ _ _ (World.drew _)
      refine takeH 0 (.pointer (some ⟨g, 0, none⟩)) (some 22) rfl rfl (by kernel_rfl) (by kernel_rfl) (by kernel_rfl) (fun _ _ _ h => h) (.inl ⟨by kernel_rfl, fun w _ => by go_simp⟩) hS ?_
      refine takeH 1 (.pointer (some ⟨g, 0, none⟩)) (some 23) rfl rfl (by kernel_rfl) (by kernel_rfl) (by kernel_rfl) (fun _ _ _ h => h) (.inl ⟨by kernel_rfl, fun w _ => by go_simp⟩) hS ?_
      refine takeH 2 (.pointer (some ⟨g, 0, none⟩)) (some 24) rfl rfl (by kernel_rfl) (by kernel_rfl) (by kernel_rfl) (fun _ _ _ h => h) (.inl ⟨by kernel_rfl, fun w _ => by go_simp⟩) hS ?_
      refine takeH 3 (.iface 42 (.pointer (some ⟨gt, 0, none⟩))) (some 25) rfl rfl (by kernel_rfl) (by kernel_rfl) (by kernel_rfl) (fun _ _ _ h => h) (.inl ⟨by kernel_rfl, fun w hw => by have hc := (HC.out w hw).1; go_simp⟩) hS ?_
      refine takeH 4 (.pointer (some ⟨g, 0, none⟩)) (some 26) rfl rfl (by kernel_rfl) (by kernel_rfl) (by kernel_rfl) (fun _ _ _ h => h) (.inl ⟨by kernel_rfl, fun w _ => by go_simp⟩) hS ?_
      refine takeH 5 (.pointer (some ⟨g, 0, none⟩)) (some 27) rfl rfl (by kernel_rfl) (by kernel_rfl) (by kernel_rfl) (fun _ _ _ h => h) (.inl ⟨by kernel_rfl, fun w _ => by go_simp⟩) hS ?_
      refine takeH 6 (.pointer (some ⟨g, 1, none⟩)) (some 28) rfl rfl (by kernel_rfl) (by kernel_rfl) (by kernel_rfl) (fun _ _ _ h => h) (.inl ⟨by kernel_rfl, fun w _ => by go_simp⟩) hS ?_
      refine takeH 7 (.int .i64 first) (some 29) rfl rfl (by kernel_rfl) (by kernel_rfl) (by kernel_rfl) (fun _ _ _ h => h) (.inl ⟨by kernel_rfl, fun w hw => by have hc := (HC.out w hw).2; go_simp⟩) hS ?_
      refine takeH 8 (.int .i64 j) (some 30) rfl rfl (by kernel_rfl) (by kernel_rfl) (by kernel_rfl) (fun _ _ _ h => h) (.inl ⟨by kernel_rfl, fun w _ => by go_simp⟩) hS ?_
      refine takeH 9 (.int .i64 p) (some 31) rfl rfl (by kernel_rfl) (by kernel_rfl) (by kernel_rfl) (fun _ _ _ h => h) (.inl ⟨by kernel_rfl, fun w _ => by go_simp⟩) hS ?_
      refine takeH 10 (.iface 42 (.pointer (some ⟨gt, 0, none⟩))) (some 32) rfl rfl (by kernel_rfl) (by kernel_rfl) (by kernel_rfl) (fun _ _ _ h => h) (.inl ⟨by kernel_rfl, fun w _ => by go_simp⟩) hS ?_
      refine takeH 11 (.iface 42 (.pointer (some ⟨gt, 0, none⟩))) (some 33) rfl rfl (by kernel_rfl) (by kernel_rfl) (by kernel_rfl) (fun _ _ _ h => h) (.inl ⟨by kernel_rfl, fun w _ => by go_simp⟩) hS ?_
      go_simp
      have hSB : Chg (dset gd gb) wr ((World.drew wr).alloc (.cells (Value.agg (rowArr 64 (pgC fun _ => 0))).cells 52)) := hS.next (bnew _ _)
      refine callAlloc 12 16 rfl rfl rfl rfl (by kernel_rfl) (by kernel_rfl) 34 5 rfl rfl 26 #[.pointer (some ⟨gt, 0, none⟩), .int .i64 p] 52 rfl (.agg (rowArr 64 (pgC fun _ => 0))) page_zero (by go_simp; rfl) (fun _ w' => by go_simp; rfl) ((HGET.out _ (drewb wr)).mono ?_) hSB (fun M hM0 => (HGET.out _ (bnewAfter (drewb wr) _)).mono ?_) (by decide) (by decide)
      · rintro e wT ⟨he, hT, hD⟩
        have hS1 : Chg (dset gd gb) wr wT := hS.trans hD (fun k _ h => h)
        refine ⟨_, he, hS1, ?_⟩
        clear he
        refine takeH 13 (.tuple #[pageV (fun _ => 0), .int .i64 27]) (some 21) rfl rfl (by kernel_rfl) (by kernel_rfl) (by kernel_rfl) (fun _ _ _ h => h) (.inl ⟨by kernel_rfl, fun w _ => by go_simp⟩) hS1 ?_
        refine takeH 14 (pageV (fun _ => 0)) (some 35) rfl rfl (by kernel_rfl) (by kernel_rfl) (by kernel_rfl) (fun _ _ _ h => h) (.inl ⟨by kernel_rfl, fun w _ => by go_simp⟩) hS1 ?_
        refine takeH 15 (.int .i64 27) (some 36) rfl rfl (by kernel_rfl) (by kernel_rfl) (by kernel_rfl) (fun _ _ _ h => h) (.inl ⟨by kernel_rfl, fun w _ => by go_simp⟩) hS1 ?_
        refine runH 16 _ (some 5) rfl (by kernel_rfl) (by kernel_rfl) rfl (exec_alloc 52 rfl (.agg (rowArr 64 (pgC fun _ => 0))) page_zero) (hS1.next (bnew _ _)) ?_
        have hm := rowIs_of_arr (heap_alloc_last wT (.cells (rowArr 64 (pgC fun _ => 0)) 52))
        have hS2 := hS1.next (bnew wT (.cells (rowArr 64 (pgC fun _ => 0)) 52))
        have hM : wr.heap.size ≤ wT.heap.size := hS1.size
        have hT2 := hT.keep (bnew wT (.cells (rowArr 64 (pgC fun _ => 0)) 52))
        refine storeRowH 17 rfl (by kernel_rfl) (by kernel_rfl) rfl 52 _ _ rfl wT.heap.size 64 _ (pgC (fun _ => 0)) (by go_simp; try rfl) (by go_simp; try rfl) hm (fun _ _ => rfl) block_size (fun w3 h3 o3 => ?_)
        have hS3 : Chg (dset gd gb) wr w3 := hS2.one o3 (.inr hM)
        refine ⟨hS3, ?_⟩
        refine takeH 18 (.int .i64 27) (some 6) rfl rfl (by kernel_rfl) (by kernel_rfl) (by kernel_rfl) (fun _ _ _ h => h) (.inl ⟨by kernel_rfl, fun w _ => by go_simp⟩) hS3 ?_
        refine wpAnyH_done (by kernel_rfl) ?_ _
        go_simp
        go_wp2_with fail
        go_meet
        exact ⟨_, rfl, rfl, hM, h3, ⟨hT2.newOne o3 hM HBX.out.tx.lt, hS3.row HBX.out.bm HGS.out, HBX.out.h1, HBX.out.h2⟩, hS3⟩
      · rintro e wT ⟨he, hT, hD⟩
        have hS1 : Chg (dset gd gb) wr wT := hSB.trans hD (fun k _ h => h)
        refine ⟨_, he, hS1, fun fl hfl => ?_⟩
        obtain rfl : fl = 5 := by simpa using hfl
        clear hfl he
        refine takeH 13 (.tuple #[pageV (fun _ => 0), .int .i64 27]) (some 21) rfl rfl (by kernel_rfl) (by kernel_rfl) (by kernel_rfl) (fun _ _ _ h => h) (.inl ⟨by kernel_rfl, fun w _ => by go_simp⟩) hS1 ?_
        refine takeH 14 (pageV (fun _ => 0)) (some 35) rfl rfl (by kernel_rfl) (by kernel_rfl) (by kernel_rfl) (fun _ _ _ h => h) (.inl ⟨by kernel_rfl, fun w _ => by go_simp⟩) hS1 ?_
        refine takeH 15 (.int .i64 27) (some 36) rfl rfl (by kernel_rfl) (by kernel_rfl) (by kernel_rfl) (fun _ _ _ h => h) (.inl ⟨by kernel_rfl, fun w _ => by go_simp⟩) hS1 ?_
        have HM1 := Lib.hid (show M = wr.heap.size from hM0)
        clear hM0
        have hm := hD.row (rowIs_of_arr (heap_alloc_last (World.drew wr) (.cells (rowArr 64 (pgC fun _ => 0)) 52))) (fun e => by have h1 := HBX.out.tx.lt; have h3 : (World.drew wr).heap.size = wr.heap.size := rfl; rcases e with e | e <;> omega)
        rw [show (World.drew wr).heap.size = M from HM1.out.symm] at hm
        have hS2 := hS1
        have hM : wr.heap.size ≤ M := Nat.le_of_eq HM1.out.symm
        have hT2 := hT
        refine storeRowH 17 rfl (by kernel_rfl) (by kernel_rfl) rfl 52 _ _ rfl M 64 _ (pgC (fun _ => 0)) (by go_simp; try rfl) (by go_simp; try rfl) hm (fun _ _ => rfl) block_size (fun w3 h3 o3 => ?_)
        have hS3 : Chg (dset gd gb) wr w3 := hS2.one o3 (.inr hM)
        refine ⟨hS3, ?_⟩
        refine takeH 18 (.int .i64 27) (some 6) rfl rfl (by kernel_rfl) (by kernel_rfl) (by kernel_rfl) (fun _ _ _ h => h) (.inl ⟨by kernel_rfl, fun w _ => by go_simp⟩) hS3 ?_
        refine wpAnyH_done (by kernel_rfl) ?_ _
        go_simp
        go_wp2_with fail
        go_meet
        exact ⟨_, rfl, rfl, hM, h3, ⟨hT2.newOne o3 hM HBX.out.tx.lt, hS3.row HBX.out.bm HGS.out, HBX.out.h1, HBX.out.h2⟩, hS3⟩
    case rest =>
      obtain ⟨M, rfl, rfl, hM, hrow, hbx2, hcg2⟩ := hcut
      clear hM hrow hbx2
      go_at_K
      go_step
      go_wp2_with fail
      go_ret2
      exact ⟨rfl, hcg2⟩
set_option maxRecDepth 20000 in
set_option maxHeartbeats 2000000 in
theorem bitsNil_in (w : World) (x : Int) (on : Bool) :
    (Calls Try.prog 30 #[.pointer none, .int .i64 x] w fun e w' => e = .returned (.tuple #[.bool false, .int .i64 1]) ∧ w' = w) ∧
    (Calls Try.prog 28 #[.pointer none] w fun e w' => e = .returned (.tuple #[.int .i64 (-1), .int .i64 1]) ∧ w' = w) ∧
    (Calls Try.prog 29 #[.pointer none] w fun e w' => e = .returned (.tuple #[.int .i64 0, .int .i64 1]) ∧ w' = w) ∧
    (Calls Try.prog 31 #[.pointer none] w fun e w' => e = .returned (.tuple #[.slice none 0 0, .int .i64 1]) ∧ w' = w) ∧
    (Calls Try.prog 25 #[.pointer none, .int .i64 x, .bool on] w fun e w' => e = .returned (.int .i64 1) ∧ w' = w) := by
  refine ⟨?_, ?_, ?_, ?_, ?_⟩
  · go_enter Try.func30, Try.ntmps30
    go_wp2_with fail
    go_ret2
    exact ⟨rfl, rfl⟩
  · go_enter Try.func28, Try.ntmps28
    go_wp2_with fail
    go_ret2
    exact ⟨rfl, rfl⟩
  · go_enter Try.func29, Try.ntmps29
    go_wp2_with fail
    go_ret2
    exact ⟨rfl, rfl⟩
  · go_enter Try.func31, Try.ntmps31
    go_wp2_with fail
    go_ret2
    exact ⟨rfl, rfl⟩
  · go_enter Try.func25, Try.ntmps25
    go_wp2_with fail
    go_ret
    exact ⟨rfl, rfl⟩
set_option maxRecDepth 20000 in
set_option maxHeartbeats 2000000 in
theorem bitsNew_nil (x y : Int) (w : World) : Calls Try.prog 24 #[.pointer none, .int .i64 x, .int .i64 y] w fun e w' => e = .returned (.tuple #[.pointer none, .int .i64 1]) ∧ w' = w := by
  go_enter Try.func24, Try.ntmps24
  go_wp2_with fail
  go_ret2
  exact ⟨rfl, rfl⟩
set_option maxRecDepth 20000 in
set_option maxHeartbeats 2000000 in
theorem bitsNew_range (gt : Nat) (x y : Int) (h : ¬ (0 ≤ x ∧ x ≤ 65536 ∧ 0 ≤ y ∧ y ≤ 65536)) (w : World) :
    Calls Try.prog 24 #[.pointer (some ⟨gt, 0, none⟩), .int .i64 x, .int .i64 y] w fun e w' => e = .returned (.tuple #[.pointer none, .int .i64 27]) ∧ w' = w := by
  have hcase : x < 0 ∨ (¬ x < 0 ∧ 65536 < x) ∨ (¬ x < 0 ∧ ¬ 65536 < x ∧ y < 0) ∨ (¬ x < 0 ∧ ¬ 65536 < x ∧ ¬ y < 0 ∧ 65536 < y) := by omega
  clear h
  rcases hcase with h0 | ⟨h0, h1⟩ | ⟨h0, h1, h2⟩ | ⟨h0, h1, h2, h3⟩
  all_goals
    go_enter Try.func24, Try.ntmps24
    go_wp2_with fail
    go_ret2
    exact ⟨rfl, rfl⟩
end
set_option maxRecDepth 100000 in
set_option maxHeartbeats 16000000 in
theorem bitsNone_walk (W : World) (v0 v1 v2 v3 : Value) (o0 : Arg Try.prog W 3 v0) (o1 : Arg Try.prog W 3 v1) (o2 : Arg Try.prog W 3 v2) (o3 : Arg Try.prog W 4 v3) :
    Calls Try.prog 7 #[v0, v1, v2, v3] W fun e w' => e = .returned (.bool true) ∧ Below W.heap.size W w' := by
  obtain ⟨x, rfl, hx⟩ := Arg.int Try.underlying3 o0
  obtain ⟨y, rfl, hy⟩ := Arg.int Try.underlying3 o1
  obtain ⟨i, rfl, hi⟩ := Arg.int Try.underlying3 o2
  obtain ⟨on, rfl⟩ := Arg.bool Try.underlying4 o3
  clear o0 o1 o2 o3 hi hx hy
  go_enter Try.func7, Try.ntmps7
  go_wp2_with fail
  refine (bitsAwake_in W).mono ?_
  rintro e w1 ⟨rfl, hb1⟩
  go_wp2_with fail
  refine (begun_in w1).mono ?_
  rintro e w2 ⟨gd, gb, gl, gt, gm, rfl, ht2⟩
  have HT2 := Lib.hid ht2
  have HB2 := Lib.hid (hb1.trans (ht2.bl.mono hb1.size))
  have HLO := Lib.hid (show W.heap.size ≤ gd ∧ W.heap.size ≤ gb from ⟨Nat.le_trans hb1.size ht2.lo.1, Nat.le_trans hb1.size ht2.lo.2.1⟩)
  clear hb1 ht2
  go_wp2_with fail
  refine (bitsNil_in w2 i on).1.mono ?_
  rintro e w3 ⟨rfl, rfl⟩
  go_wp2_with fail
  refine (bitsNil_in w3 i on).2.1.mono ?_
  rintro e w4 ⟨rfl, rfl⟩
  go_wp2_with fail
  refine (bitsNil_in w4 i on).2.2.1.mono ?_
  rintro e w5 ⟨rfl, rfl⟩
  go_wp2_with fail
  refine (bitsNil_in w5 i on).2.2.2.1.mono ?_
  rintro e w6 ⟨rfl, rfl⟩
  go_wp2_with fail
  by_cases hright : 0 ≤ x ∧ x ≤ 65536 ∧ 0 ≤ y ∧ y ≤ 65536
  · obtain ⟨h1, h2, h3, h4⟩ := hright
    obtain ⟨first, hfirst⟩ : ∃ f : Nat, x = f := ⟨x.toNat, by omega⟩
    obtain ⟨many, hmany⟩ : ∃ f : Nat, y = f := ⟨y.toNat, by omega⟩
    subst hfirst
    subst hmany
    refine (bitsNew_ok gt first many (by omega) (by omega) w6).mono ?_
    rintro e w7 ⟨g, rfl, hr7, hg7, hb7⟩
    have hbx : BX w7 gd gb gl gt gm g 40 0 first many (fun _ => none) 0 (freshD 0) (-1) false := ⟨HT2.out.tx.keep hb7, hr7, by omega, by omega⟩
    have HBX := Lib.hid hbx
    have HB7 := Lib.hid (HB2.out.trans (hb7.mono HB2.out.size))
    clear hr7 hg7 hb7 hbx
    have n1 : ¬ (first : Int) < 0 := by omega
    have n2 : ¬ (many : Int) < 0 := by omega
    have q1 : decide ((0 : Int) ≤ (first : Int)) = true := decide_eq_true (by omega)
    by_cases hq : 0 < many ∧ 39 < first
    · have g1 : (0 : Int) < many := by omega
      have g2 : (39 : Int) < first := by omega
      have hq1 := hq.1
      have hq2 := hq.2
      clear hq
      go_wp2_with (first
        | (go_at_call 24; refine (bitsNew_nil _ _ _).mono ?_; rintro e w8 ⟨rfl, rfl⟩)
        | (go_at_call 28; refine (bitsFree_range HBX.out hq1 (by omega) rfl).mono ?_; rintro e w9 ⟨rfl, hc9⟩; have HB9 := Lib.hid (Chg.go HB7.out hc9 (fun k hk => by rcases hk with rfl | rfl; exact HLO.out.1; exact HLO.out.2) HB7.out.size); clear hc9)
        | (go_at_call 25; refine (bitsNil_in _ i on).2.2.2.2.mono ?_; rintro e w10 ⟨rfl, rfl⟩))
      go_ret
      exact ⟨rfl, HB9.out⟩
    · by_cases hm0 : 0 < many
      · have g1 : (0 : Int) < many := by omega
        have g2 : ¬ (39 : Int) < first := by omega
        clear hq
        go_wp2_with (first
          | (go_at_call 24; refine (bitsNew_nil _ _ _).mono ?_; rintro e w8 ⟨rfl, rfl⟩)
          | (go_at_call 25; refine (bitsNil_in _ i on).2.2.2.2.mono ?_; rintro e w10 ⟨rfl, rfl⟩))
        go_ret
        exact ⟨rfl, HB7.out⟩
      · have g1 : ¬ (0 : Int) < many := by omega
        clear hq
        go_wp2_with (first
          | (go_at_call 24; refine (bitsNew_nil _ _ _).mono ?_; rintro e w8 ⟨rfl, rfl⟩)
          | (go_at_call 25; refine (bitsNil_in _ i on).2.2.2.2.mono ?_; rintro e w10 ⟨rfl, rfl⟩))
        go_ret
        exact ⟨rfl, HB7.out⟩
  · refine (bitsNew_range gt x y hright w6).mono ?_
    rintro e w7 ⟨rfl, rfl⟩
    have hcase : ¬ 0 ≤ x ∨ (0 ≤ x ∧ ¬ x ≤ 65536) ∨ (0 ≤ x ∧ x ≤ 65536 ∧ ¬ 0 ≤ y) ∨ (0 ≤ x ∧ x ≤ 65536 ∧ 0 ≤ y ∧ ¬ y ≤ 65536) := by omega
    clear hright
    rcases hcase with h0 | ⟨h0, h1⟩ | ⟨h0, h1, h2⟩ | ⟨h0, h1, h2, h3⟩
    all_goals
      go_wp2_with (first
        | (go_at_call 24; refine (bitsNew_nil _ _ _).mono ?_; rintro e w8 ⟨rfl, rfl⟩)
        | (go_at_call 25; refine (bitsNil_in _ i on).2.2.2.2.mono ?_; rintro e w10 ⟨rfl, rfl⟩))
      go_ret
      exact ⟨rfl, HB2.out⟩
end Go.Proofs.Ytonfnlohbgbffaa
