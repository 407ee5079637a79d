/- Bits: Count, List. -/
import Derived.Test.YtonfnlohbgbffaaBitC
set_option linter.unusedVariables false
set_option linter.unusedSimpArgs false
namespace Go.Proofs.Ytonfnlohbgbffaa
open Go.RowKit
open Go.Maps (Keyed)

/-- How many of the first n are set. -/
def cntB (B : Nat → Bool) (n : Nat) : Nat := ((List.range n).filter B).length
theorem cntB_le (B : Nat → Bool) (n : Nat) : cntB B n ≤ n := Nat.le_trans (List.length_filter_le _ _) (by simp)
theorem cntB_add (B : Nat → Bool) (n m : Nat) : cntB B (n + m) = cntB B n + ((List.range m).filter fun k => B (n + k)).length := by
  unfold cntB
  rw [List.range_add, List.filter_append, List.length_append, List.filter_map, List.length_map]
  rfl
theorem on8_mod (x m : Nat) (hx : x ≤ 255) (hm : m ≤ 8) : on8 (x % 2 ^ m) = ((List.range m).filter fun k => x.testBit k).length := by
  have key : ∀ n : Fin 256, ∀ m : Fin 9, on8 (n.val % 2 ^ m.val) = ((List.range m.val).filter fun k => n.val.testBit k).length := by decide +kernel
  exact key ⟨x, by omega⟩ ⟨m, by omega⟩
theorem cnt_byte (V : Nat → Nat → Nat) (first many j a : Nat) (ha : a < 64) (hx : V (first + j) a ≤ 255) :
    cntB (bitV V first) (min (512 * j + 8 * (a + 1)) many) = cntB (bitV V first) (min (512 * j + 8 * a) many) + on8 (V (first + j) a % 2 ^ (min 8 (many - (512 * j + 8 * a)))) := by
  rw [on8_mod _ _ hx (Nat.min_le_left _ _)]
  by_cases h : many ≤ 512 * j + 8 * a
  · rw [show min (512 * j + 8 * (a + 1)) many = many by omega, show min (512 * j + 8 * a) many = many by omega, show min 8 (many - (512 * j + 8 * a)) = 0 by omega]
    rfl
  · obtain ⟨m, hm⟩ : ∃ m, m = min 8 (many - (512 * j + 8 * a)) := ⟨_, rfl⟩
    rw [← hm, show min (512 * j + 8 * (a + 1)) many = (512 * j + 8 * a) + m by omega, show min (512 * j + 8 * a) many = 512 * j + 8 * a by omega, cntB_add]
    congr 1
    refine congrArg List.length (List.filter_congr (fun k hk => ?_))
    have hk := List.mem_range.1 hk
    rw [free_byte V first j a ha _ (by omega) (by omega), show 512 * j + 8 * a + k - (512 * j + 8 * a) = k by omega]
theorem and_mask (x m : Nat) (hx : x ≤ 255) (hm : m ≤ 8) : bits .and .u8 (x : Int) ((2 ^ m - 1 : Nat) : Int) = ((x % 2 ^ m : Nat) : Int) := by
  have key : ∀ y : Fin 256, ∀ r : Fin 9, bits .and .u8 ((y.val : Nat) : Int) ((2 ^ r.val - 1 : Nat) : Int) = ((y.val % 2 ^ r.val : Nat) : Int) := of_decide_eq_true (by kernel_rfl)
  exact key ⟨x, by omega⟩ ⟨m, by omega⟩
section
variable {W w w' : World} {gd gb gl gt gm n lf first many g : Nat} {F : Int → Option (Nat → Nat)} {bad : Int} {D : Nat → Nat → Nat} {left : Int} {dead : Bool}
set_option maxRecDepth 100000 in
set_option maxHeartbeats 4000000 in
theorem bitsCount_ok (h : BX w gd gb gl gt gm g n lf first many F bad D left dead) (hn : ∀ k, 512 * k < many → first + k < n) :
    Calls Try.prog 29 #[.pointer (some ⟨g, 0, none⟩)] w fun e w' => e = .returned (.tuple #[.int .i64 (cntB (bitV (viewB F D) first) many : Nat), .int .i64 0]) ∧ BX w' gd gb gl gt gm g n lf first many F bad D left dead ∧ Chg (dset gd gb) w w' := by
  have H := Lib.hid h
  have HN := Lib.hid hn
  have hm := h.h2
  have hf := h.h1
  obtain ⟨cn, hcn⟩ : ∃ c, c = cntB (bitV (viewB F D) first) := ⟨_, rfl⟩
  rw [← hcn]
  have HCN := Lib.hid hcn
  have HLE := Lib.hid (show ∀ k, cn k ≤ k from fun k => by rw [hcn]; exact cntB_le _ _)
  clear h hn hcn
  go_enter Try.func29, Try.ntmps29
  go_wp2_with fail
  go_loopw [4, 5] (fun r4 r5 wx => ∃ j : Nat, r5 = .int .i64 j ∧ r4 = .int .i64 (cn (min (512 * j) many) : Nat) ∧ 512 * j < many + 512 ∧ BX wx gd gb gl gt gm g n lf first many F bad D left dead ∧ Chg (dset gd gb) w wx) (fun _ r _ => many + 512 - 512 * (intOf r).toNat)
  case atStart => exact ⟨0, rfl, by rw [HCN.out]; simp [cntB], by omega, H.out, Chg.refl _ _⟩
  case round =>
    obtain ⟨j, rfl, rfl, hj, hbx, hcg⟩ := hrel
    have HBX := Lib.hid hbx
    have HCG := Lib.hid hcg
    have c2 := hbx.c2
    clear hbx hcg
    obtain ⟨wo, hwo⟩ : ∃ wo, wo = wr := ⟨_, rfl⟩
    subst hwo
    by_cases hjm : 512 * j < many
    · have f1 : (j : Int) * 512 < many := by omega
      have HPN := Lib.hid (HN.out j hjm)
      obtain ⟨p, hp⟩ : ∃ p, p = first + j := ⟨_, rfl⟩
      have f2 : IntKind.i64.wrap ((first : Int) + (j : Int)) = (p : Int) := by rw [hp]; simp [IntKind.wrap, IntKind.bits, IntKind.signed]; omega
      rw [← hp] at HPN
      have HPE := Lib.hid hp
      clear hp
      obtain ⟨s0, hs0⟩ : ∃ s, s = cn (min (512 * j) many) := ⟨_, rfl⟩
      rw [← hs0]
      have HS0 := Lib.hid hs0
      clear hs0
      go_upto_region 7 with fail
      go_cut [6, 7] (fun sp se wx => ∃ M, sp = .pointer (some ⟨M, 0, none⟩) ∧ se = .int .i64 0 ∧ wo.heap.size ≤ M ∧ wx.rowIs M 52 64 (pgC (viewB F D p)) ∧ BX wx gd gb gl gt gm g n lf first many F bad D left dead ∧ Chg (dset gd gb) wo wx)
      case first =>
        have HBD := Lib.hid (HBX.out.keep (drewb wo))
        have HGS := Lib.hid (show ¬ dset gd gb g from fun e => by have := HBX.out.ne; rcases e with e | e; exact this.1 e; exact this.2.1 e)
        have hS : Chg (dset gd gb) wo (World.drew wo) := Chg.of_below _ (drewb wo)
        have HC := Lib.hid (show ∀ w', Chg (dset gd gb) wo w' → w'.cell? ⟨g, 0, none⟩ = some (.iface 42 (.pointer (some ⟨gt, 0, none⟩))) ∧ w'.cell? ⟨g, 1, none⟩ = some (.int .i64 first) from fun w' hc => by
          have h2 := hc.row HBX.out.bm HGS.out
          exact ⟨h2.cell (i := 0) (by omega), h2.cell (i := 1) (by omega)⟩)
        have HGET := Lib.hid (show ∀ w', Below wo.heap.size wo w' → Calls Try.prog 26 #[.pointer (some ⟨gt, 0, none⟩), .int .i64 p] w' fun e w2 => e = .returned (.tuple #[pageV (viewB F D p), .int .i64 0]) ∧ TX w2 gd gb gl gt gm n lf F bad D left dead ∧ Chg (dset gd gb) w' w2 from fun w' hb => txnGet_ok (HBX.out.keep hb).tx p HPN.out)
        refine wp_region_held (S := Chg (dset gd gb) wo) (by kernel_rfl) ?_
        change wpAnyH _ _ _ _ _ _ _ _ (World.drew _)
        refine takeH 0 (.pointer (some ⟨g, 0, none⟩)) (some 24) rfl rfl (by kernel_rfl) (by kernel_rfl) (by kernel_rfl) (fun _ _ _ h => h) (.inl ⟨by kernel_rfl, fun w _ => by go_simp⟩) hS ?_
        refine takeH 1 (.pointer (some ⟨g, 0, none⟩)) (some 25) rfl rfl (by kernel_rfl) (by kernel_rfl) (by kernel_rfl) (fun _ _ _ h => h) (.inl ⟨by kernel_rfl, fun w _ => by go_simp⟩) hS ?_
        refine takeH 2 (.pointer (some ⟨g, 0, none⟩)) (some 26) rfl rfl (by kernel_rfl) (by kernel_rfl) (by kernel_rfl) (fun _ _ _ h => h) (.inl ⟨by kernel_rfl, fun w _ => by go_simp⟩) hS ?_
        refine takeH 3 (.iface 42 (.pointer (some ⟨gt, 0, none⟩))) (some 27) rfl rfl (by kernel_rfl) (by kernel_rfl) (by kernel_rfl) (fun _ _ _ h => h) (.inl ⟨by kernel_rfl, fun w hw => by have hc := (HC.out w hw).1; go_simp⟩) hS ?_
        refine takeH 4 (.pointer (some ⟨g, 0, none⟩)) (some 28) rfl rfl (by kernel_rfl) (by kernel_rfl) (by kernel_rfl) (fun _ _ _ h => h) (.inl ⟨by kernel_rfl, fun w _ => by go_simp⟩) hS ?_
        refine takeH 5 (.pointer (some ⟨g, 0, none⟩)) (some 29) rfl rfl (by kernel_rfl) (by kernel_rfl) (by kernel_rfl) (fun _ _ _ h => h) (.inl ⟨by kernel_rfl, fun w _ => by go_simp⟩) hS ?_
        refine takeH 6 (.pointer (some ⟨g, 1, none⟩)) (some 30) rfl rfl (by kernel_rfl) (by kernel_rfl) (by kernel_rfl) (fun _ _ _ h => h) (.inl ⟨by kernel_rfl, fun w _ => by go_simp⟩) hS ?_
        refine takeH 7 (.int .i64 first) (some 31) rfl rfl (by kernel_rfl) (by kernel_rfl) (by kernel_rfl) (fun _ _ _ h => h) (.inl ⟨by kernel_rfl, fun w hw => by have hc := (HC.out w hw).2; go_simp⟩) hS ?_
        refine takeH 8 (.int .i64 j) (some 32) rfl rfl (by kernel_rfl) (by kernel_rfl) (by kernel_rfl) (fun _ _ _ h => h) (.inl ⟨by kernel_rfl, fun w _ => by go_simp⟩) hS ?_
        refine takeH 9 (.int .i64 p) (some 33) rfl rfl (by kernel_rfl) (by kernel_rfl) (by kernel_rfl) (fun _ _ _ h => h) (.inl ⟨by kernel_rfl, fun w _ => by go_simp⟩) hS ?_
        refine takeH 10 (.iface 42 (.pointer (some ⟨gt, 0, none⟩))) (some 34) rfl rfl (by kernel_rfl) (by kernel_rfl) (by kernel_rfl) (fun _ _ _ h => h) (.inl ⟨by kernel_rfl, fun w _ => by go_simp⟩) hS ?_
        refine takeH 11 (.iface 42 (.pointer (some ⟨gt, 0, none⟩))) (some 35) rfl rfl (by kernel_rfl) (by kernel_rfl) (by kernel_rfl) (fun _ _ _ h => h) (.inl ⟨by kernel_rfl, fun w _ => by go_simp⟩) hS ?_
        go_simp
        have hSB : Chg (dset gd gb) wo ((World.drew wo).alloc (.cells (Value.agg (rowArr 64 (pgC fun _ => 0))).cells 52)) := hS.next (bnew _ _)
        refine callAlloc 12 16 rfl rfl rfl rfl (by kernel_rfl) (by kernel_rfl) 36 6 rfl rfl 26 #[.pointer (some ⟨gt, 0, none⟩), .int .i64 p] 52 rfl (.agg (rowArr 64 (pgC fun _ => 0))) page_zero (by go_simp; rfl) (fun _ w' => by go_simp; rfl) ((HGET.out _ (drewb wo)).mono ?_) hSB (fun M hM0 => (HGET.out _ (bnewAfter (drewb wo) _)).mono ?_) (by decide) (by decide)
        · rintro e wT ⟨he, hT, hD⟩
          have hS1 : Chg (dset gd gb) wo wT := hS.trans hD (fun k _ h => h)
          refine ⟨_, he, hS1, ?_⟩
          clear he
          refine takeH 13 (.tuple #[pageV (viewB F D p), .int .i64 0]) (some 23) rfl rfl (by kernel_rfl) (by kernel_rfl) (by kernel_rfl) (fun _ _ _ h => h) (.inl ⟨by kernel_rfl, fun w _ => by go_simp⟩) hS1 ?_
          refine takeH 14 (pageV (viewB F D p)) (some 37) rfl rfl (by kernel_rfl) (by kernel_rfl) (by kernel_rfl) (fun _ _ _ h => h) (.inl ⟨by kernel_rfl, fun w _ => by go_simp⟩) hS1 ?_
          refine takeH 15 (.int .i64 0) (some 38) rfl rfl (by kernel_rfl) (by kernel_rfl) (by kernel_rfl) (fun _ _ _ h => h) (.inl ⟨by kernel_rfl, fun w _ => by go_simp⟩) hS1 ?_
          refine runH 16 _ (some 6) rfl (by kernel_rfl) (by kernel_rfl) rfl (exec_alloc 52 rfl (.agg (rowArr 64 (pgC fun _ => 0))) page_zero) (hS1.next (bnew _ _)) ?_
          have hm := rowIs_of_arr (heap_alloc_last wT (.cells (rowArr 64 (pgC fun _ => 0)) 52))
          have hS2 := hS1.next (bnew wT (.cells (rowArr 64 (pgC fun _ => 0)) 52))
          have hM : wo.heap.size ≤ wT.heap.size := hS1.size
          have hT2 := hT.keep (bnew wT (.cells (rowArr 64 (pgC fun _ => 0)) 52))
          refine storeRowH 17 rfl (by kernel_rfl) (by kernel_rfl) rfl 52 _ _ rfl wT.heap.size 64 _ (pgC (viewB F D p)) (by go_simp; try rfl) (by go_simp; try rfl) hm (fun _ _ => rfl) block_size (fun w3 h3 o3 => ?_)
          have hS3 : Chg (dset gd gb) wo w3 := hS2.one o3 (.inr hM)
          refine ⟨hS3, ?_⟩
          refine takeH 18 (.int .i64 0) (some 7) rfl rfl (by kernel_rfl) (by kernel_rfl) (by kernel_rfl) (fun _ _ _ h => h) (.inl ⟨by kernel_rfl, fun w _ => by go_simp⟩) hS3 ?_
          refine wpAnyH_done (by kernel_rfl) ?_ _
          go_simp
          go_wp2_with fail
          go_meet
          exact ⟨_, rfl, rfl, hM, h3, ⟨hT2.newOne o3 hM HBX.out.tx.lt, hS3.row HBX.out.bm HGS.out, HBX.out.h1, HBX.out.h2⟩, hS3⟩
        · rintro e wT ⟨he, hT, hD⟩
          have hS1 : Chg (dset gd gb) wo wT := hSB.trans hD (fun k _ h => h)
          refine ⟨_, he, hS1, fun fl hfl => ?_⟩
          obtain rfl : fl = 5 := by simpa using hfl
          clear hfl he
          refine takeH 13 (.tuple #[pageV (viewB F D p), .int .i64 0]) (some 23) rfl rfl (by kernel_rfl) (by kernel_rfl) (by kernel_rfl) (fun _ _ _ h => h) (.inl ⟨by kernel_rfl, fun w _ => by go_simp⟩) hS1 ?_
          refine takeH 14 (pageV (viewB F D p)) (some 37) rfl rfl (by kernel_rfl) (by kernel_rfl) (by kernel_rfl) (fun _ _ _ h => h) (.inl ⟨by kernel_rfl, fun w _ => by go_simp⟩) hS1 ?_
          refine takeH 15 (.int .i64 0) (some 38) rfl rfl (by kernel_rfl) (by kernel_rfl) (by kernel_rfl) (fun _ _ _ h => h) (.inl ⟨by kernel_rfl, fun w _ => by go_simp⟩) hS1 ?_
          have HM1 := Lib.hid (show M = wo.heap.size from hM0)
          clear hM0
          have hm := hD.row (rowIs_of_arr (heap_alloc_last (World.drew wo) (.cells (rowArr 64 (pgC fun _ => 0)) 52))) (fun e => by have h1 := HBX.out.tx.lt; have h3 : (World.drew wo).heap.size = wo.heap.size := rfl; rcases e with e | e <;> omega)
          rw [show (World.drew wo).heap.size = M from HM1.out.symm] at hm
          have hS2 := hS1
          have hM : wo.heap.size ≤ M := Nat.le_of_eq HM1.out.symm
          have hT2 := hT
          refine storeRowH 17 rfl (by kernel_rfl) (by kernel_rfl) rfl 52 _ _ rfl M 64 _ (pgC (viewB F D p)) (by go_simp; try rfl) (by go_simp; try rfl) hm (fun _ _ => rfl) block_size (fun w3 h3 o3 => ?_)
          have hS3 : Chg (dset gd gb) wo w3 := hS2.one o3 (.inr hM)
          refine ⟨hS3, ?_⟩
          refine takeH 18 (.int .i64 0) (some 7) rfl rfl (by kernel_rfl) (by kernel_rfl) (by kernel_rfl) (fun _ _ _ h => h) (.inl ⟨by kernel_rfl, fun w _ => by go_simp⟩) hS3 ?_
          refine wpAnyH_done (by kernel_rfl) ?_ _
          go_simp
          go_wp2_with fail
          go_meet
          exact ⟨_, rfl, rfl, hM, h3, ⟨hT2.newOne o3 hM HBX.out.tx.lt, hS3.row HBX.out.bm HGS.out, HBX.out.h1, HBX.out.h2⟩, hS3⟩
      case rest =>
        obtain ⟨M, rfl, rfl, hM, hrow, hbx2, hcg2⟩ := hcut
        have HROW := Lib.hid hrow
        have HBX2 := Lib.hid hbx2
        have HCG2 := Lib.hid (HCG.out.trans hcg2 (fun _ _ h => h))
        have c2 := hbx2.c2
        clear hM hrow hbx2 hcg2 f2
        go_at_K
        go_step
        go_wp2_with (first
          | (refine wpList_row_load (by kernel_rfl) 52 (.tmp 6) rfl (some 42) rfl M 64 (pgC (viewB F D p)) (by go_simp) HROW.out _ block_under rfl block_size ?_))
        go_loopw [4, 43] (fun r4 r wx => ∃ a : Nat, a ≤ 64 ∧ r = .int .i64 a ∧ r4 = .int .i64 (cn (min (512 * j + 8 * a) many) : Nat) ∧ wx = wc) (fun _ r _ => 64 - (intOf r).toNat)
        case atStart => exact ⟨0, by omega, rfl, by rw [HS0.out]; rfl, rfl⟩
        case round =>
          obtain ⟨a, ha, rfl, rfl, rfl⟩ := hrel
          by_cases ha64 : a < 64
          · have g1 : (a : Int) < 64 := by omega
            have hx255 := viewB_u8 HBX2.out.tx p a
            have hcb := cnt_byte (viewB F D) first many j a ha64 (by rw [← HPE.out]; exact hx255)
            rw [← HCN.out, ← HPE.out] at hcb
            obtain ⟨x, hx⟩ : ∃ x, x = viewB F D p a := ⟨_, rfl⟩
            rw [← hx] at hx255 hcb
            have hix : ∀ w, (Instr.index 52 (.agg (rowArr 64 (pgC (viewB F D p)))) (.int .i64 a)).run Try.prog w = .ok (.int .u8 x) w := fun w =>
              run_index_arr block_under (by kernel_rfl) (fun w => by kernel_rfl) _ (by simp [rowArr, ha64, pgC, hx]) ha64 w
            obtain ⟨s1, hs1⟩ : ∃ s, s = cn (min (512 * j + 8 * a) many) := ⟨_, rfl⟩
            rw [← hs1] at hcb ⊢
            have hs1b : s1 ≤ 65536 := by rw [hs1]; exact Nat.le_trans (HLE.out _) (by omega)
            obtain ⟨m, hmm⟩ : ∃ m, m = min 8 (many - (512 * j + 8 * a)) := ⟨_, rfl⟩
            rw [← hmm] at hcb
            have HCB := Lib.hid hcb
            obtain ⟨lft, hlft⟩ : ∃ l : Int, l = (many : Int) - ((j : Int) * 512 + (a : Int) * 8) := ⟨_, rfl⟩
            have f3 : (many : Int) - ((j : Int) * 512 + (a : Int) * 8) = lft := hlft.symm
            have hcase : (8 ≤ lft ∧ m = 8) ∨ (0 ≤ lft ∧ lft < 8 ∧ (m : Int) = lft) ∨ (lft < 0 ∧ m = 0) := by omega
            have HCASE := Lib.hid hcase
            clear hcb hx hs1 hlft hmm hcase
            go_upto_if 59 with fail
            clear f3
            go_cut [9] (fun s9 wx => s9 = .int .u8 (x % 2 ^ m : Nat) ∧ wx = wr)
            case first =>
              rcases HCASE.out with ⟨h8, hm8⟩ | ⟨g4, g2, hlm⟩ | ⟨g4, hlm⟩
              · have g2 : ¬ lft < 8 := by omega
                have HM8 := Lib.hid (show x % 2 ^ m = x by rw [hm8]; omega)
                clear h8 hm8
                go_wp2_with fail
                go_meet
                exact ⟨by rw [HM8.out], rfl⟩
              · have g6 : ¬ lft < 0 := by omega
                have hm8 : m ≤ 7 := by omega
                have HLM := Lib.hid hlm
                clear hlm
                have HMK := Lib.hid (and_mask x m hx255 (by omega))
                obtain ⟨b, hb⟩ : ∃ b, b = 2 ^ m := ⟨_, rfl⟩
                have hb1 : 1 ≤ b ∧ b ≤ 128 := by
                  have key : ∀ r : Fin 8, 1 ≤ 2 ^ r.val ∧ 2 ^ r.val ≤ 128 := by decide
                  rw [hb]
                  exact key ⟨m, by omega⟩
                have h1b := hb1.1
                have h2b := hb1.2
                have HB := Lib.hid hb
                clear hb hb1
                go_wp2_with (with_reducible refine wpList_stop (some 63) rfl ?_)
                refine Lib.hid ?_
                refine wpList_by (v := .int .u8 (b : Int)) (w' := wr) (by kernel_rfl) (some 63) rfl ?hr ?_
                case hr =>
                  have hb := HB.out
                  have hlm := HLM.out
                  clear HB HMK HLM
                  subst hlm
                  have : m = 0 ∨ m = 1 ∨ m = 2 ∨ m = 3 ∨ m = 4 ∨ m = 5 ∨ m = 6 ∨ m = 7 := by omega
                  clear g2 g4
                  rcases this with rfl | rfl | rfl | rfl | rfl | rfl | rfl | rfl <;> subst hb <;> first | (go_simp; done) | (go_simp; rfl)
                have g5 : bits .and .u8 (x : Int) ((b : Int) - 1) = ((x % 2 ^ m : Nat) : Int) := by
                  rw [← HMK.out, ← HB.out]
                  congr 1
                  omega
                obtain ⟨y, hy⟩ : ∃ y, y = x % 2 ^ m := ⟨_, rfl⟩
                rw [← hy] at g5
                have HYY := Lib.hid hy
                clear hy
                go_wp2_with fail
                go_meet
                exact ⟨by rw [HYY.out], rfl⟩
              · have g2 : lft < 8 := by omega
                have hm8 : m ≤ 7 := by omega
                have HLM := Lib.hid hlm
                clear HLM
                subst hlm
                have HMK := Lib.hid (and_mask x 0 hx255 (by omega))
                obtain ⟨b, hb⟩ : ∃ b, b = 2 ^ 0 := ⟨_, rfl⟩
                have hb1 : 1 ≤ b ∧ b ≤ 128 := by
                  have key : ∀ r : Fin 8, 1 ≤ 2 ^ r.val ∧ 2 ^ r.val ≤ 128 := by decide
                  rw [hb]
                  exact key ⟨0, by omega⟩
                have h1b := hb1.1
                have h2b := hb1.2
                have HB := Lib.hid hb
                clear hb hb1
                go_wp2_with (with_reducible refine wpList_stop (some 63) rfl ?_)
                refine Lib.hid ?_
                refine wpList_by (v := .int .u8 (b : Int)) (w' := wr) (by kernel_rfl) (some 63) rfl ?hr ?_
                case hr =>
                  have hb := HB.out
                  clear HB HMK
                  subst hb
                  first | (go_simp; done) | (go_simp; rfl)
                have g5 : bits .and .u8 (x : Int) ((b : Int) - 1) = ((x % 2 ^ 0 : Nat) : Int) := by
                  rw [← HMK.out, ← HB.out]
                  congr 1
                  omega
                obtain ⟨y, hy⟩ : ∃ y, y = x % 2 ^ 0 := ⟨_, rfl⟩
                rw [← hy] at g5
                have HYY := Lib.hid hy
                clear hy
                go_wp2_with fail
                go_meet
                exact ⟨by rw [HYY.out], rfl⟩
            case rest =>
              obtain ⟨rfl, rfl⟩ := hcut
              obtain ⟨y, hy⟩ : ∃ y, y = x % 2 ^ m := ⟨_, rfl⟩
              rw [← hy] at HCB ⊢
              have hy255 : y ≤ 255 := by rw [hy]; exact Nat.le_trans (Nat.mod_le _ _) hx255
              have hony := on8_le y
              clear hy
              go_at_K
              go_step
              go_wp2_with (first
                | (go_at_call 71; refine (on8_any y hy255 _).mono ?_; rintro e w5 ⟨rfl, rfl⟩))
              go_roundw
              case rel => exact ⟨a + 1, by omega, by go_num, by rw [HCB.out]; go_num, trivial⟩
              case measure => simp [intOf]; omega
          · obtain rfl : a = 64 := by omega
            go_wp2_with fail
            go_roundw
            case rel => exact ⟨j + 1, by go_num, by first | rfl | trivial, by omega, HBX2.out, HCG2.out⟩
            case measure => simp [intOf]; omega
    · have f1 : ¬ (j : Int) * 512 < many := by omega
      have HE := Lib.hid (show cn (min (512 * j) many) = cn many by rw [show min (512 * j) many = many by omega])
      go_wp2_with fail
      go_ret2
      exact ⟨by rw [HE.out]; rfl, HBX.out, HCG.out⟩
end
end Go.Proofs.Ytonfnlohbgbffaa
