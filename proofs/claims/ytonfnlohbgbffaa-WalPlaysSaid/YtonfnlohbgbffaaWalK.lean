/- The laws of layer 4 (wal): nil ones; the law's block. -/
import Derived.Test.YtonfnlohbgbffaaWalJ
set_option linter.unusedVariables false
set_option linter.unusedSimpArgs false
namespace Go.Proofs.Ytonfnlohbgbffaa
open Go.RowKit
open Go.Maps (Keyed)

set_option maxRecDepth 20000 in
set_option maxHeartbeats 2000000 in
theorem walNil_in (w : World) (x : Int) (p : Nat → Nat) :
    (Calls Try.prog 53 #[.pointer none] w fun e w' => e = .returned (.tuple #[.int .i64 0, .int .i64 1]) ∧ w' = w) ∧
    (Calls Try.prog 26 #[.pointer none, .int .i64 x] w fun e w' => e = .returned (.tuple #[pageV (fun _ => 0), .int .i64 1]) ∧ Below w.heap.size w w') ∧
    (Calls Try.prog 55 #[.pointer none] w fun e w' => e = .returned (.tuple #[]) ∧ w' = w) ∧
    (Calls Try.prog 47 #[.pointer none] w fun e w' => e = .returned (.pointer none) ∧ w' = w) ∧
    (Calls Try.prog 45 #[.pointer none] w fun e w' => e = .returned (.int .i64 1) ∧ w' = w) ∧
    (Calls Try.prog 34 #[.pointer none, .int .i64 x, pageV p] w fun e w' => e = .returned (.int .i64 1) ∧ Below w.heap.size w w') ∧
    (Calls Try.prog 33 #[.pointer none] w fun e w' => e = .returned (.int .i64 0) ∧ w' = w) ∧
    (Calls Try.prog 56 #[.pointer none] w fun e w' => e = .returned (.slice none 0 0) ∧ w' = w) ∧
    (Calls Try.prog 49 #[.pointer none] w fun e w' => e = .returned (.int .i64 1) ∧ w' = w) := by
  refine ⟨?_, ?_, ?_, ?_, ?_, ?_, ?_, ?_, ?_⟩
  · go_enter Try.func53, Try.ntmps53
    go_wp2_with fail
    go_ret2
    exact ⟨rfl, rfl⟩
  · go_enter Try.func26, Try.ntmps26
    go_wp2_with (first
      | (refine wpList_new_row rfl 52 rfl (some 4) rfl 64 _ page_zero ?_; intro w1 G hg1 hr1 hb1; have HR1 := Lib.hid hr1; have HB1 := Lib.hid hb1; have HG1 := Lib.hid hg1; clear hr1 hb1 hg1)
      | (refine wpList_build (by kernel_rfl) 52 #[] rfl (some 10) rfl (rowArr 64 (pgC fun _ => 0)) (by kernel_rfl) ?_)
      | (refine wpList_row_store rfl 52 (.tmp 4) (.tmp 10) rfl rfl G 64 _ (pgC fun _ => 0) (by go_simp) (by go_simp; try rfl) HR1.out (fun _ _ => rfl) block_size ?_; intro w2 hr2 o2; have HR2 := Lib.hid hr2; have HB2 := Lib.hid (bone HB1.out o2 HG1.out HB1.out.size); clear hr2 o2))
    have hrun := run_load_row (P := Try.prog) HR2.out _ block_under rfl block_size
    exact bodyPost_ret (v := .tuple #[.agg (rowArr 64 (pgC fun _ => 0)), .int .i64 1]) (by simp [results, Try.results26, Act.put, asAddr, hrun]) rfl ⟨rfl, HB2.out⟩
  · go_enter Try.func55, Try.ntmps55
    go_wp2_with fail
    go_end0
    exact ⟨rfl, rfl⟩
  · go_enter Try.func47, Try.ntmps47
    go_wp2_with fail
    go_ret
    exact ⟨rfl, rfl⟩
  · go_enter Try.func45, Try.ntmps45
    go_wp2_with fail
    go_ret
    exact ⟨rfl, rfl⟩
  · go_enter Try.func34, Try.ntmps34
    go_wp2_with (first
      | (refine wpList_box_row rfl 52 (.tmp 2) rfl (some 5) rfl 64 (pgC p) (by go_simp; try rfl) ?_; intro w1 G hg1 hr1 hb1; have HB1 := Lib.hid hb1; clear hr1 hb1 hg1))
    go_ret
    exact ⟨rfl, HB1.out⟩
  · go_enter Try.func33, Try.ntmps33
    go_wp2_with fail
    go_ret
    exact ⟨rfl, rfl⟩
  · go_enter Try.func56, Try.ntmps56
    go_wp2_with fail
    go_ret
    exact ⟨rfl, rfl⟩
  · go_enter Try.func49, Try.ntmps49
    go_wp2_with fail
    go_ret
    exact ⟨rfl, rfl⟩
theorem walOpen_nil (w : World) (x : Int) : Calls Try.prog 44 #[.pointer none, .int .i64 x] w fun e w' => e = .returned (.tuple #[.pointer none, .int .i64 1]) ∧ w' = w := by
  go_enter Try.func44, Try.ntmps44
  go_wp2_with fail
  go_ret2
  exact ⟨rfl, rfl⟩
theorem xor_u8 (x y : Nat) (hx : x ≤ 255) (hy : y < 64) : bits .xor .u8 (x : Int) (y : Int) = ((x ^^^ y : Nat) : Int) := by
  have key : ∀ a : Fin 256, ∀ c : Fin 64, bits .xor .u8 ((a.val : Nat) : Int) ((c.val : Nat) : Int) = ((a.val ^^^ c.val : Nat) : Int) := of_decide_eq_true (by kernel_rfl)
  exact key ⟨x, by omega⟩ ⟨y, hy⟩
theorem xor_le (x y : Nat) (hx : x ≤ 255) : x ^^^ (y % 64) ≤ 255 := by
  have h := Nat.xor_lt_two_pow (n := 8) (x := x) (y := y % 64) (by omega) (by omega)
  omega
set_option maxRecDepth 20000 in
set_option maxHeartbeats 2000000 in
/-- The law's block. -/
theorem lawBlock_in (b : Nat) (hb : b ≤ 255) (w : World) : Calls Try.prog 48 #[.int .u8 b] w fun e w' => e = .returned (pageV (fun i => b ^^^ (i % 64))) ∧ Below w.heap.size w w' := by
  go_enter Try.func48, Try.ntmps48
  go_wp2_with (first
    | (refine wpList_new_row rfl 52 rfl (some 2) rfl 64 _ page_zero ?_; intro w1 G2 hg1 hr1 hb1; have HR1 := Lib.hid hr1; have HB1 := Lib.hid hb1; have HG1 := Lib.hid hg1; clear hr1 hb1 hg1)
    | (refine wpList_new_row rfl 52 rfl (some 3) rfl 64 _ page_zero ?_; intro w2 G3 hg2 hr2 hb2; have HR2 := Lib.hid hr2; have HB2 := Lib.hid (bnext HB1.out hb2); have HR12 := Lib.hid (rowIs_below HR1.out hb2); have HG2 := Lib.hid hg2; clear hr2 hb2 hg2))
  have HNE := Lib.hid (show G2 ≠ G3 from fun e => by have h1 := HR1.out.lt; have h2 := HG2.out; omega)
  go_loopw [5] (fun r wx => ∃ k : Nat, k ≤ 64 ∧ r = .int .i64 k ∧ Below w.heap.size w wx ∧ wx.rowIs G2 52 64 (pgC fun _ => 0) ∧ wx.rowIs G3 52 64 (pgC fun i => if i < k then b ^^^ (i % 64) else 0)) (fun r _ => 64 - (intOf r).toNat)
  case atStart => exact ⟨0, by omega, rfl, HB2.out, HR12.out, HR2.out.congr (fun i hi => by simp [pgC])⟩
  case round =>
    obtain ⟨k, hk, rfl, hbl, hr2, hr3⟩ := hrel
    have HBL := Lib.hid hbl
    have HR2' := Lib.hid hr2
    have HR3' := Lib.hid hr3
    by_cases hk64 : k < 64
    · have g1 : (k : Int) < 64 := by omega
      have c3 := hr3.cell (i := k) hk64
      have df := hr3.frozen
      clear hbl hr2 hr3
      have hx := xor_u8 b k hb hk64
      go_wp2_with fail
      have o := one_setCell wr G3 k (.int .u8 ((b ^^^ k : Nat) : Int))
      have HB' := Lib.hid (bone HBL.out o (Nat.le_trans HB1.out.size HG2.out) HBL.out.size)
      have H2 := Lib.hid (rowIs_one HR2'.out o HNE.out)
      have H3 := Lib.hid (show (wr.setCell ⟨G3, k, none⟩ (.int .u8 ((b ^^^ k : Nat) : Int))).rowIs G3 52 64 (pgC fun i => if i < k + 1 then b ^^^ (i % 64) else 0) from (HR3'.out.set k _).congr (fun i hi => by
        unfold pgC
        by_cases e : i = k
        · subst e
          simp [Nat.mod_eq_of_lt hk64]
        · simp only [e, if_false]
          by_cases e2 : i < k
          · rw [if_pos e2, if_pos (by omega)]
          · rw [if_neg e2, if_neg (by omega)]))
      clear c3 df hx o
      go_roundw
      case rel => exact ⟨k + 1, by omega, by go_num, HB'.out, H2.out, H3.out⟩
      case measure => simp [intOf]; omega
    · obtain rfl : k = 64 := by omega
      clear hbl hr2 hr3
      go_wp2_with (first
        | (refine wpList_row_load (by kernel_rfl) 52 (.tmp 3) rfl (some 15) rfl G3 64 _ (by go_simp) HR3'.out _ block_under rfl block_size ?_)
        | (refine wpList_row_store rfl 52 (.tmp 2) (.tmp 15) rfl rfl G2 64 _ (pgC fun i => if i < 64 then b ^^^ (i % 64) else 0) (by go_simp) (by go_simp; try rfl) HR2'.out (fun _ _ => rfl) block_size ?_; intro w5 hr5 o5; have HR5 := Lib.hid hr5; have HB5 := Lib.hid (bone HBL.out o5 HG1.out HBL.out.size); clear hr5 o5))
      have hrun := run_load_row (P := Try.prog) HR5.out _ block_under rfl block_size
      have hpg : rowArr 64 (pgC fun i => if i < 64 then b ^^^ (i % 64) else 0) = rowArr 64 (pgC fun i => b ^^^ (i % 64)) := rowArr_congr fun i hi => by simp [pgC, hi]
      rw [hpg] at hrun
      exact bodyPost_ret (v := pageV fun i => b ^^^ (i % 64)) (by simp [results, Try.results48, Act.put, asAddr, hrun, pageV]; rfl) rfl ⟨rfl, HB5.out⟩
end Go.Proofs.Ytonfnlohbgbffaa
