/- The law WalNone. -/
import Derived.Test.YtonfnlohbgbffaaWalK
set_option linter.unusedVariables false
set_option linter.unusedSimpArgs false
namespace Go.Proofs.Ytonfnlohbgbffaa
open Go.RowKit
open Go.Maps (Keyed)

set_option maxRecDepth 100000 in
set_option maxHeartbeats 8000000 in
theorem walNone_walk (W : World) (v0 v1 v2 : Value) (o0 : Arg Try.prog W 3 v0) (o1 : Arg Try.prog W 3 v1) (o2 : Arg Try.prog W 5 v2) :
    Calls Try.prog 12 #[v0, v1, v2] W fun e w' => e = .returned (.bool true) ∧ Below W.heap.size W w' := by
  obtain ⟨n, rfl, hn⟩ := Arg.int Try.underlying3 o0
  obtain ⟨x, rfl, hx⟩ := Arg.int Try.underlying3 o1
  obtain ⟨b, rfl, hb⟩ := Arg.int Try.underlying5 o2
  have hb2 := wf_u8 hb
  have hn2 := wf_i64 hn
  have hx2 := wf_i64 hx
  obtain ⟨c, rfl⟩ : ∃ c : Nat, b = (c : Int) := ⟨b.toNat, by omega⟩
  have hc : c ≤ 255 := by omega
  have hxl := hx2.1
  have hxu := hx2.2
  have hnl := hn2.1
  have hnu := hn2.2
  clear o0 o1 o2 hb hb2 hn hx hn2 hx2
  go_enter Try.func12, Try.ntmps12
  go_wp2_with fail
  refine (walAwake_in W).mono ?_
  rintro e w1 ⟨rfl, hb1⟩
  have HB1 := Lib.hid hb1
  clear hb1
  by_cases hbig : 3000 < n ∧ n ≤ 65536
  · have g1 := hbig.1
    have g2 := hbig.2
    go_wp2_with fail
    go_ret
    exact ⟨rfl, HB1.out⟩
  by_cases hbad : n < 0 ∨ 65536 < n
  · have g0 : (decide (3000 < n) = false) ∨ (3000 < n ∧ decide (n ≤ 65536) = false) := by
      rcases hbad with h | h
      · left; simp; omega
      · right; exact ⟨by omega, by simp; omega⟩
    rcases g0 with g0 | ⟨g0, g0'⟩
    · go_wp2_with fail
      refine (diskNew_bad n hbad _).mono ?_
      rintro e w2 ⟨rfl, rfl⟩
      go_wp2_with fail
      refine (walOpen_nil _ x).mono ?_
      rintro e w3 ⟨rfl, rfl⟩
      clear g0
      go_wp2_with fail
      refine (walNil_in _ x (fun _ => 0)).1.mono ?_
      rintro e w4 ⟨rfl, rfl⟩
      go_wp2_with fail
      refine (walNil_in _ x (fun _ => 0)).2.1.mono ?_
      rintro e w5 ⟨rfl, hb5⟩
      have HB5 := Lib.hid (bnext HB1.out hb5)
      clear hb5
      go_wp2_with (first
        | (refine wpList_new_row rfl 52 rfl (some 15) rfl 64 _ page_zero ?_; intro w6 G hg6 hr6 hb6; have HR6 := Lib.hid hr6; have HG6 := Lib.hid hg6; have HB6 := Lib.hid (bnext HB5.out hb6); clear hr6 hb6 hg6)
        | (refine wpList_row_store rfl 52 (.tmp 15) (.tmp 46) rfl rfl G 64 _ (pgC fun _ => 0) (by go_simp) (by go_simp; try rfl) HR6.out (fun _ _ => rfl) block_size ?_; intro w7 hr7 o7; have HR7 := Lib.hid hr7; have HB7 := Lib.hid (bone HB6.out o7 (Nat.le_trans HB5.out.size HG6.out) HB6.out.size); clear hr7 o7))
      refine (walNil_in _ x (fun _ => 0)).2.2.1.mono ?_
      rintro e w8 ⟨rfl, rfl⟩
      go_wp2_with fail
      refine (walNil_in _ x (fun _ => 0)).2.2.2.1.mono ?_
      rintro e w9 ⟨rfl, rfl⟩
      go_wp2_with fail
      refine (walNil_in _ x (fun _ => 0)).2.2.2.2.1.mono ?_
      rintro e w10 ⟨rfl, rfl⟩
      go_wp2_with (first
        | (refine wpList_row_load (by kernel_rfl) 52 (.tmp 15) rfl (some 67) rfl G 64 (pgC fun _ => 0) (by go_simp) HR7.out _ block_under rfl block_size ?_)
        | (refine wpList_build (by kernel_rfl) 52 #[] rfl (some 68) rfl (rowArr 64 (pgC fun _ => 0)) (by kernel_rfl) ?_)
        | (refine wpList_by (v := .bool false) (by kernel_rfl) (some 69) rfl (exec_neq (b := true) (xs := rowArr 64 (pgC fun _ => 0)) (ys := rowArr 64 (pgC fun _ => 0)) rfl (by go_simp) (by go_simp) (by kernel_rfl) (pg_same (fun _ => by omega) _)) ?_))
      refine (lawBlock_in c hc _).mono ?_
      rintro e w11 ⟨rfl, hb11⟩
      have HB11 := Lib.hid (bnext HB7.out hb11)
      clear hb11
      go_wp2_with fail
      refine (walNil_in _ x (fun i => c ^^^ (i % 64))).2.2.2.2.2.1.mono ?_
      rintro e w12 ⟨rfl, hb12⟩
      have HB12 := Lib.hid (bnext HB11.out hb12)
      clear hb12
      go_wp2_with fail
      refine (walNil_in _ x (fun _ => 0)).2.2.2.2.2.2.1.mono ?_
      rintro e w13 ⟨rfl, rfl⟩
      go_wp2_with fail
      refine (walNil_in _ x (fun _ => 0)).2.2.2.2.2.2.2.1.mono ?_
      rintro e w14 ⟨rfl, rfl⟩
      go_wp2_with fail
      refine (walNil_in _ x (fun _ => 0)).2.2.2.2.2.2.2.2.mono ?_
      rintro e w15 ⟨rfl, rfl⟩
      skip
      go_wp2_with fail
      go_ret
      exact ⟨rfl, HB12.out⟩
    · go_wp2_with fail
      refine (diskNew_bad n hbad _).mono ?_
      rintro e w2 ⟨rfl, rfl⟩
      go_wp2_with fail
      refine (walOpen_nil _ x).mono ?_
      rintro e w3 ⟨rfl, rfl⟩
      clear g0 g0'
      go_wp2_with fail
      refine (walNil_in _ x (fun _ => 0)).1.mono ?_
      rintro e w4 ⟨rfl, rfl⟩
      go_wp2_with fail
      refine (walNil_in _ x (fun _ => 0)).2.1.mono ?_
      rintro e w5 ⟨rfl, hb5⟩
      have HB5 := Lib.hid (bnext HB1.out hb5)
      clear hb5
      go_wp2_with (first
        | (refine wpList_new_row rfl 52 rfl (some 15) rfl 64 _ page_zero ?_; intro w6 G hg6 hr6 hb6; have HR6 := Lib.hid hr6; have HG6 := Lib.hid hg6; have HB6 := Lib.hid (bnext HB5.out hb6); clear hr6 hb6 hg6)
        | (refine wpList_row_store rfl 52 (.tmp 15) (.tmp 46) rfl rfl G 64 _ (pgC fun _ => 0) (by go_simp) (by go_simp; try rfl) HR6.out (fun _ _ => rfl) block_size ?_; intro w7 hr7 o7; have HR7 := Lib.hid hr7; have HB7 := Lib.hid (bone HB6.out o7 (Nat.le_trans HB5.out.size HG6.out) HB6.out.size); clear hr7 o7))
      refine (walNil_in _ x (fun _ => 0)).2.2.1.mono ?_
      rintro e w8 ⟨rfl, rfl⟩
      go_wp2_with fail
      refine (walNil_in _ x (fun _ => 0)).2.2.2.1.mono ?_
      rintro e w9 ⟨rfl, rfl⟩
      go_wp2_with fail
      refine (walNil_in _ x (fun _ => 0)).2.2.2.2.1.mono ?_
      rintro e w10 ⟨rfl, rfl⟩
      go_wp2_with (first
        | (refine wpList_row_load (by kernel_rfl) 52 (.tmp 15) rfl (some 67) rfl G 64 (pgC fun _ => 0) (by go_simp) HR7.out _ block_under rfl block_size ?_)
        | (refine wpList_build (by kernel_rfl) 52 #[] rfl (some 68) rfl (rowArr 64 (pgC fun _ => 0)) (by kernel_rfl) ?_)
        | (refine wpList_by (v := .bool false) (by kernel_rfl) (some 69) rfl (exec_neq (b := true) (xs := rowArr 64 (pgC fun _ => 0)) (ys := rowArr 64 (pgC fun _ => 0)) rfl (by go_simp) (by go_simp) (by kernel_rfl) (pg_same (fun _ => by omega) _)) ?_))
      refine (lawBlock_in c hc _).mono ?_
      rintro e w11 ⟨rfl, hb11⟩
      have HB11 := Lib.hid (bnext HB7.out hb11)
      clear hb11
      go_wp2_with fail
      refine (walNil_in _ x (fun i => c ^^^ (i % 64))).2.2.2.2.2.1.mono ?_
      rintro e w12 ⟨rfl, hb12⟩
      have HB12 := Lib.hid (bnext HB11.out hb12)
      clear hb12
      go_wp2_with fail
      refine (walNil_in _ x (fun _ => 0)).2.2.2.2.2.2.1.mono ?_
      rintro e w13 ⟨rfl, rfl⟩
      go_wp2_with fail
      refine (walNil_in _ x (fun _ => 0)).2.2.2.2.2.2.2.1.mono ?_
      rintro e w14 ⟨rfl, rfl⟩
      go_wp2_with fail
      refine (walNil_in _ x (fun _ => 0)).2.2.2.2.2.2.2.2.mono ?_
      rintro e w15 ⟨rfl, rfl⟩
      skip
      go_wp2_with fail
      go_ret
      exact ⟨rfl, HB12.out⟩
  · have hn3 : n ≤ 3000 := by omega
    obtain ⟨m, rfl⟩ : ∃ m : Nat, n = (m : Int) := ⟨n.toNat, by omega⟩
    have g0 : decide (3000 < (m : Int)) = false := by simp; omega
    have hm : m ≤ 65536 := by omega
    go_wp2_with fail
    refine (dxNew m hm _).mono ?_
    rintro e w2 ⟨gd, gb, rfl, hd2, hl1, hl2, hb2⟩
    have HB2 := Lib.hid (bnext HB1.out hb2)
    have HD2 := Lib.hid hd2
    clear hl1 hl2 hb2 hd2 g0
    by_cases hfit : 0 ≤ x ∧ x + 31 ≤ m
    · obtain ⟨f, rfl⟩ : ∃ f : Nat, x = (f : Int) := ⟨x.toNat, by omega⟩
      have hf : f + 31 ≤ m := by omega
      go_wp2_with fail
      refine (walOpen_ok HD2.out f hf).mono ?_
      rintro e w3 ⟨gl, rfl, hx3, hl3, hb3⟩
      have HB3 := Lib.hid (bnext HB2.out hb3)
      clear hx3 hl3 hb3
      go_wp2_with fail
      refine (walNil_in _ f (fun _ => 0)).1.mono ?_
      rintro e w4 ⟨rfl, rfl⟩
      go_wp2_with fail
      refine (walNil_in _ f (fun _ => 0)).2.1.mono ?_
      rintro e w5 ⟨rfl, hb5⟩
      have HB5 := Lib.hid (bnext HB3.out hb5)
      clear hb5
      go_wp2_with (first
        | (refine wpList_new_row rfl 52 rfl (some 15) rfl 64 _ page_zero ?_; intro w6 G hg6 hr6 hb6; have HR6 := Lib.hid hr6; have HG6 := Lib.hid hg6; have HB6 := Lib.hid (bnext HB5.out hb6); clear hr6 hb6 hg6)
        | (refine wpList_row_store rfl 52 (.tmp 15) (.tmp 46) rfl rfl G 64 _ (pgC fun _ => 0) (by go_simp) (by go_simp; try rfl) HR6.out (fun _ _ => rfl) block_size ?_; intro w7 hr7 o7; have HR7 := Lib.hid hr7; have HB7 := Lib.hid (bone HB6.out o7 (Nat.le_trans HB5.out.size HG6.out) HB6.out.size); clear hr7 o7))
      refine (walNil_in _ f (fun _ => 0)).2.2.1.mono ?_
      rintro e w8 ⟨rfl, rfl⟩
      go_wp2_with fail
      refine (walNil_in _ f (fun _ => 0)).2.2.2.1.mono ?_
      rintro e w9 ⟨rfl, rfl⟩
      go_wp2_with fail
      refine (walNil_in _ f (fun _ => 0)).2.2.2.2.1.mono ?_
      rintro e w10 ⟨rfl, rfl⟩
      go_wp2_with (first
        | (refine wpList_row_load (by kernel_rfl) 52 (.tmp 15) rfl (some 67) rfl G 64 (pgC fun _ => 0) (by go_simp) HR7.out _ block_under rfl block_size ?_)
        | (refine wpList_build (by kernel_rfl) 52 #[] rfl (some 68) rfl (rowArr 64 (pgC fun _ => 0)) (by kernel_rfl) ?_)
        | (refine wpList_by (v := .bool false) (by kernel_rfl) (some 69) rfl (exec_neq (b := true) (xs := rowArr 64 (pgC fun _ => 0)) (ys := rowArr 64 (pgC fun _ => 0)) rfl (by go_simp) (by go_simp) (by kernel_rfl) (pg_same (fun _ => by omega) _)) ?_))
      refine (lawBlock_in c hc _).mono ?_
      rintro e w11 ⟨rfl, hb11⟩
      have HB11 := Lib.hid (bnext HB7.out hb11)
      clear hb11
      go_wp2_with fail
      refine (walNil_in _ f (fun i => c ^^^ (i % 64))).2.2.2.2.2.1.mono ?_
      rintro e w12 ⟨rfl, hb12⟩
      have HB12 := Lib.hid (bnext HB11.out hb12)
      clear hb12
      go_wp2_with fail
      refine (walNil_in _ f (fun _ => 0)).2.2.2.2.2.2.1.mono ?_
      rintro e w13 ⟨rfl, rfl⟩
      go_wp2_with fail
      refine (walNil_in _ f (fun _ => 0)).2.2.2.2.2.2.2.1.mono ?_
      rintro e w14 ⟨rfl, rfl⟩
      go_wp2_with fail
      refine (walNil_in _ f (fun _ => 0)).2.2.2.2.2.2.2.2.mono ?_
      rintro e w15 ⟨rfl, rfl⟩
      have k1 : (0 : Int) ≤ f := by omega
      have k2 : (f : Int) < m := by omega
      obtain ⟨d, hd⟩ : ∃ d : Nat, d = m - f := ⟨_, rfl⟩
      have k3 : (m : Int) - f = (d : Int) := by omega
      have k4 : (31 : Int) ≤ d := by omega
      have k5 : d ≤ 3000 := by omega
      go_wp2_with fail
      go_ret
      exact ⟨rfl, HB12.out⟩
    · have hno : x < 0 ∨ (m : Int) < x + 31 := by omega
      go_wp2_with fail
      refine (walOpen_no HD2.out x hno).mono ?_
      rintro e w3 ⟨rfl, rfl⟩
      have hways : (decide (0 ≤ x) = false) ∨ (0 ≤ x ∧ decide (x < (m : Int)) = false) ∨ (0 ≤ x ∧ x < (m : Int) ∧ ∃ d : Nat, (m : Int) - x = d ∧ decide ((31 : Int) ≤ d) = false ∧ d ≤ 3000) := by
        by_cases h1 : 0 ≤ x
        · by_cases h2 : x < (m : Int)
          · exact .inr (.inr ⟨h1, h2, ((m : Int) - x).toNat, by omega, by simp; omega, by omega⟩)
          · exact .inr (.inl ⟨h1, by simp; omega⟩)
        · exact .inl (by simp; omega)
      go_wp2_with fail
      refine (walNil_in _ x (fun _ => 0)).1.mono ?_
      rintro e w4 ⟨rfl, rfl⟩
      go_wp2_with fail
      refine (walNil_in _ x (fun _ => 0)).2.1.mono ?_
      rintro e w5 ⟨rfl, hb5⟩
      have HB5 := Lib.hid (bnext HB2.out hb5)
      clear hb5
      go_wp2_with (first
        | (refine wpList_new_row rfl 52 rfl (some 15) rfl 64 _ page_zero ?_; intro w6 G hg6 hr6 hb6; have HR6 := Lib.hid hr6; have HG6 := Lib.hid hg6; have HB6 := Lib.hid (bnext HB5.out hb6); clear hr6 hb6 hg6)
        | (refine wpList_row_store rfl 52 (.tmp 15) (.tmp 46) rfl rfl G 64 _ (pgC fun _ => 0) (by go_simp) (by go_simp; try rfl) HR6.out (fun _ _ => rfl) block_size ?_; intro w7 hr7 o7; have HR7 := Lib.hid hr7; have HB7 := Lib.hid (bone HB6.out o7 (Nat.le_trans HB5.out.size HG6.out) HB6.out.size); clear hr7 o7))
      refine (walNil_in _ x (fun _ => 0)).2.2.1.mono ?_
      rintro e w8 ⟨rfl, rfl⟩
      go_wp2_with fail
      refine (walNil_in _ x (fun _ => 0)).2.2.2.1.mono ?_
      rintro e w9 ⟨rfl, rfl⟩
      go_wp2_with fail
      refine (walNil_in _ x (fun _ => 0)).2.2.2.2.1.mono ?_
      rintro e w10 ⟨rfl, rfl⟩
      go_wp2_with (first
        | (refine wpList_row_load (by kernel_rfl) 52 (.tmp 15) rfl (some 67) rfl G 64 (pgC fun _ => 0) (by go_simp) HR7.out _ block_under rfl block_size ?_)
        | (refine wpList_build (by kernel_rfl) 52 #[] rfl (some 68) rfl (rowArr 64 (pgC fun _ => 0)) (by kernel_rfl) ?_)
        | (refine wpList_by (v := .bool false) (by kernel_rfl) (some 69) rfl (exec_neq (b := true) (xs := rowArr 64 (pgC fun _ => 0)) (ys := rowArr 64 (pgC fun _ => 0)) rfl (by go_simp) (by go_simp) (by kernel_rfl) (pg_same (fun _ => by omega) _)) ?_))
      refine (lawBlock_in c hc _).mono ?_
      rintro e w11 ⟨rfl, hb11⟩
      have HB11 := Lib.hid (bnext HB7.out hb11)
      clear hb11
      go_wp2_with fail
      refine (walNil_in _ x (fun i => c ^^^ (i % 64))).2.2.2.2.2.1.mono ?_
      rintro e w12 ⟨rfl, hb12⟩
      have HB12 := Lib.hid (bnext HB11.out hb12)
      clear hb12
      go_wp2_with fail
      refine (walNil_in _ x (fun _ => 0)).2.2.2.2.2.2.1.mono ?_
      rintro e w13 ⟨rfl, rfl⟩
      go_wp2_with fail
      refine (walNil_in _ x (fun _ => 0)).2.2.2.2.2.2.2.1.mono ?_
      rintro e w14 ⟨rfl, rfl⟩
      go_wp2_with fail
      refine (walNil_in _ x (fun _ => 0)).2.2.2.2.2.2.2.2.mono ?_
      rintro e w15 ⟨rfl, rfl⟩
      rcases hways with k1 | ⟨k1, k2⟩ | ⟨k1, k2, d, k3, k4, k5⟩
      · go_wp2_with fail
        go_ret
        exact ⟨rfl, HB12.out⟩
      · go_wp2_with fail
        go_ret
        exact ⟨rfl, HB12.out⟩
      · go_wp2_with fail
        go_ret
        exact ⟨rfl, HB12.out⟩
end Go.Proofs.Ytonfnlohbgbffaa
