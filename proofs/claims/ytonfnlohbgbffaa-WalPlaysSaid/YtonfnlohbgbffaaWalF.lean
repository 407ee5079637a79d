/- A transaction's Put that is refused; Get of what there isn't. -/
import Derived.Test.YtonfnlohbgbffaaWalE
set_option linter.unusedVariables false
set_option linter.unusedSimpArgs false
namespace Go.Proofs.Ytonfnlohbgbffaa
open Go.RowKit
open Go.Maps (Keyed)

section
variable {W w w' : World} {gd gb gl gt gm n first : Nat} {F : Int → Option (Nat → Nat)} {bad : Int} {D : Nat → Nat → Nat} {left : Int} {dead : Bool}
set_option maxRecDepth 100000 in
set_option maxHeartbeats 2000000 in
theorem txnPut_range (h : TX w gd gb gl gt gm n first F bad D left dead) (x : Int) (hx : x < 0 ∨ (n : Int) ≤ x ∨ ((first : Int) ≤ x ∧ x ≤ first + 30)) (f : Nat → Nat) :
    Calls Try.prog 34 #[.pointer (some ⟨gt, 0, none⟩), .int .i64 x, pageV f] w fun e w' => e = .returned (.int .i64 27) ∧ TX w' gd gb gl gt gm n first F (badB bad 27) D left dead ∧ Chg (fun b => b = gt) w w' := by
  have hn := h.lx.dx.n
  have hfit := h.lx.fit
  rw [pageV_eq]
  have HTW := Lib.hid h.tv
  clear h
  have hcase : x < 0 ∨ (¬ x < 0 ∧ (n : Int) ≤ x) ∨ (¬ x < 0 ∧ ¬ (n : Int) ≤ x ∧ (first : Int) ≤ x ∧ x ≤ first + 30) := by omega
  clear hx
  go_enter Try.func34, Try.ntmps34
  rcases hcase with h0 | ⟨h0, h1⟩ | ⟨h0, h1, h2, h3⟩
  all_goals
    go_wp2_with (first
      | (refine wpList_box_row rfl 52 (.tmp 2) rfl (some 5) rfl 64 (pgC f) (by go_simp) ?_; intro w1 G0 hg0 hr0 hb0; have HT0 := Lib.hid (HTW.out.keep hb0); have c0 := HT0.out.tx.c0; have c1 := HT0.out.tx.c1; have c2 := HT0.out.tx.lx.c0; have c3 := HT0.out.tx.lx.c1; clear hg0 hr0 hb0)
      | (go_at_call 72; refine (dxLen HT0.out.tx.lx.dx).mono ?_; rintro e w2 ⟨rfl, rfl⟩)
      | (go_at_call 73; refine (txnFail_ok HT0.out.tx 27).mono ?_; rintro e w2 ⟨rfl, ht2, o2⟩; have HT2 := Lib.hid ht2; have HO2 := Lib.hid o2; clear ht2 o2))
    go_ret
    exact ⟨rfl, HT2.out, (Chg.of_below (fun b => b = gt) HT0.out.bl).one HO2.out (.inl rfl)⟩
set_option maxRecDepth 100000 in
set_option maxHeartbeats 2000000 in
theorem txnPut_many (h : TX w gd gb gl gt gm n first F bad D left dead) (k : Nat) (hk : k < n) (hr : k < first ∨ first + 30 < k) (hF : F k = none) (hN : mapN w gm = 30) (f : Nat → Nat) :
    Calls Try.prog 34 #[.pointer (some ⟨gt, 0, none⟩), .int .i64 k, pageV f] w fun e w' => e = .returned (.int .i64 23) ∧ TX w' gd gb gl gt gm n first F (badB bad 23) D left dead ∧ Chg (fun b => b = gt) w w' := by
  have hn := h.lx.dx.n
  have hfit := h.lx.fit
  obtain ⟨l, hl⟩ := key_int k (by omega)
  have HK := Lib.hid hl
  have HF := Lib.hid (show lkV pageV (pageV fun _ => 0) true (F (k : Int)) = .tuple #[pageV fun _ => 0, .bool false] by rw [hF]; rfl)
  have HN := Lib.hid hN
  rw [pageV_eq]
  have HTW := Lib.hid h.tv
  have h1 : (k : Int) < n := by omega
  have h2 : ¬ (n : Int) ≤ k := by omega
  clear h hl hF hN
  have hcase : (¬ (first : Int) ≤ k) ∨ ((first : Int) ≤ k ∧ ¬ (k : Int) ≤ first + 30) := by omega
  clear hr
  go_enter Try.func34, Try.ntmps34
  rcases hcase with hc | ⟨hc, hc2⟩
  all_goals
    go_wp2_with (first
      | (refine wpList_box_row rfl 52 (.tmp 2) rfl (some 5) rfl 64 (pgC f) (by go_simp) ?_; intro w1 G0 hg0 hr0 hb0; have HT0 := Lib.hid (HTW.out.keep hb0); have HM0 := Lib.hid (mapN_keep (hb0.block gm HTW.out.tx.mp.mp.lt)); have c0 := HT0.out.tx.c0; have c1 := HT0.out.tx.c1; have c2 := HT0.out.tx.lx.c0; have c3 := HT0.out.tx.lx.c1; clear hg0 hr0 hb0)
      | (go_at_call 72; refine (dxLen HT0.out.tx.lx.dx).mono ?_; rintro e w2 ⟨rfl, rfl⟩)
      | (refine wpList_lookup_mk (by kernel_rfl) (some 58) rfl HT0.out.tx.mp.mp keyedInt kvI_inj Try.underlying141 page_z _ _ true rfl (by go_simp) (k : Int) (by go_simp; rfl) HK.out _ HF.out ?_)
      | (with_reducible refine wpList_stop (some 7) rfl ?_))
    refine Lib.hid ?_
    refine wpList_new_row rfl 52 rfl (some 7) rfl 64 _ page_zero ?_
    intro w2 G7 hg7 hr7 hb7
    have HR7 := Lib.hid hr7
    have HT2 := Lib.hid (HT0.out.keep hb7)
    have HM2 := Lib.hid ((mapN_keep (hb7.block gm HT0.out.tx.mp.mp.lt)).trans HM0.out)
    have HG7 := Lib.hid (show w.heap.size ≤ G7 from Nat.le_trans HT0.out.bl.size hg7)
    have HNM := Lib.hid (show gm ≠ G7 from Nat.ne_of_lt (Nat.lt_of_lt_of_le HT0.out.tx.mp.mp.lt hg7))
    clear hr7 hb7 hg7 c0 c1 c2 c3
    go_wp2_with (first
      | (refine wpList_row_store rfl 52 (.tmp 7) (.tmp 59) rfl rfl G7 64 _ (pgC fun _ => 0) (by go_simp) (by go_simp; rfl) HR7.out (fun _ _ => rfl) block_size ?_; intro w3 hr3 o3; have HT3 := Lib.hid (HT2.out.one o3 HG7.out); have HM3 := Lib.hid ((mapN_keep (o3.block gm HT2.out.tx.mp.mp.lt (fun e => HNM.out (by cases e; rfl)))).trans HM2.out); have c1 := HT3.out.tx.c1; clear hr3 o3)
      | (refine wpList_by (v := .int .i64 30) (by kernel_rfl) (some 68) rfl (by rw [show (30 : Int) = ((mapN w3 gm : Nat) : Int) by rw [HM3.out, HN.out]; rfl]; exact HT3.out.tx.mp.mp.exec_len Try.underlying141 (.tmp 67) rfl (by go_simp)) ?_)
      | (go_at_call 73; refine (txnFail_ok HT3.out.tx 23).mono ?_; rintro e w4 ⟨rfl, ht4, o4⟩; have HT4 := Lib.hid ht4; have HO4 := Lib.hid o4; clear ht4 o4))
    go_ret
    exact ⟨rfl, HT4.out, (Chg.of_below (fun b => b = gt) HT3.out.bl).one HO4.out (.inl rfl)⟩
set_option maxRecDepth 10000 in
set_option maxHeartbeats 1000000 in
theorem txnGet_no (h : TX w gd gb gl gt gm n first F bad D left dead) (x : Int) (hx : x < 0 ∨ (n : Int) ≤ x) (hw : -9223372036854775808 ≤ x ∧ x ≤ 9223372036854775807) (hF : F x = none) :
    Calls Try.prog 26 #[.pointer (some ⟨gt, 0, none⟩), .int .i64 x] w fun e w' => e = .returned (.tuple #[pageV (fun _ => 0), .int .i64 27]) ∧ Below w.heap.size w w' := by
  obtain ⟨l, hl⟩ := key_int x hw
  have HK := Lib.hid hl
  have HTW := Lib.hid h.tv
  have HX := Lib.hid hx
  have HF := Lib.hid (show lkV pageV (pageV fun _ => 0) true (F x) = .tuple #[pageV fun _ => 0, .bool false] by rw [hF]; rfl)
  clear h hl hx hw hF
  go_enter Try.func26, Try.ntmps26
  go_wp2_with (first
    | (refine wpList_new_row rfl 52 rfl (some 4) rfl 64 _ page_zero ?_; intro w1 G hG hr1 hb1; have HG := Lib.hid hG; have HR1 := Lib.hid hr1; have H1 := Lib.hid (HTW.out.keep hb1); have c0 := H1.out.tx.c0; have c1 := H1.out.tx.c1; clear hr1 hb1 hG)
    | (refine wpList_lookup_mk (by kernel_rfl) (some 17) rfl H1.out.tx.mp.mp keyedInt kvI_inj Try.underlying141 page_z _ _ true rfl (by go_simp) x (by go_simp; rfl) HK.out _ HF.out ?_)
    | (with_reducible refine wpList_stop (some 6) rfl ?_))
  refine Lib.hid ?_
  refine wpList_new_row rfl 52 rfl (some 6) rfl 64 _ page_zero ?_
  intro w2 G6 hg6 hr6 hb6
  have HR6 := Lib.hid hr6
  have H2 := Lib.hid (H1.out.keep hb6)
  have HR2 := Lib.hid (rowIs_below HR1.out hb6)
  have HG6 := Lib.hid (show w.heap.size ≤ G6 from Nat.le_trans H1.out.bl.size hg6)
  have HNE := Lib.hid (show G ≠ G6 from Nat.ne_of_lt (Nat.lt_of_lt_of_le HR1.out.lt hg6))
  clear hr6 hb6 hg6 c0 c1
  go_wp2_with (first
    | (refine wpList_row_store rfl 52 (.tmp 6) (.tmp 18) rfl rfl G6 64 _ (pgC fun _ => 0) (by go_simp) (by go_simp; rfl) HR6.out (fun _ _ => rfl) block_size ?_; intro w3 hr3 o3; have H3 := Lib.hid (H2.out.one o3 HG6.out); have HR3 := Lib.hid (rowIs_one HR2.out o3 HNE.out); have c0 := H3.out.tx.c0; have c2 := H3.out.tx.lx.c0; clear hr3 o3))
  refine (dxRead_no H3.out.tx.lx.dx x HX.out).mono ?_
  rintro e w4 ⟨rfl, hb4⟩
  have H4 := Lib.hid (H3.out.keep hb4)
  have HR4 := Lib.hid (rowIs_below HR3.out hb4)
  clear hb4 c0 c2
  go_wp2_with (first
    | (refine wpList_row_store rfl 52 (.tmp 4) (.tmp 31) rfl rfl G 64 _ (pgC fun _ => 0) (by go_simp) (by go_simp; rfl) HR4.out (fun _ _ => rfl) block_size ?_; intro w5 hr5 o5; have HR5 := Lib.hid hr5; have H5 := Lib.hid (H4.out.one o5 HG.out); clear hr5 o5))
  have hrun := run_load_row (P := Try.prog) HR5.out _ block_under rfl block_size
  exact bodyPost_ret (v := .tuple #[pageV fun _ => 0, .int .i64 27]) (by simp [results, Try.results26, Act.put, asAddr, hrun, pageV_eq]) rfl ⟨rfl, H5.out.bl⟩
end
end Go.Proofs.Ytonfnlohbgbffaa
