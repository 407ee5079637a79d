/- A transaction's Put; Get of what there isn't. -/
import Derived.Test.YtonfnlohbgbffaaWalD
set_option linter.unusedVariables false
set_option linter.unusedSimpArgs false
namespace Go.Proofs.Ytonfnlohbgbffaa
open Go.RowKit
open Go.Maps (Keyed)

/-- What stays as it is while a transaction's own call makes variables. -/
structure TV (W w : World) (gd gb gl gt gm n first : Nat) (F : Int → Option (Nat → Nat)) (bad : Int) (D : Nat → Nat → Nat) (left : Int) (dead : Bool) : Prop where
  tx : TX w gd gb gl gt gm n first F bad D left dead
  bl : Below W.heap.size W w
  lt : gd < W.heap.size ∧ gb < W.heap.size ∧ gl < W.heap.size ∧ gt < W.heap.size ∧ gm < W.heap.size
section
variable {W w w' : World} {gd gb gl gt gm n first : Nat} {F : Int → Option (Nat → Nat)} {bad : Int} {D : Nat → Nat → Nat} {left : Int} {dead : Bool}
theorem TV.keep (h : TV W w gd gb gl gt gm n first F bad D left dead) (hb : Below w.heap.size w w') : TV W w' gd gb gl gt gm n first F bad D left dead := ⟨h.tx.keep hb, bnext h.bl hb, h.lt⟩
theorem TV.one (h : TV W w gd gb gl gt gm n first F bad D left dead) {x : Nat} (o : One w w' (some x)) (hx : W.heap.size ≤ x) : TV W w' gd gb gl gt gm n first F bad D left dead := ⟨h.tx.newOne o hx h.lt, bone h.bl o hx h.bl.size, h.lt⟩
theorem TX.tv (h : TX w gd gb gl gt gm n first F bad D left dead) : TV w w gd gb gl gt gm n first F bad D left dead := ⟨h, Below.refl _ _, h.lt⟩

set_option maxRecDepth 100000 in
set_option maxHeartbeats 2000000 in
theorem txnPut_ok (h : TX w gd gb gl gt gm n first F bad D left dead) (k : Nat) (hk : k < n) (hr : k < first ∨ first + 30 < k) (hN : F k ≠ none ∨ mapN w gm ≠ 30) {f : Nat → Nat} (hf : ∀ i, f i ≤ 255) :
    Calls Try.prog 34 #[.pointer (some ⟨gt, 0, none⟩), .int .i64 k, pageV f] w fun e w' => e = .returned (.int .i64 0) ∧ TX w' gd gb gl gt gm n first (putF F k f) bad D left dead ∧ Chg (fun b => b = gm) w w' := by
  have hn := h.lx.dx.n
  have hfit := h.lx.fit
  obtain ⟨l, hl⟩ := key_int k (by omega)
  have HK := Lib.hid hl
  have HL := Lib.hid h.lt
  have HF255 := Lib.hid hf
  rw [pageV_eq]
  have HTW := Lib.hid h.tv
  have HOK := Lib.hid (show ∀ q g, putF F k f q = some g → (∀ i, g i ≤ 255) ∧ 0 ≤ q ∧ q < n ∧ ¬ (first ≤ q ∧ q ≤ first + 30) from fun q g hq => by
    unfold putF at hq
    split at hq
    · rename_i e
      cases hq
      exact ⟨hf, by omega, by omega, by omega⟩
    · exact h.ok q g hq)
  have h1 : (k : Int) < n := by omega
  have h2 : ¬ (n : Int) ≤ k := by omega
  clear h hl hf
  have hcase : (¬ (first : Int) ≤ k) ∨ ((first : Int) ≤ k ∧ ¬ (k : Int) ≤ first + 30) := by omega
  clear hr
  cases hfk : F (k : Int) with
  | none =>
    have HF := Lib.hid (show lkV pageV (pageV fun _ => 0) true (F (k : Int)) = .tuple #[pageV fun _ => 0, .bool false] by rw [hfk]; rfl)
    have HN := Lib.hid (show mapN w gm ≠ 30 by rcases hN with h | h; exact absurd hfk h; exact h)
    clear hN hfk
    have hl30 : ((mapN w gm : Nat) : Int) ≠ 30 := by have := HN.out; omega
    have hl31 : (((mapN w gm : Nat) : Int) == 30) = false := by rw [beq_eq_false_iff_ne]; exact hl30
    clear hl30
    go_enter Try.func34, Try.ntmps34
    rcases hcase with hc | ⟨hc, hc2⟩
    all_goals
      go_wp2_with (first
        | (refine wpList_box_row rfl 52 (.tmp 2) rfl (some 5) rfl 64 (pgC f) (by go_simp) ?_; intro w1 G0 hg0 hr0 hb0; have HG0 := Lib.hid hg0; have HR0 := Lib.hid hr0; have HT0 := Lib.hid (HTW.out.keep hb0); have HM0 := Lib.hid (mapN_keep (hb0.block gm HTW.out.tx.mp.mp.lt)); have c0 := HT0.out.tx.c0; have c1 := HT0.out.tx.c1; have c2 := HT0.out.tx.lx.c0; have c3 := HT0.out.tx.lx.c1; clear hg0 hr0 hb0)
        | (go_at_call 72; refine (dxLen HT0.out.tx.lx.dx).mono ?_; rintro e w2 ⟨rfl, rfl⟩)
        | (refine wpList_lookup_mk (by kernel_rfl) (some 58) rfl HT0.out.tx.mp.mp keyedInt kvI_inj Try.underlying141 page_z _ _ true rfl (by go_simp) (k : Int) (by go_simp; rfl) HK.out _ HF.out ?_)
        | (with_reducible refine wpList_stop (some 7) rfl ?_))
      refine Lib.hid ?_
      refine wpList_new_row rfl 52 rfl (some 7) rfl 64 _ page_zero ?_
      intro w2 G7 hg7 hr7 hb7
      have HR7 := Lib.hid hr7
      have HT2 := Lib.hid (HT0.out.keep hb7)
      have HM2 := Lib.hid ((mapN_keep (hb7.block gm HT0.out.tx.mp.mp.lt)).trans HM0.out)
      have HR2 := Lib.hid (rowIs_below HR0.out hb7)
      have HG7 := Lib.hid (show w.heap.size ≤ G7 from Nat.le_trans HT0.out.bl.size hg7)
      have HNE := Lib.hid (show G0 ≠ G7 from Nat.ne_of_lt (Nat.lt_of_lt_of_le HR0.out.lt hg7))
      have HNM := Lib.hid (show gm ≠ G7 from Nat.ne_of_lt (Nat.lt_of_lt_of_le HT0.out.tx.mp.mp.lt hg7))
      clear hr7 hb7 hg7 c0 c1 c2 c3
      go_wp2_with (first
        | (refine wpList_row_store rfl 52 (.tmp 7) (.tmp 59) rfl rfl G7 64 _ (pgC fun _ => 0) (by go_simp) (by go_simp; rfl) HR7.out (fun _ _ => rfl) block_size ?_; intro w3 hr3 o3; have HT3 := Lib.hid (HT2.out.one o3 HG7.out); have HM3 := Lib.hid ((mapN_keep (o3.block gm HT2.out.tx.mp.mp.lt (fun e => HNM.out (by cases e; rfl)))).trans HM2.out); have HR3 := Lib.hid (rowIs_one HR2.out o3 HNE.out); have c1 := HT3.out.tx.c1; clear hr3 o3)
        | (refine wpList_by (v := .int .i64 (mapN w gm)) (by kernel_rfl) (some 68) rfl (by rw [← HM3.out]; exact HT3.out.tx.mp.mp.exec_len Try.underlying141 (.tmp 67) rfl (by go_simp)) ?_))
      refine wp_region_still_tail 6 (by kernel_rfl) (by kernel_rfl) ?_
      simp only [List.take_succ_cons, List.take_zero, List.drop_succ_cons, List.drop_zero]
      change wpStill _ _ (World.drew w3) _ _ _
      have c1 : (World.drew w3).cell? ⟨gt, 1, none⟩ = some (.map (some gm)) := HT3.out.tx.c1
      iterate 5 still_step
      refine still_by (by kernel_rfl) (.agg (rowArr 64 (pgC f))) (some 78) rfl (load_piece 52 (.tmp 5) rfl G0 0 (by go_simp) _ _ (piece_row (w := World.drew w3) HR3.out) block_under rfl (by rw [rowArr_size]; exact block_size)) ?_
      refine wpStill_nil ?_
      change wpList _ _ _ _ _ (World.drew w3)
      refine wpList_update_mb (by kernel_rfl) rfl (HT3.out.tx.mp.keep (drewb w3)) keyedInt kvI_inj Try.underlying141 _ _ _ rfl (by go_simp) (k : Int) (by go_simp; rfl) HK.out f (by go_simp; rfl) ?_
      intro w4 hm4 o4
      go_wp2_with fail
      go_ret
      have hT4 := (HT3.out.keep (drewb w3)).tx.setM o4 hm4 HOK.out
      have hC : Chg (fun b => b = gm) w w4 := by
        have h1 : Chg (fun b => b = gm) w (World.drew w3) := Chg.of_below _ (HT3.out.keep (drewb w3)).bl
        exact h1.one o4 (.inl rfl)
      exact ⟨rfl, hT4, hC⟩
  | some g =>
    have HF := Lib.hid (show lkV pageV (pageV fun _ => 0) true (F (k : Int)) = .tuple #[pageV g, .bool true] by rw [hfk]; rfl)
    clear hN hfk
    go_enter Try.func34, Try.ntmps34
    rcases hcase with hc | ⟨hc, hc2⟩
    all_goals
      go_wp2_with (first
        | (refine wpList_box_row rfl 52 (.tmp 2) rfl (some 5) rfl 64 (pgC f) (by go_simp) ?_; intro w1 G0 hg0 hr0 hb0; have HG0 := Lib.hid hg0; have HR0 := Lib.hid hr0; have HT0 := Lib.hid (HTW.out.keep hb0); have HM0 := Lib.hid (mapN_keep (hb0.block gm HTW.out.tx.mp.mp.lt)); have c0 := HT0.out.tx.c0; have c1 := HT0.out.tx.c1; have c2 := HT0.out.tx.lx.c0; have c3 := HT0.out.tx.lx.c1; clear hg0 hr0 hb0)
        | (go_at_call 72; refine (dxLen HT0.out.tx.lx.dx).mono ?_; rintro e w2 ⟨rfl, rfl⟩)
        | (refine wpList_lookup_mk (by kernel_rfl) (some 58) rfl HT0.out.tx.mp.mp keyedInt kvI_inj Try.underlying141 page_z _ _ true rfl (by go_simp) (k : Int) (by go_simp; rfl) HK.out _ HF.out ?_)
        | (with_reducible refine wpList_stop (some 7) rfl ?_))
      refine Lib.hid ?_
      refine wpList_new_row rfl 52 rfl (some 7) rfl 64 _ page_zero ?_
      intro w2 G7 hg7 hr7 hb7
      have HR7 := Lib.hid hr7
      have HT2 := Lib.hid (HT0.out.keep hb7)
      have HM2 := Lib.hid ((mapN_keep (hb7.block gm HT0.out.tx.mp.mp.lt)).trans HM0.out)
      have HR2 := Lib.hid (rowIs_below HR0.out hb7)
      have HG7 := Lib.hid (show w.heap.size ≤ G7 from Nat.le_trans HT0.out.bl.size hg7)
      have HNE := Lib.hid (show G0 ≠ G7 from Nat.ne_of_lt (Nat.lt_of_lt_of_le HR0.out.lt hg7))
      have HNM := Lib.hid (show gm ≠ G7 from Nat.ne_of_lt (Nat.lt_of_lt_of_le HT0.out.tx.mp.mp.lt hg7))
      clear hr7 hb7 hg7 c0 c1 c2 c3
      go_wp2_with (first
        | (refine wpList_row_store rfl 52 (.tmp 7) (.tmp 59) rfl rfl G7 64 _ (pgC g) (by go_simp) (by go_simp; rfl) HR7.out (fun _ _ => rfl) block_size ?_; intro w3 hr3 o3; have HT3 := Lib.hid (HT2.out.one o3 HG7.out); have HM3 := Lib.hid ((mapN_keep (o3.block gm HT2.out.tx.mp.mp.lt (fun e => HNM.out (by cases e; rfl)))).trans HM2.out); have HR3 := Lib.hid (rowIs_one HR2.out o3 HNE.out); have c1 := HT3.out.tx.c1; clear hr3 o3)
        | (refine wpList_by (v := .int .i64 (mapN w gm)) (by kernel_rfl) (some 68) rfl (by rw [← HM3.out]; exact HT3.out.tx.mp.mp.exec_len Try.underlying141 (.tmp 67) rfl (by go_simp)) ?_))
      refine wp_region_still_tail 6 (by kernel_rfl) (by kernel_rfl) ?_
      simp only [List.take_succ_cons, List.take_zero, List.drop_succ_cons, List.drop_zero]
      change wpStill _ _ (World.drew w3) _ _ _
      have c1 : (World.drew w3).cell? ⟨gt, 1, none⟩ = some (.map (some gm)) := HT3.out.tx.c1
      iterate 5 still_step
      refine still_by (by kernel_rfl) (.agg (rowArr 64 (pgC f))) (some 78) rfl (load_piece 52 (.tmp 5) rfl G0 0 (by go_simp) _ _ (piece_row (w := World.drew w3) HR3.out) block_under rfl (by rw [rowArr_size]; exact block_size)) ?_
      refine wpStill_nil ?_
      change wpList _ _ _ _ _ (World.drew w3)
      refine wpList_update_mb (by kernel_rfl) rfl (HT3.out.tx.mp.keep (drewb w3)) keyedInt kvI_inj Try.underlying141 _ _ _ rfl (by go_simp) (k : Int) (by go_simp; rfl) HK.out f (by go_simp; rfl) ?_
      intro w4 hm4 o4
      go_wp2_with fail
      go_ret
      have hT4 := (HT3.out.keep (drewb w3)).tx.setM o4 hm4 HOK.out
      have hC : Chg (fun b => b = gm) w w4 := by
        have h1 : Chg (fun b => b = gm) w (World.drew w3) := Chg.of_below _ (HT3.out.keep (drewb w3)).bl
        exact h1.one o4 (.inl rfl)
      exact ⟨rfl, hT4, hC⟩
end
end Go.Proofs.Ytonfnlohbgbffaa
