/- The law LabelLaws: its walk, where leqL p q = true ∧ leqL q p = false ∧ leqL q r = false. -/
import Derived.Test.YtcjnnonfnlemmaaDoorLabNa
set_option linter.unusedVariables false
set_option linter.unusedSimpArgs false
namespace Go.Proofs.YtcjnnonfnlemmaaDoor
open Go.RowKit

set_option maxRecDepth 100000 in
set_option maxHeartbeats 60000000 in
theorem labelLaws_2 (W : World) (hT : Tab W) (p q r : Nat × Nat) (hp : okL p) (hq : okL q) (hr : okL r) (hk : leqL p q = true ∧ leqL q p = false ∧ leqL q r = false) :
    Calls Tryd.prog 6 #[labV p, labV q, labV r] W fun e w' => e = .returned (.bool true) ∧ Below W.heap.size W w' := by
  have HKK := Lib.hid hk
  clear hk
  have hjo := joinAll_ok (ls := [p, q]) (fun r hr => by simp only [List.mem_cons, List.not_mem_nil, or_false] at hr; rcases hr with rfl | rfl; exact hp; exact hq)
  have hme := meetAll_ok (ls := [p, q]) (fun r hr => by simp only [List.mem_cons, List.not_mem_nil, or_false] at hr; rcases hr with rfl | rfl; exact hp; exact hq)
  obtain ⟨w3, hw3⟩ : ∃ w3, w3 = ((W.alloc (.cells #[.int .u8 p.1, .int .u16 p.2] 25)).alloc (.cells #[.int .u8 q.1, .int .u16 q.2] 25)).alloc (.cells #[.int .u8 r.1, .int .u16 r.2] 25) := ⟨_, rfl⟩
  have hB0 : Below W.heap.size W w3 := by rw [hw3]; exact bnewAfter (bnewAfter (bnew W _) _) _
  have hpa : w3.heap[W.heap.size]? = some (.cells #[.int .u8 p.1, .int .u16 p.2] 25) := by
    rw [hw3]; exact bkeep (bnew _ _) (bkeep (bnew _ _) (heap_alloc_last W _))
  have hqa : w3.heap[W.heap.size + 1]? = some (.cells #[.int .u8 q.1, .int .u16 q.2] 25) := by
    rw [hw3]; refine bkeep (bnew _ _) ?_
    have := heap_alloc_last (W.alloc (.cells #[.int .u8 p.1, .int .u16 p.2] 25)) (.cells #[.int .u8 q.1, .int .u16 q.2] 25)
    simpa using this
  have hra : w3.heap[W.heap.size + 2]? = some (.cells #[.int .u8 r.1, .int .u16 r.2] 25) := by
    rw [hw3]
    have := heap_alloc_last ((W.alloc (.cells #[.int .u8 p.1, .int .u16 p.2] 25)).alloc (.cells #[.int .u8 q.1, .int .u16 q.2] 25)) (.cells #[.int .u8 r.1, .int .u16 r.2] 25)
    simpa using this
  have HW3 := Lib.hid hw3
  clear hw3
  unfold labV
  go_enter Tryd.func6, Tryd.ntmps6
  go_wp2_with fail
  rw [← HW3.out]
  go_at_call 8; refine (labAwake_any _ (hT.keep hB0)).mono ?_; rintro e w5 ⟨he, hb1⟩; subst he
  have hB5 := hB0.trans (hb1.mono hB0.size)
  have hp5 := bkeep hb1 hpa
  have hq5 := bkeep hb1 hqa
  have hr5 := bkeep hb1 hra
  clear hpa hqa hra hB0
  go_wp2_with fail
  have hSd : Below w5.heap.size w5.drew w5.drew := Below.refl _ _
  have hqp : ∀ w', Below w5.heap.size w5.drew w' → ∀ o, w'.cell? ⟨W.heap.size, o, none⟩ = (#[.int .u8 p.1, .int .u16 p.2] : Array Value)[o]? := fun w' hb => rowcell (bkeep (w := w') (W := w5.drew) hb hp5)
  have hqq : ∀ w', Below w5.heap.size w5.drew w' → ∀ o, w'.cell? ⟨W.heap.size + 1, o, none⟩ = (#[.int .u8 q.1, .int .u16 q.2] : Array Value)[o]? := fun w' hb => rowcell (bkeep (w := w') (W := w5.drew) hb hq5)
  refine wp_region_held (S := fun w' => Below w5.heap.size w5.drew w') (by kernel_rfl) ?_
  change wpAnyH _ _ _ _ _ _ _ _ (World.drew _)
  refine takeH 0 (.agg #[.int .u8 p.1, .int .u16 p.2]) (some 11) rfl rfl (by kernel_rfl) (by kernel_rfl) (by kernel_rfl) (fun _ _ _ h => h) (.inl ⟨by kernel_rfl, fun w hw => by have hc := hqp w hw; go_simp⟩) hSd ?_
  refine takeH 1 (.agg #[.int .u8 q.1, .int .u16 q.2]) (some 12) rfl rfl (by kernel_rfl) (by kernel_rfl) (by kernel_rfl) (fun _ _ _ h => h) (.inl ⟨by kernel_rfl, fun w hw => by have hc := hqq w hw; go_simp⟩) hSd ?_
  refine takeH 4 (.agg #[.int .u8 p.1, .int .u16 p.2]) (some 15) rfl rfl (by kernel_rfl) (by kernel_rfl) (by kernel_rfl) (fun _ _ _ h => h) (.inl ⟨by kernel_rfl, fun w hw => by have hc := hqp w hw; go_simp⟩) hSd ?_
  refine takeH 5 (.agg #[.int .u8 q.1, .int .u16 q.2]) (some 16) rfl rfl (by kernel_rfl) (by kernel_rfl) (by kernel_rfl) (fun _ _ _ h => h) (.inl ⟨by kernel_rfl, fun w hw => by have hc := hqq w hw; go_simp⟩) hSd ?_
  refine wpAnyH_frame (fun a0 ha0 => ?_)
  have e11 : a0.tmps.getD 11 undef = .agg #[.int .u8 p.1, .int .u16 p.2] := by rw [ha0]; go_simp
  have e12 : a0.tmps.getD 12 undef = .agg #[.int .u8 q.1, .int .u16 q.2] := by rw [ha0]; go_simp
  have e15 : a0.tmps.getD 15 undef = .agg #[.int .u8 p.1, .int .u16 p.2] := by rw [ha0]; go_simp
  have e16 : a0.tmps.getD 16 undef = .agg #[.int .u8 q.1, .int .u16 q.2] := by rw [ha0]; go_simp
  have esz : a0.tmps.size = 140 := by rw [ha0]; go_simp
  have HA := Lib.hid ha0
  clear ha0
  refine mix6 lawsD _ 972 lawsNeed lawsMasks (by kernel_rfl) (by decide) (by decide) (by decide) (by decide) a0 _ (lawsF p q w5.heap.size) (lawsF_keep p q _) (fun w w' h hb => h.trans (hb.mono h.size)) ?step ?hend _ hSd
  case step =>
    intro d hd m v w hn hm hv hS K hK
    simp only [lawsD, List.mem_cons, List.not_mem_nil, or_false] at hd
    rcases hd with rfl | rfl | rfl | rfl | rfl | rfl
    · have x11 := (fill_other (m := m) (v := v) 11 lawsD a0 (by decide)).trans e11
      have x12 := (fill_other (m := m) (v := v) 12 lawsD a0 (by decide)).trans e12
      refine loudK 2 rfl (wanted_none rfl) (some 13) rfl (.slice (some ⟨w.heap.size, 0, none⟩) 2 2) (w.alloc (.cells #[.int .u8 p.1, .int .u16 p.2, .int .u8 q.1, .int .u16 q.2] 25)) ?_ (hK _ _ (bnew w _) ⟨_, rfl, heap_alloc_last w _⟩ (fun g h => by cases h))
      generalize fillF lawsD m v a0 = f at x11 x12 ⊢
      rw [Array.getD_eq_getD_getElem?] at x11 x12
      go_simp
    · obtain ⟨g, hg1, hg2⟩ := hv (2, 13) (by simp [lawsD]) (bit_need (i := 2) hn)
      have xs : (fillF lawsD m v a0).tmps.getD 13 undef = .slice (some ⟨g, 0, none⟩) 2 2 := (fill_get (m := m) (v := v) lawsD a0 (by decide) (2, 13) (by simp [lawsD]) (bit_need (i := 2) hn) (by rw [esz]; decide)).trans hg1
      have hc := labJoin_any (.slice (some ⟨g, 0, none⟩) 2 2) [p, q] w (LS.two p q hp hq hg2) (by simp)
      refine callK 3 rfl (wanted_none rfl) (some 14) rfl 18 #[.slice (some ⟨g, 0, none⟩) 2 2] ?_ (hc.mono ?_)
      · generalize fillF lawsD m v a0 = f at xs ⊢
        go_simp
      · rintro e w' ⟨he, hb⟩
        exact ⟨_, he, hK _ _ hb rfl (fun g h => by cases h)⟩
    · have x15 := (fill_other (m := m) (v := v) 15 lawsD a0 (by decide)).trans e15
      have x16 := (fill_other (m := m) (v := v) 16 lawsD a0 (by decide)).trans e16
      refine loudK 6 rfl (wanted_none rfl) (some 17) rfl (.slice (some ⟨w.heap.size, 0, none⟩) 2 2) (w.alloc (.cells #[.int .u8 p.1, .int .u16 p.2, .int .u8 q.1, .int .u16 q.2] 25)) ?_ (hK _ _ (bnew w _) ⟨_, rfl, heap_alloc_last w _⟩ (fun g h => by cases h))
      generalize fillF lawsD m v a0 = f at x15 x16 ⊢
      rw [Array.getD_eq_getD_getElem?] at x15 x16
      go_simp
    · obtain ⟨g, hg1, hg2⟩ := hv (6, 17) (by simp [lawsD]) (bit_need (i := 6) hn)
      have xs : (fillF lawsD m v a0).tmps.getD 17 undef = .slice (some ⟨g, 0, none⟩) 2 2 := (fill_get (m := m) (v := v) lawsD a0 (by decide) (6, 17) (by simp [lawsD]) (bit_need (i := 6) hn) (by rw [esz]; decide)).trans hg1
      have hc := labMeet_any (.slice (some ⟨g, 0, none⟩) 2 2) [p, q] w (LS.two p q hp hq hg2) (by simp)
      refine callK 7 rfl (wanted_none rfl) (some 18) rfl 20 #[.slice (some ⟨g, 0, none⟩) 2 2] ?_ (hc.mono ?_)
      · generalize fillF lawsD m v a0 = f at xs ⊢
        go_simp
      · rintro e w' ⟨he, hb⟩
        exact ⟨_, he, hK _ _ hb rfl (fun g h => by cases h)⟩
    · refine loudK 8 rfl (wanted_none rfl) (some 7) rfl (.pointer (some ⟨w.heap.size, 0, none⟩)) (w.alloc (.cells #[.int .u8 0, .int .u16 0] 25)) ?_ (hK _ _ (bnew w _) ⟨_, rfl, hS.size, heap_alloc_last w _⟩ (fun g h => by cases h; exact ⟨Nat.le_refl _, by simp⟩))
      generalize fillF lawsD m v a0 = f
      go_simp
    · refine loudK 9 rfl (wanted_none rfl) (some 8) rfl (.pointer (some ⟨w.heap.size, 0, none⟩)) (w.alloc (.cells #[.int .u8 0, .int .u16 0] 25)) ?_ (hK _ _ (bnew w _) ⟨_, rfl, hS.size, heap_alloc_last w _⟩ (fun g h => by cases h; exact ⟨Nat.le_refl _, by simp⟩))
      generalize fillF lawsD m v a0 = f
      go_simp
  case hend =>
    intro v w hS hF hap
    obtain ⟨g2, h2, _⟩ := hF (2, 13) (by simp [lawsD])
    obtain ⟨g6, h6, _⟩ := hF (6, 17) (by simp [lawsD])
    have h3 : v 3 = labV (joinAll [p, q]) := hF (3, 14) (by simp [lawsD])
    have h7 : v 7 = labV (meetAll [p, q]) := hF (7, 18) (by simp [lawsD])
    obtain ⟨g8, h8, hb8, hz8⟩ := hF (8, 7) (by simp [lawsD])
    obtain ⟨g9, h9, hb9, hz9⟩ := hF (9, 8) (by simp [lawsD])
    have hne : g9 ≠ g8 := by
      have := hap.2 (8, 7) (by simp [lawsD]) (9, 8) (by simp [lawsD]) rfl rfl (by decide) g8 (by rw [h8]; rfl)
      intro h
      apply this
      rw [h9, h]; rfl
    have hfr : fillF lawsD 972 v a0 = (((((a0.put (some 13) (v 2)).put (some 14) (v 3)).put (some 17) (v 6)).put (some 18) (v 7)).put (some 7) (v 8)).put (some 8) (v 9) := rfl
    rw [hfr, h3, h7, show v 2 = _ from h2, show v 6 = _ from h6, show v 8 = _ from h8, show v 9 = _ from h9, HA.out]
    unfold labV
    have r8 : w.rowIs g8 25 2 (labRow (0, 0)) := row_two hz8
    have r9 : w.rowIs g9 25 2 (labRow (0, 0)) := row_two hz9
    obtain ⟨jv, hjv⟩ : ∃ jv, jv = joinAll [p, q] := ⟨_, rfl⟩
    obtain ⟨mv, hmv⟩ : ∃ mv, mv = meetAll [p, q] := ⟨_, rfl⟩
    rw [← hjv, ← hmv]
    rw [← hjv] at hjo
    rw [← hmv] at hme
    have HJ := Lib.hid hjv
    have HM := Lib.hid hmv
    clear hjv hmv hF hap hfr h2 h3 h6 h7 h8 h9 e11 e12 e15 e16 esz hz8 hz9
    refine storeH1 10 rfl (by kernel_rfl) (by kernel_rfl) 25 (.tmp 7) (.tmp 14) rfl rfl g8 0 #[.int .u8 jv.1, .int .u16 jv.2] (by go_simp) (by go_simp) (by kernel_rfl)
      (fun j hj => by rw [Nat.zero_add, r8.cell (by simpa using hj)]; rfl) (fun j hj => r8.frozen _) (lab_two jv) (fun wA hwA => ⟨?_, ?_⟩)
    · rw [hwA]; exact below_setCells hb8 _ _ _ hS
    have A8 : wA.rowIs g8 25 2 (labRow jv) := by rw [hwA]; exact row_store r8 jv
    have A9 : wA.rowIs g9 25 2 (labRow (0, 0)) := by rw [hwA]; exact r9.of_block (heap_cells_other hne _ _ _)
    have SA : Below w5.heap.size w5.drew wA := by rw [hwA]; exact below_setCells hb8 _ _ _ hS
    clear hwA r8 r9 hS
    refine storeH 11 rfl (by kernel_rfl) (by kernel_rfl) (by kernel_rfl) 25 (.tmp 8) (.tmp 18) rfl rfl g9 0 #[.int .u8 mv.1, .int .u16 mv.2] (by go_simp) (by go_simp) (by kernel_rfl)
      (fun j hj => by rw [Nat.zero_add, A9.cell (by simpa using hj)]; rfl) (fun j hj => A9.frozen _) (lab_two mv) (fun wB hwB => ?_) (fun wB hwB => ?_)
    · rw [hwB]; exact below_setCells hb9 _ _ _ SA
    have B8 : wB.rowIs g8 25 2 (labRow jv) := by rw [hwB]; exact A8.of_block (heap_cells_other hne.symm _ _ _)
    have B9 : wB.rowIs g9 25 2 (labRow mv) := by rw [hwB]; exact row_store A9 mv
    have SB : Below w5.heap.size w5.drew wB := by rw [hwB]; exact below_setCells hb9 _ _ _ SA
    clear hwB A8 A9 SA
    have BB : Below W.heap.size W wB := (bdrewN hB5 1).trans (SB.mono hB5.size)
    have LB : LawsAt W g8 g9 p q r jv mv wB := ⟨row_two (bkeep (w := wB) (W := w5.drew) SB hp5), row_two (bkeep (w := wB) (W := w5.drew) SB hq5), row_two (bkeep (w := wB) (W := w5.drew) SB hr5), B8, B9, BB⟩
    clear B8 B9 BB
    clear hp5 hq5 hr5 hqp hqq hb1 SB
    clear HA hSd
    go_simp
    have ex1 : leqL p jv = true := by rw [HJ.out, joinPair]; exact (leq_join2 p q).1
    have ex2 : leqL q jv = true := by rw [HJ.out, joinPair]; exact (leq_join2 p q).2
    have ex3 : leqL mv p = true := by rw [HM.out]; exact (met_leq p q).1
    have ex4 : leqL mv q = true := by rw [HM.out]; exact (met_leq p q).2
    go_upto_region 4 with fail
    go_cut [50] (fun s50 wx => s50 = .bool false ∧ LawsAt W g8 g9 p q r jv mv wx)
    case first =>
      by_cases hp16 : (p.1 : Int) < 16
      · by_cases hq16 : (q.1 : Int) < 16
        · skip
          have f0a0 := labRow0 LB.a
          have f0a1 := labRow1 LB.a
          have f0b0 := labRow0 LB.b
          have f0b1 := labRow1 LB.b
          have f0j0 := labRow0 LB.j
          have f0j1 := labRow1 LB.j
          have f0m0 := labRow0 LB.m
          have f0m1 := labRow1 LB.m
          go_wp2_with fail
          go_at_call 16
          refine (labLeq_any p jv hp hjo _).mono ?_
          rintro e wc0 ⟨he, hbn0⟩; subst he
          rw [ex1]
          have LB0 := LB.keep hbn0
          clear f0a0 f0a1 f0b0 f0b1 f0j0 f0j1 f0m0 f0m1
          have f1a0 := labRow0 LB0.a
          have f1a1 := labRow1 LB0.a
          have f1b0 := labRow0 LB0.b
          have f1b1 := labRow1 LB0.b
          have f1j0 := labRow0 LB0.j
          have f1j1 := labRow1 LB0.j
          have f1m0 := labRow0 LB0.m
          have f1m1 := labRow1 LB0.m
          go_wp2_with fail
          go_at_call 16
          refine (labLeq_any q jv hq hjo _).mono ?_
          rintro e wc1 ⟨he, hbn1⟩; subst he
          rw [ex2]
          have LB1 := LB0.keep hbn1
          clear f1a0 f1a1 f1b0 f1b1 f1j0 f1j1 f1m0 f1m1
          have f2a0 := labRow0 LB1.a
          have f2a1 := labRow1 LB1.a
          have f2b0 := labRow0 LB1.b
          have f2b1 := labRow1 LB1.b
          have f2j0 := labRow0 LB1.j
          have f2j1 := labRow1 LB1.j
          have f2m0 := labRow0 LB1.m
          have f2m1 := labRow1 LB1.m
          go_wp2_with fail
          go_at_call 16
          refine (labLeq_any mv p hme hp _).mono ?_
          rintro e wc2 ⟨he, hbn2⟩; subst he
          rw [ex3]
          have LB2 := LB1.keep hbn2
          clear f2a0 f2a1 f2b0 f2b1 f2j0 f2j1 f2m0 f2m1
          have f3a0 := labRow0 LB2.a
          have f3a1 := labRow1 LB2.a
          have f3b0 := labRow0 LB2.b
          have f3b1 := labRow1 LB2.b
          have f3j0 := labRow0 LB2.j
          have f3j1 := labRow1 LB2.j
          have f3m0 := labRow0 LB2.m
          have f3m1 := labRow1 LB2.m
          go_wp2_with fail
          go_at_call 16
          refine (labLeq_any mv q hme hq _).mono ?_
          rintro e wc3 ⟨he, hbn3⟩; subst he
          rw [ex4]
          have LB3 := LB2.keep hbn3
          clear f3a0 f3a1 f3b0 f3b1 f3j0 f3j1 f3m0 f3m1
          have f4a0 := labRow0 LB3.a
          have f4a1 := labRow1 LB3.a
          have f4b0 := labRow0 LB3.b
          have f4b1 := labRow1 LB3.b
          have f4j0 := labRow0 LB3.j
          have f4j1 := labRow1 LB3.j
          have f4m0 := labRow0 LB3.m
          have f4m1 := labRow1 LB3.m
          go_wp2_with fail
          go_meet
          exact ⟨rfl, LB3⟩
        · skip
          have f0a0 := labRow0 LB.a
          have f0a1 := labRow1 LB.a
          have f0b0 := labRow0 LB.b
          have f0b1 := labRow1 LB.b
          have f0j0 := labRow0 LB.j
          have f0j1 := labRow1 LB.j
          have f0m0 := labRow0 LB.m
          have f0m1 := labRow1 LB.m
          go_wp2_with fail
          go_at_call 16
          refine (labLeq_any p jv hp hjo _).mono ?_
          rintro e wc0 ⟨he, hbn0⟩; subst he
          rw [ex1]
          have LB0 := LB.keep hbn0
          clear f0a0 f0a1 f0b0 f0b1 f0j0 f0j1 f0m0 f0m1
          have f1a0 := labRow0 LB0.a
          have f1a1 := labRow1 LB0.a
          have f1b0 := labRow0 LB0.b
          have f1b1 := labRow1 LB0.b
          have f1j0 := labRow0 LB0.j
          have f1j1 := labRow1 LB0.j
          have f1m0 := labRow0 LB0.m
          have f1m1 := labRow1 LB0.m
          go_wp2_with fail
          go_at_call 16
          refine (labLeq_any q jv hq hjo _).mono ?_
          rintro e wc1 ⟨he, hbn1⟩; subst he
          rw [ex2]
          have LB1 := LB0.keep hbn1
          clear f1a0 f1a1 f1b0 f1b1 f1j0 f1j1 f1m0 f1m1
          have f2a0 := labRow0 LB1.a
          have f2a1 := labRow1 LB1.a
          have f2b0 := labRow0 LB1.b
          have f2b1 := labRow1 LB1.b
          have f2j0 := labRow0 LB1.j
          have f2j1 := labRow1 LB1.j
          have f2m0 := labRow0 LB1.m
          have f2m1 := labRow1 LB1.m
          go_wp2_with fail
          go_at_call 16
          refine (labLeq_any mv p hme hp _).mono ?_
          rintro e wc2 ⟨he, hbn2⟩; subst he
          rw [ex3]
          have LB2 := LB1.keep hbn2
          clear f2a0 f2a1 f2b0 f2b1 f2j0 f2j1 f2m0 f2m1
          have f3a0 := labRow0 LB2.a
          have f3a1 := labRow1 LB2.a
          have f3b0 := labRow0 LB2.b
          have f3b1 := labRow1 LB2.b
          have f3j0 := labRow0 LB2.j
          have f3j1 := labRow1 LB2.j
          have f3m0 := labRow0 LB2.m
          have f3m1 := labRow1 LB2.m
          go_wp2_with fail
          go_meet
          exact ⟨rfl, LB2⟩
      · by_cases hq16 : (q.1 : Int) < 16
        · skip
          have f0a0 := labRow0 LB.a
          have f0a1 := labRow1 LB.a
          have f0b0 := labRow0 LB.b
          have f0b1 := labRow1 LB.b
          have f0j0 := labRow0 LB.j
          have f0j1 := labRow1 LB.j
          have f0m0 := labRow0 LB.m
          have f0m1 := labRow1 LB.m
          go_wp2_with fail
          go_at_call 16
          refine (labLeq_any p jv hp hjo _).mono ?_
          rintro e wc0 ⟨he, hbn0⟩; subst he
          rw [ex1]
          have LB0 := LB.keep hbn0
          clear f0a0 f0a1 f0b0 f0b1 f0j0 f0j1 f0m0 f0m1
          have f1a0 := labRow0 LB0.a
          have f1a1 := labRow1 LB0.a
          have f1b0 := labRow0 LB0.b
          have f1b1 := labRow1 LB0.b
          have f1j0 := labRow0 LB0.j
          have f1j1 := labRow1 LB0.j
          have f1m0 := labRow0 LB0.m
          have f1m1 := labRow1 LB0.m
          go_wp2_with fail
          go_at_call 16
          refine (labLeq_any q jv hq hjo _).mono ?_
          rintro e wc1 ⟨he, hbn1⟩; subst he
          rw [ex2]
          have LB1 := LB0.keep hbn1
          clear f1a0 f1a1 f1b0 f1b1 f1j0 f1j1 f1m0 f1m1
          have f2a0 := labRow0 LB1.a
          have f2a1 := labRow1 LB1.a
          have f2b0 := labRow0 LB1.b
          have f2b1 := labRow1 LB1.b
          have f2j0 := labRow0 LB1.j
          have f2j1 := labRow1 LB1.j
          have f2m0 := labRow0 LB1.m
          have f2m1 := labRow1 LB1.m
          go_wp2_with fail
          go_at_call 16
          refine (labLeq_any mv q hme hq _).mono ?_
          rintro e wc2 ⟨he, hbn2⟩; subst he
          rw [ex4]
          have LB2 := LB1.keep hbn2
          clear f2a0 f2a1 f2b0 f2b1 f2j0 f2j1 f2m0 f2m1
          have f3a0 := labRow0 LB2.a
          have f3a1 := labRow1 LB2.a
          have f3b0 := labRow0 LB2.b
          have f3b1 := labRow1 LB2.b
          have f3j0 := labRow0 LB2.j
          have f3j1 := labRow1 LB2.j
          have f3m0 := labRow0 LB2.m
          have f3m1 := labRow1 LB2.m
          go_wp2_with fail
          go_meet
          exact ⟨rfl, LB2⟩
        · skip
          have f0a0 := labRow0 LB.a
          have f0a1 := labRow1 LB.a
          have f0b0 := labRow0 LB.b
          have f0b1 := labRow1 LB.b
          have f0j0 := labRow0 LB.j
          have f0j1 := labRow1 LB.j
          have f0m0 := labRow0 LB.m
          have f0m1 := labRow1 LB.m
          go_wp2_with fail
          go_at_call 16
          refine (labLeq_any p jv hp hjo _).mono ?_
          rintro e wc0 ⟨he, hbn0⟩; subst he
          rw [ex1]
          have LB0 := LB.keep hbn0
          clear f0a0 f0a1 f0b0 f0b1 f0j0 f0j1 f0m0 f0m1
          have f1a0 := labRow0 LB0.a
          have f1a1 := labRow1 LB0.a
          have f1b0 := labRow0 LB0.b
          have f1b1 := labRow1 LB0.b
          have f1j0 := labRow0 LB0.j
          have f1j1 := labRow1 LB0.j
          have f1m0 := labRow0 LB0.m
          have f1m1 := labRow1 LB0.m
          go_wp2_with fail
          go_at_call 16
          refine (labLeq_any q jv hq hjo _).mono ?_
          rintro e wc1 ⟨he, hbn1⟩; subst he
          rw [ex2]
          have LB1 := LB0.keep hbn1
          clear f1a0 f1a1 f1b0 f1b1 f1j0 f1j1 f1m0 f1m1
          have f2a0 := labRow0 LB1.a
          have f2a1 := labRow1 LB1.a
          have f2b0 := labRow0 LB1.b
          have f2b1 := labRow1 LB1.b
          have f2j0 := labRow0 LB1.j
          have f2j1 := labRow1 LB1.j
          have f2m0 := labRow0 LB1.m
          have f2m1 := labRow1 LB1.m
          go_wp2_with fail
          go_meet
          exact ⟨rfl, LB1⟩
    case rest =>
      obtain ⟨rfl, LC⟩ := hcut
      obtain ⟨wx, hwx⟩ : ∃ wx, wx = wc := ⟨_, rfl⟩
      subst hwx
      clear LB ex1 ex2 ex3 ex4
      go_upto_region 6 with fail
      go_cut [81] (fun s81 wy => s81 = .bool false ∧ LawsAt W g8 g9 p q r jv mv wy)
      case first =>
        have LC0 := LC
        have hp0 := fun (w' : World) (hb : Below wx.heap.size wx.drew w') => labRow0 (LC.keep (Below.trans (bdrewN (Below.refl wx.heap.size wx) 1) hb)).a
        have hp1 := fun (w' : World) (hb : Below wx.heap.size wx.drew w') => labRow1 (LC.keep (Below.trans (bdrewN (Below.refl wx.heap.size wx) 1) hb)).a
        have hq0 := fun (w' : World) (hb : Below wx.heap.size wx.drew w') => labRow0 (LC.keep (Below.trans (bdrewN (Below.refl wx.heap.size wx) 1) hb)).b
        have hq1 := fun (w' : World) (hb : Below wx.heap.size wx.drew w') => labRow1 (LC.keep (Below.trans (bdrewN (Below.refl wx.heap.size wx) 1) hb)).b
        have hr0 := fun (w' : World) (hb : Below wx.heap.size wx.drew w') => labRow0 (LC.keep (Below.trans (bdrewN (Below.refl wx.heap.size wx) 1) hb)).c
        have hr1 := fun (w' : World) (hb : Below wx.heap.size wx.drew w') => labRow1 (LC.keep (Below.trans (bdrewN (Below.refl wx.heap.size wx) 1) hb)).c
        have hjv0 := fun (w' : World) (hb : Below wx.heap.size wx.drew w') => labRow0 (LC.keep (Below.trans (bdrewN (Below.refl wx.heap.size wx) 1) hb)).j
        have hjv1 := fun (w' : World) (hb : Below wx.heap.size wx.drew w') => labRow1 (LC.keep (Below.trans (bdrewN (Below.refl wx.heap.size wx) 1) hb)).j
        have hmv0 := fun (w' : World) (hb : Below wx.heap.size wx.drew w') => labRow0 (LC.keep (Below.trans (bdrewN (Below.refl wx.heap.size wx) 1) hb)).m
        have hmv1 := fun (w' : World) (hb : Below wx.heap.size wx.drew w') => labRow1 (LC.keep (Below.trans (bdrewN (Below.refl wx.heap.size wx) 1) hb)).m
        have hSd : Below wx.heap.size wx.drew wx.drew := Below.refl _ _
        have hj3 : leqL jv r = (leqL p r && leqL q r) := by rw [HJ.out, joinPair]; exact leq_joined p q r
        refine wp_region_held (S := fun w' => Below wx.heap.size wx.drew w') (by kernel_rfl) ?_
        change wpAnyH _ _ _ _ _ _ _ _ (World.drew _)
        obtain ⟨b2, hl2⟩ : ∃ b, leqL q r = b := ⟨_, rfl⟩
        obtain ⟨b5, hl5⟩ : ∃ b, leqL r q = b := ⟨_, rfl⟩
        cases hl1 : leqL p r
        · skip
          cases hl4 : leqL r p
          · skip
            refine takeH 0 (.agg #[.int .u8 p.1, .int .u16 p.2]) (some 51) rfl rfl (by kernel_rfl) (by kernel_rfl) (by kernel_rfl) (fun _ _ _ h => h) (.inl ⟨by kernel_rfl, fun w hw => by have hc0 := hp0 w hw; have hc1 := hp1 w hw; go_simp⟩) hSd ?_
            refine takeH 1 (.agg #[.int .u8 r.1, .int .u16 r.2]) (some 52) rfl rfl (by kernel_rfl) (by kernel_rfl) (by kernel_rfl) (fun _ _ _ h => h) (.inl ⟨by kernel_rfl, fun w hw => by have hc0 := hr0 w hw; have hc1 := hr1 w hw; go_simp⟩) hSd ?_
            refine callH 2 rfl (by kernel_rfl) (by kernel_rfl) (some 53) rfl 16 #[.agg #[.int .u8 p.1, .int .u16 p.2], .agg #[.int .u8 r.1, .int .u16 r.2]] ?hrun ((labLeq_any p r hp hr _).mono ?_)
            case hrun => go_simp
            rintro e wn0 ⟨he, hbn0⟩
            rw [hl1] at he
            have hSn0 : Below wx.heap.size wx.drew wn0 := hSd.trans (hbn0.mono hSd.size)
            refine ⟨_, he, hSn0, ?_⟩
            refine takeH 3 (.bool false) (some 54) rfl rfl (by kernel_rfl) (by kernel_rfl) (by kernel_rfl) (fun _ _ _ h => h) (.inl ⟨by kernel_rfl, fun w _ => by go_simp⟩) hSn0 ?_
            refine takeH 4 (undef) (some 55) rfl rfl (by kernel_rfl) (by kernel_rfl) (by kernel_rfl) (fun _ _ _ h => h) (.inr ⟨by kernel_rfl, rfl⟩) hSn0 ?_
            refine takeH 5 (undef) (some 56) rfl rfl (by kernel_rfl) (by kernel_rfl) (by kernel_rfl) (fun _ _ _ h => h) (.inr ⟨by kernel_rfl, rfl⟩) hSn0 ?_
            refine takeH 7 (undef) (some 58) rfl rfl (by kernel_rfl) (by kernel_rfl) (by kernel_rfl) (fun _ _ _ h => h) (.inr ⟨by kernel_rfl, rfl⟩) hSn0 ?_
            refine takeH 8 (undef) (some 59) rfl rfl (by kernel_rfl) (by kernel_rfl) (by kernel_rfl) (fun _ _ _ h => h) (.inr ⟨by kernel_rfl, rfl⟩) hSn0 ?_
            refine skipH 6 rfl (by kernel_rfl) (by kernel_rfl) (some 57) rfl hSn0 ?_
            refine skipH 9 rfl (by kernel_rfl) (by kernel_rfl) (some 60) rfl hSn0 ?_
            refine takeH 10 (undef) (some 61) rfl rfl (by kernel_rfl) (by kernel_rfl) (by kernel_rfl) (fun _ _ _ h => h) (.inr ⟨by kernel_rfl, rfl⟩) hSn0 ?_
            refine takeH 11 (.bool false) (some 62) rfl rfl (by kernel_rfl) (by kernel_rfl) (by kernel_rfl) (fun _ _ _ h => h) (.inl ⟨by kernel_rfl, fun w _ => by go_simp⟩) hSn0 ?_
            refine takeH 12 (.bool false) (some 63) rfl rfl (by kernel_rfl) (by kernel_rfl) (by kernel_rfl) (fun _ _ _ h => h) (.inl ⟨by kernel_rfl, fun w _ => by go_simp⟩) hSn0 ?_
            refine takeH 13 (.agg #[.int .u8 r.1, .int .u16 r.2]) (some 64) rfl rfl (by kernel_rfl) (by kernel_rfl) (by kernel_rfl) (fun _ _ _ h => h) (.inl ⟨by kernel_rfl, fun w hw => by have hc0 := hr0 w hw; have hc1 := hr1 w hw; go_simp⟩) hSn0 ?_
            refine takeH 14 (.agg #[.int .u8 p.1, .int .u16 p.2]) (some 65) rfl rfl (by kernel_rfl) (by kernel_rfl) (by kernel_rfl) (fun _ _ _ h => h) (.inl ⟨by kernel_rfl, fun w hw => by have hc0 := hp0 w hw; have hc1 := hp1 w hw; go_simp⟩) hSn0 ?_
            refine callH 15 rfl (by kernel_rfl) (by kernel_rfl) (some 66) rfl 16 #[.agg #[.int .u8 r.1, .int .u16 r.2], .agg #[.int .u8 p.1, .int .u16 p.2]] ?hrun ((labLeq_any r p hr hp _).mono ?_)
            case hrun => go_simp
            rintro e wn1 ⟨he, hbn1⟩
            rw [hl4] at he
            have hSn1 : Below wx.heap.size wx.drew wn1 := hSn0.trans (hbn1.mono hSn0.size)
            refine ⟨_, he, hSn1, ?_⟩
            refine takeH 16 (.bool false) (some 67) rfl rfl (by kernel_rfl) (by kernel_rfl) (by kernel_rfl) (fun _ _ _ h => h) (.inl ⟨by kernel_rfl, fun w _ => by go_simp⟩) hSn1 ?_
            refine takeH 17 (undef) (some 68) rfl rfl (by kernel_rfl) (by kernel_rfl) (by kernel_rfl) (fun _ _ _ h => h) (.inr ⟨by kernel_rfl, rfl⟩) hSn1 ?_
            refine takeH 18 (undef) (some 69) rfl rfl (by kernel_rfl) (by kernel_rfl) (by kernel_rfl) (fun _ _ _ h => h) (.inr ⟨by kernel_rfl, rfl⟩) hSn1 ?_
            refine takeH 19 (undef) (some 70) rfl rfl (by kernel_rfl) (by kernel_rfl) (by kernel_rfl) (fun _ _ _ h => h) (.inr ⟨by kernel_rfl, rfl⟩) hSn1 ?_
            refine takeH 20 (.bool false) (some 71) rfl rfl (by kernel_rfl) (by kernel_rfl) (by kernel_rfl) (fun _ _ _ h => h) (.inl ⟨by kernel_rfl, fun w _ => by go_simp⟩) hSn1 ?_
            refine takeH 21 (.bool false) (some 72) rfl rfl (by kernel_rfl) (by kernel_rfl) (by kernel_rfl) (fun _ _ _ h => h) (.inl ⟨by kernel_rfl, fun w _ => by go_simp⟩) hSn1 ?_
            refine takeH 22 (undef) (some 73) rfl rfl (by kernel_rfl) (by kernel_rfl) (by kernel_rfl) (fun _ _ _ h => h) (.inr ⟨by kernel_rfl, rfl⟩) hSn1 ?_
            refine takeH 23 (undef) (some 74) rfl rfl (by kernel_rfl) (by kernel_rfl) (by kernel_rfl) (fun _ _ _ h => h) (.inr ⟨by kernel_rfl, rfl⟩) hSn1 ?_
            refine takeH 25 (undef) (some 76) rfl rfl (by kernel_rfl) (by kernel_rfl) (by kernel_rfl) (fun _ _ _ h => h) (.inr ⟨by kernel_rfl, rfl⟩) hSn1 ?_
            refine takeH 26 (undef) (some 77) rfl rfl (by kernel_rfl) (by kernel_rfl) (by kernel_rfl) (fun _ _ _ h => h) (.inr ⟨by kernel_rfl, rfl⟩) hSn1 ?_
            refine skipH 24 rfl (by kernel_rfl) (by kernel_rfl) (some 75) rfl hSn1 ?_
            refine skipH 27 rfl (by kernel_rfl) (by kernel_rfl) (some 78) rfl hSn1 ?_
            refine takeH 28 (undef) (some 79) rfl rfl (by kernel_rfl) (by kernel_rfl) (by kernel_rfl) (fun _ _ _ h => h) (.inr ⟨by kernel_rfl, rfl⟩) hSn1 ?_
            refine takeH 29 (.bool false) (some 80) rfl rfl (by kernel_rfl) (by kernel_rfl) (by kernel_rfl) (fun _ _ _ h => h) (.inl ⟨by kernel_rfl, fun w _ => by go_simp⟩) hSn1 ?_
            refine takeH 30 (.bool false) (some 81) rfl rfl (by kernel_rfl) (by kernel_rfl) (by kernel_rfl) (fun _ _ _ h => h) (.inl ⟨by kernel_rfl, fun w _ => by go_simp⟩) hSn1 ?_
            refine wpAnyH_done (by kernel_rfl) ?_ _
            go_simp
            go_wp2_with fail
            go_meet
            exact ⟨rfl, (LC0.keep (Below.trans (bdrewN (Below.refl _ _) 1) hSn1))⟩
          · by_cases hr16 : (r.1 : Int) < 16
            · skip
              have hl6 : leqL r mv = b5 := by rw [HM.out, leq_met p q r (by omega), hl4, hl5, Bool.true_and]
              refine takeH 0 (.agg #[.int .u8 p.1, .int .u16 p.2]) (some 51) rfl rfl (by kernel_rfl) (by kernel_rfl) (by kernel_rfl) (fun _ _ _ h => h) (.inl ⟨by kernel_rfl, fun w hw => by have hc0 := hp0 w hw; have hc1 := hp1 w hw; go_simp⟩) hSd ?_
              refine takeH 1 (.agg #[.int .u8 r.1, .int .u16 r.2]) (some 52) rfl rfl (by kernel_rfl) (by kernel_rfl) (by kernel_rfl) (fun _ _ _ h => h) (.inl ⟨by kernel_rfl, fun w hw => by have hc0 := hr0 w hw; have hc1 := hr1 w hw; go_simp⟩) hSd ?_
              refine callH 2 rfl (by kernel_rfl) (by kernel_rfl) (some 53) rfl 16 #[.agg #[.int .u8 p.1, .int .u16 p.2], .agg #[.int .u8 r.1, .int .u16 r.2]] ?hrun ((labLeq_any p r hp hr _).mono ?_)
              case hrun => go_simp
              rintro e wn0 ⟨he, hbn0⟩
              rw [hl1] at he
              have hSn0 : Below wx.heap.size wx.drew wn0 := hSd.trans (hbn0.mono hSd.size)
              refine ⟨_, he, hSn0, ?_⟩
              refine takeH 3 (.bool false) (some 54) rfl rfl (by kernel_rfl) (by kernel_rfl) (by kernel_rfl) (fun _ _ _ h => h) (.inl ⟨by kernel_rfl, fun w _ => by go_simp⟩) hSn0 ?_
              refine takeH 4 (undef) (some 55) rfl rfl (by kernel_rfl) (by kernel_rfl) (by kernel_rfl) (fun _ _ _ h => h) (.inr ⟨by kernel_rfl, rfl⟩) hSn0 ?_
              refine takeH 5 (undef) (some 56) rfl rfl (by kernel_rfl) (by kernel_rfl) (by kernel_rfl) (fun _ _ _ h => h) (.inr ⟨by kernel_rfl, rfl⟩) hSn0 ?_
              refine takeH 7 (undef) (some 58) rfl rfl (by kernel_rfl) (by kernel_rfl) (by kernel_rfl) (fun _ _ _ h => h) (.inr ⟨by kernel_rfl, rfl⟩) hSn0 ?_
              refine takeH 8 (undef) (some 59) rfl rfl (by kernel_rfl) (by kernel_rfl) (by kernel_rfl) (fun _ _ _ h => h) (.inr ⟨by kernel_rfl, rfl⟩) hSn0 ?_
              refine skipH 6 rfl (by kernel_rfl) (by kernel_rfl) (some 57) rfl hSn0 ?_
              refine skipH 9 rfl (by kernel_rfl) (by kernel_rfl) (some 60) rfl hSn0 ?_
              refine takeH 10 (undef) (some 61) rfl rfl (by kernel_rfl) (by kernel_rfl) (by kernel_rfl) (fun _ _ _ h => h) (.inr ⟨by kernel_rfl, rfl⟩) hSn0 ?_
              refine takeH 11 (.bool false) (some 62) rfl rfl (by kernel_rfl) (by kernel_rfl) (by kernel_rfl) (fun _ _ _ h => h) (.inl ⟨by kernel_rfl, fun w _ => by go_simp⟩) hSn0 ?_
              refine takeH 12 (.bool false) (some 63) rfl rfl (by kernel_rfl) (by kernel_rfl) (by kernel_rfl) (fun _ _ _ h => h) (.inl ⟨by kernel_rfl, fun w _ => by go_simp⟩) hSn0 ?_
              refine takeH 13 (.agg #[.int .u8 r.1, .int .u16 r.2]) (some 64) rfl rfl (by kernel_rfl) (by kernel_rfl) (by kernel_rfl) (fun _ _ _ h => h) (.inl ⟨by kernel_rfl, fun w hw => by have hc0 := hr0 w hw; have hc1 := hr1 w hw; go_simp⟩) hSn0 ?_
              refine takeH 14 (.agg #[.int .u8 p.1, .int .u16 p.2]) (some 65) rfl rfl (by kernel_rfl) (by kernel_rfl) (by kernel_rfl) (fun _ _ _ h => h) (.inl ⟨by kernel_rfl, fun w hw => by have hc0 := hp0 w hw; have hc1 := hp1 w hw; go_simp⟩) hSn0 ?_
              refine callH 15 rfl (by kernel_rfl) (by kernel_rfl) (some 66) rfl 16 #[.agg #[.int .u8 r.1, .int .u16 r.2], .agg #[.int .u8 p.1, .int .u16 p.2]] ?hrun ((labLeq_any r p hr hp _).mono ?_)
              case hrun => go_simp
              rintro e wn1 ⟨he, hbn1⟩
              rw [hl4] at he
              have hSn1 : Below wx.heap.size wx.drew wn1 := hSn0.trans (hbn1.mono hSn0.size)
              refine ⟨_, he, hSn1, ?_⟩
              refine takeH 16 (.bool true) (some 67) rfl rfl (by kernel_rfl) (by kernel_rfl) (by kernel_rfl) (fun _ _ _ h => h) (.inl ⟨by kernel_rfl, fun w _ => by go_simp⟩) hSn1 ?_
              refine takeH 17 (.pointer (some ⟨W.heap.size + 1 + 1, 0, none⟩)) (some 68) rfl rfl (by kernel_rfl) (by kernel_rfl) (by kernel_rfl) (fun _ _ _ h => h) (.inl ⟨by kernel_rfl, fun w _ => by go_simp⟩) hSn1 ?_
              refine takeH 18 (.int .u8 r.1) (some 69) rfl rfl (by kernel_rfl) (by kernel_rfl) (by kernel_rfl) (fun _ _ _ h => h) (.inl ⟨by kernel_rfl, fun w hw => by have hc0 := hr0 w hw; go_simp⟩) hSn1 ?_
              refine takeH 19 (.bool true) (some 70) rfl rfl (by kernel_rfl) (by kernel_rfl) (by kernel_rfl) (fun _ _ _ h => h) (.inl ⟨by kernel_rfl, fun w _ => by go_simp⟩) hSn1 ?_
              refine takeH 20 (.bool true) (some 71) rfl rfl (by kernel_rfl) (by kernel_rfl) (by kernel_rfl) (fun _ _ _ h => h) (.inl ⟨by kernel_rfl, fun w _ => by go_simp⟩) hSn1 ?_
              refine takeH 21 (.bool true) (some 72) rfl rfl (by kernel_rfl) (by kernel_rfl) (by kernel_rfl) (fun _ _ _ h => h) (.inl ⟨by kernel_rfl, fun w _ => by go_simp⟩) hSn1 ?_
              refine takeH 22 (.agg #[.int .u8 r.1, .int .u16 r.2]) (some 73) rfl rfl (by kernel_rfl) (by kernel_rfl) (by kernel_rfl) (fun _ _ _ h => h) (.inl ⟨by kernel_rfl, fun w hw => by have hc0 := hr0 w hw; have hc1 := hr1 w hw; go_simp⟩) hSn1 ?_
              refine takeH 23 (.agg #[.int .u8 q.1, .int .u16 q.2]) (some 74) rfl rfl (by kernel_rfl) (by kernel_rfl) (by kernel_rfl) (fun _ _ _ h => h) (.inl ⟨by kernel_rfl, fun w hw => by have hc0 := hq0 w hw; have hc1 := hq1 w hw; go_simp⟩) hSn1 ?_
              refine takeH 25 (.agg #[.int .u8 r.1, .int .u16 r.2]) (some 76) rfl rfl (by kernel_rfl) (by kernel_rfl) (by kernel_rfl) (fun _ _ _ h => h) (.inl ⟨by kernel_rfl, fun w hw => by have hc0 := hr0 w hw; have hc1 := hr1 w hw; go_simp⟩) hSn1 ?_
              refine takeH 26 (.agg #[.int .u8 mv.1, .int .u16 mv.2]) (some 77) rfl rfl (by kernel_rfl) (by kernel_rfl) (by kernel_rfl) (fun _ _ _ h => h) (.inl ⟨by kernel_rfl, fun w hw => by have hc0 := hmv0 w hw; have hc1 := hmv1 w hw; go_simp⟩) hSn1 ?_
              refine callH 24 rfl (by kernel_rfl) (by kernel_rfl) (some 75) rfl 16 #[.agg #[.int .u8 r.1, .int .u16 r.2], .agg #[.int .u8 q.1, .int .u16 q.2]] ?hrun ((labLeq_any r q hr hq _).mono ?_)
              case hrun => go_simp
              rintro e wn2 ⟨he, hbn2⟩
              rw [hl5] at he
              have hSn2 : Below wx.heap.size wx.drew wn2 := hSn1.trans (hbn2.mono hSn1.size)
              refine ⟨_, he, hSn2, ?_⟩
              refine callH 27 rfl (by kernel_rfl) (by kernel_rfl) (some 78) rfl 16 #[.agg #[.int .u8 r.1, .int .u16 r.2], .agg #[.int .u8 mv.1, .int .u16 mv.2]] ?hrun ((labLeq_any r mv hr hme _).mono ?_)
              case hrun => go_simp
              rintro e wn3 ⟨he, hbn3⟩
              rw [hl6] at he
              have hSn3 : Below wx.heap.size wx.drew wn3 := hSn2.trans (hbn3.mono hSn2.size)
              refine ⟨_, he, hSn3, ?_⟩
              refine takeH 28 (.bool false) (some 79) rfl rfl (by kernel_rfl) (by kernel_rfl) (by kernel_rfl) (fun _ _ _ h => h) (.inl ⟨by kernel_rfl, fun w _ => by go_simp⟩) hSn3 ?_
              refine takeH 29 (.bool false) (some 80) rfl rfl (by kernel_rfl) (by kernel_rfl) (by kernel_rfl) (fun _ _ _ h => h) (.inl ⟨by kernel_rfl, fun w _ => by go_simp⟩) hSn3 ?_
              refine takeH 30 (.bool false) (some 81) rfl rfl (by kernel_rfl) (by kernel_rfl) (by kernel_rfl) (fun _ _ _ h => h) (.inl ⟨by kernel_rfl, fun w _ => by go_simp⟩) hSn3 ?_
              refine wpAnyH_done (by kernel_rfl) ?_ _
              go_simp
              go_wp2_with fail
              go_meet
              exact ⟨rfl, (LC0.keep (Below.trans (bdrewN (Below.refl _ _) 1) hSn3))⟩
            · skip
              refine takeH 0 (.agg #[.int .u8 p.1, .int .u16 p.2]) (some 51) rfl rfl (by kernel_rfl) (by kernel_rfl) (by kernel_rfl) (fun _ _ _ h => h) (.inl ⟨by kernel_rfl, fun w hw => by have hc0 := hp0 w hw; have hc1 := hp1 w hw; go_simp⟩) hSd ?_
              refine takeH 1 (.agg #[.int .u8 r.1, .int .u16 r.2]) (some 52) rfl rfl (by kernel_rfl) (by kernel_rfl) (by kernel_rfl) (fun _ _ _ h => h) (.inl ⟨by kernel_rfl, fun w hw => by have hc0 := hr0 w hw; have hc1 := hr1 w hw; go_simp⟩) hSd ?_
              refine callH 2 rfl (by kernel_rfl) (by kernel_rfl) (some 53) rfl 16 #[.agg #[.int .u8 p.1, .int .u16 p.2], .agg #[.int .u8 r.1, .int .u16 r.2]] ?hrun ((labLeq_any p r hp hr _).mono ?_)
              case hrun => go_simp
              rintro e wn0 ⟨he, hbn0⟩
              rw [hl1] at he
              have hSn0 : Below wx.heap.size wx.drew wn0 := hSd.trans (hbn0.mono hSd.size)
              refine ⟨_, he, hSn0, ?_⟩
              refine takeH 3 (.bool false) (some 54) rfl rfl (by kernel_rfl) (by kernel_rfl) (by kernel_rfl) (fun _ _ _ h => h) (.inl ⟨by kernel_rfl, fun w _ => by go_simp⟩) hSn0 ?_
              refine takeH 4 (undef) (some 55) rfl rfl (by kernel_rfl) (by kernel_rfl) (by kernel_rfl) (fun _ _ _ h => h) (.inr ⟨by kernel_rfl, rfl⟩) hSn0 ?_
              refine takeH 5 (undef) (some 56) rfl rfl (by kernel_rfl) (by kernel_rfl) (by kernel_rfl) (fun _ _ _ h => h) (.inr ⟨by kernel_rfl, rfl⟩) hSn0 ?_
              refine takeH 7 (undef) (some 58) rfl rfl (by kernel_rfl) (by kernel_rfl) (by kernel_rfl) (fun _ _ _ h => h) (.inr ⟨by kernel_rfl, rfl⟩) hSn0 ?_
              refine takeH 8 (undef) (some 59) rfl rfl (by kernel_rfl) (by kernel_rfl) (by kernel_rfl) (fun _ _ _ h => h) (.inr ⟨by kernel_rfl, rfl⟩) hSn0 ?_
              refine skipH 6 rfl (by kernel_rfl) (by kernel_rfl) (some 57) rfl hSn0 ?_
              refine skipH 9 rfl (by kernel_rfl) (by kernel_rfl) (some 60) rfl hSn0 ?_
              refine takeH 10 (undef) (some 61) rfl rfl (by kernel_rfl) (by kernel_rfl) (by kernel_rfl) (fun _ _ _ h => h) (.inr ⟨by kernel_rfl, rfl⟩) hSn0 ?_
              refine takeH 11 (.bool false) (some 62) rfl rfl (by kernel_rfl) (by kernel_rfl) (by kernel_rfl) (fun _ _ _ h => h) (.inl ⟨by kernel_rfl, fun w _ => by go_simp⟩) hSn0 ?_
              refine takeH 12 (.bool false) (some 63) rfl rfl (by kernel_rfl) (by kernel_rfl) (by kernel_rfl) (fun _ _ _ h => h) (.inl ⟨by kernel_rfl, fun w _ => by go_simp⟩) hSn0 ?_
              refine takeH 13 (.agg #[.int .u8 r.1, .int .u16 r.2]) (some 64) rfl rfl (by kernel_rfl) (by kernel_rfl) (by kernel_rfl) (fun _ _ _ h => h) (.inl ⟨by kernel_rfl, fun w hw => by have hc0 := hr0 w hw; have hc1 := hr1 w hw; go_simp⟩) hSn0 ?_
              refine takeH 14 (.agg #[.int .u8 p.1, .int .u16 p.2]) (some 65) rfl rfl (by kernel_rfl) (by kernel_rfl) (by kernel_rfl) (fun _ _ _ h => h) (.inl ⟨by kernel_rfl, fun w hw => by have hc0 := hp0 w hw; have hc1 := hp1 w hw; go_simp⟩) hSn0 ?_
              refine callH 15 rfl (by kernel_rfl) (by kernel_rfl) (some 66) rfl 16 #[.agg #[.int .u8 r.1, .int .u16 r.2], .agg #[.int .u8 p.1, .int .u16 p.2]] ?hrun ((labLeq_any r p hr hp _).mono ?_)
              case hrun => go_simp
              rintro e wn1 ⟨he, hbn1⟩
              rw [hl4] at he
              have hSn1 : Below wx.heap.size wx.drew wn1 := hSn0.trans (hbn1.mono hSn0.size)
              refine ⟨_, he, hSn1, ?_⟩
              refine takeH 16 (.bool true) (some 67) rfl rfl (by kernel_rfl) (by kernel_rfl) (by kernel_rfl) (fun _ _ _ h => h) (.inl ⟨by kernel_rfl, fun w _ => by go_simp⟩) hSn1 ?_
              refine takeH 17 (.pointer (some ⟨W.heap.size + 1 + 1, 0, none⟩)) (some 68) rfl rfl (by kernel_rfl) (by kernel_rfl) (by kernel_rfl) (fun _ _ _ h => h) (.inl ⟨by kernel_rfl, fun w _ => by go_simp⟩) hSn1 ?_
              refine takeH 18 (.int .u8 r.1) (some 69) rfl rfl (by kernel_rfl) (by kernel_rfl) (by kernel_rfl) (fun _ _ _ h => h) (.inl ⟨by kernel_rfl, fun w hw => by have hc0 := hr0 w hw; go_simp⟩) hSn1 ?_
              refine takeH 19 (.bool false) (some 70) rfl rfl (by kernel_rfl) (by kernel_rfl) (by kernel_rfl) (fun _ _ _ h => h) (.inl ⟨by kernel_rfl, fun w _ => by go_simp⟩) hSn1 ?_
              refine takeH 20 (.bool false) (some 71) rfl rfl (by kernel_rfl) (by kernel_rfl) (by kernel_rfl) (fun _ _ _ h => h) (.inl ⟨by kernel_rfl, fun w _ => by go_simp⟩) hSn1 ?_
              refine takeH 21 (.bool false) (some 72) rfl rfl (by kernel_rfl) (by kernel_rfl) (by kernel_rfl) (fun _ _ _ h => h) (.inl ⟨by kernel_rfl, fun w _ => by go_simp⟩) hSn1 ?_
              refine takeH 22 (undef) (some 73) rfl rfl (by kernel_rfl) (by kernel_rfl) (by kernel_rfl) (fun _ _ _ h => h) (.inr ⟨by kernel_rfl, rfl⟩) hSn1 ?_
              refine takeH 23 (undef) (some 74) rfl rfl (by kernel_rfl) (by kernel_rfl) (by kernel_rfl) (fun _ _ _ h => h) (.inr ⟨by kernel_rfl, rfl⟩) hSn1 ?_
              refine takeH 25 (undef) (some 76) rfl rfl (by kernel_rfl) (by kernel_rfl) (by kernel_rfl) (fun _ _ _ h => h) (.inr ⟨by kernel_rfl, rfl⟩) hSn1 ?_
              refine takeH 26 (undef) (some 77) rfl rfl (by kernel_rfl) (by kernel_rfl) (by kernel_rfl) (fun _ _ _ h => h) (.inr ⟨by kernel_rfl, rfl⟩) hSn1 ?_
              refine skipH 24 rfl (by kernel_rfl) (by kernel_rfl) (some 75) rfl hSn1 ?_
              refine skipH 27 rfl (by kernel_rfl) (by kernel_rfl) (some 78) rfl hSn1 ?_
              refine takeH 28 (undef) (some 79) rfl rfl (by kernel_rfl) (by kernel_rfl) (by kernel_rfl) (fun _ _ _ h => h) (.inr ⟨by kernel_rfl, rfl⟩) hSn1 ?_
              refine takeH 29 (.bool false) (some 80) rfl rfl (by kernel_rfl) (by kernel_rfl) (by kernel_rfl) (fun _ _ _ h => h) (.inl ⟨by kernel_rfl, fun w _ => by go_simp⟩) hSn1 ?_
              refine takeH 30 (.bool false) (some 81) rfl rfl (by kernel_rfl) (by kernel_rfl) (by kernel_rfl) (fun _ _ _ h => h) (.inl ⟨by kernel_rfl, fun w _ => by go_simp⟩) hSn1 ?_
              refine wpAnyH_done (by kernel_rfl) ?_ _
              go_simp
              go_wp2_with fail
              go_meet
              exact ⟨rfl, (LC0.keep (Below.trans (bdrewN (Below.refl _ _) 1) hSn1))⟩
        · skip
          have hl3 : leqL jv r = b2 := by rw [hj3, hl1, hl2, Bool.true_and]
          cases hl4 : leqL r p
          · skip
            refine takeH 0 (.agg #[.int .u8 p.1, .int .u16 p.2]) (some 51) rfl rfl (by kernel_rfl) (by kernel_rfl) (by kernel_rfl) (fun _ _ _ h => h) (.inl ⟨by kernel_rfl, fun w hw => by have hc0 := hp0 w hw; have hc1 := hp1 w hw; go_simp⟩) hSd ?_
            refine takeH 1 (.agg #[.int .u8 r.1, .int .u16 r.2]) (some 52) rfl rfl (by kernel_rfl) (by kernel_rfl) (by kernel_rfl) (fun _ _ _ h => h) (.inl ⟨by kernel_rfl, fun w hw => by have hc0 := hr0 w hw; have hc1 := hr1 w hw; go_simp⟩) hSd ?_
            refine callH 2 rfl (by kernel_rfl) (by kernel_rfl) (some 53) rfl 16 #[.agg #[.int .u8 p.1, .int .u16 p.2], .agg #[.int .u8 r.1, .int .u16 r.2]] ?hrun ((labLeq_any p r hp hr _).mono ?_)
            case hrun => go_simp
            rintro e wn0 ⟨he, hbn0⟩
            rw [hl1] at he
            have hSn0 : Below wx.heap.size wx.drew wn0 := hSd.trans (hbn0.mono hSd.size)
            refine ⟨_, he, hSn0, ?_⟩
            refine takeH 3 (.bool true) (some 54) rfl rfl (by kernel_rfl) (by kernel_rfl) (by kernel_rfl) (fun _ _ _ h => h) (.inl ⟨by kernel_rfl, fun w _ => by go_simp⟩) hSn0 ?_
            refine takeH 4 (.agg #[.int .u8 q.1, .int .u16 q.2]) (some 55) rfl rfl (by kernel_rfl) (by kernel_rfl) (by kernel_rfl) (fun _ _ _ h => h) (.inl ⟨by kernel_rfl, fun w hw => by have hc0 := hq0 w hw; have hc1 := hq1 w hw; go_simp⟩) hSn0 ?_
            refine takeH 5 (.agg #[.int .u8 r.1, .int .u16 r.2]) (some 56) rfl rfl (by kernel_rfl) (by kernel_rfl) (by kernel_rfl) (fun _ _ _ h => h) (.inl ⟨by kernel_rfl, fun w hw => by have hc0 := hr0 w hw; have hc1 := hr1 w hw; go_simp⟩) hSn0 ?_
            refine takeH 7 (.agg #[.int .u8 jv.1, .int .u16 jv.2]) (some 58) rfl rfl (by kernel_rfl) (by kernel_rfl) (by kernel_rfl) (fun _ _ _ h => h) (.inl ⟨by kernel_rfl, fun w hw => by have hc0 := hjv0 w hw; have hc1 := hjv1 w hw; go_simp⟩) hSn0 ?_
            refine takeH 8 (.agg #[.int .u8 r.1, .int .u16 r.2]) (some 59) rfl rfl (by kernel_rfl) (by kernel_rfl) (by kernel_rfl) (fun _ _ _ h => h) (.inl ⟨by kernel_rfl, fun w hw => by have hc0 := hr0 w hw; have hc1 := hr1 w hw; go_simp⟩) hSn0 ?_
            refine callH 6 rfl (by kernel_rfl) (by kernel_rfl) (some 57) rfl 16 #[.agg #[.int .u8 q.1, .int .u16 q.2], .agg #[.int .u8 r.1, .int .u16 r.2]] ?hrun ((labLeq_any q r hq hr _).mono ?_)
            case hrun => go_simp
            rintro e wn1 ⟨he, hbn1⟩
            rw [hl2] at he
            have hSn1 : Below wx.heap.size wx.drew wn1 := hSn0.trans (hbn1.mono hSn0.size)
            refine ⟨_, he, hSn1, ?_⟩
            refine callH 9 rfl (by kernel_rfl) (by kernel_rfl) (some 60) rfl 16 #[.agg #[.int .u8 jv.1, .int .u16 jv.2], .agg #[.int .u8 r.1, .int .u16 r.2]] ?hrun ((labLeq_any jv r hjo hr _).mono ?_)
            case hrun => go_simp
            rintro e wn2 ⟨he, hbn2⟩
            rw [hl3] at he
            have hSn2 : Below wx.heap.size wx.drew wn2 := hSn1.trans (hbn2.mono hSn1.size)
            refine ⟨_, he, hSn2, ?_⟩
            refine takeH 10 (.bool false) (some 61) rfl rfl (by kernel_rfl) (by kernel_rfl) (by kernel_rfl) (fun _ _ _ h => h) (.inl ⟨by kernel_rfl, fun w _ => by go_simp⟩) hSn2 ?_
            refine takeH 11 (.bool false) (some 62) rfl rfl (by kernel_rfl) (by kernel_rfl) (by kernel_rfl) (fun _ _ _ h => h) (.inl ⟨by kernel_rfl, fun w _ => by go_simp⟩) hSn2 ?_
            refine takeH 12 (.bool false) (some 63) rfl rfl (by kernel_rfl) (by kernel_rfl) (by kernel_rfl) (fun _ _ _ h => h) (.inl ⟨by kernel_rfl, fun w _ => by go_simp⟩) hSn2 ?_
            refine takeH 13 (.agg #[.int .u8 r.1, .int .u16 r.2]) (some 64) rfl rfl (by kernel_rfl) (by kernel_rfl) (by kernel_rfl) (fun _ _ _ h => h) (.inl ⟨by kernel_rfl, fun w hw => by have hc0 := hr0 w hw; have hc1 := hr1 w hw; go_simp⟩) hSn2 ?_
            refine takeH 14 (.agg #[.int .u8 p.1, .int .u16 p.2]) (some 65) rfl rfl (by kernel_rfl) (by kernel_rfl) (by kernel_rfl) (fun _ _ _ h => h) (.inl ⟨by kernel_rfl, fun w hw => by have hc0 := hp0 w hw; have hc1 := hp1 w hw; go_simp⟩) hSn2 ?_
            refine callH 15 rfl (by kernel_rfl) (by kernel_rfl) (some 66) rfl 16 #[.agg #[.int .u8 r.1, .int .u16 r.2], .agg #[.int .u8 p.1, .int .u16 p.2]] ?hrun ((labLeq_any r p hr hp _).mono ?_)
            case hrun => go_simp
            rintro e wn3 ⟨he, hbn3⟩
            rw [hl4] at he
            have hSn3 : Below wx.heap.size wx.drew wn3 := hSn2.trans (hbn3.mono hSn2.size)
            refine ⟨_, he, hSn3, ?_⟩
            refine takeH 16 (.bool false) (some 67) rfl rfl (by kernel_rfl) (by kernel_rfl) (by kernel_rfl) (fun _ _ _ h => h) (.inl ⟨by kernel_rfl, fun w _ => by go_simp⟩) hSn3 ?_
            refine takeH 17 (undef) (some 68) rfl rfl (by kernel_rfl) (by kernel_rfl) (by kernel_rfl) (fun _ _ _ h => h) (.inr ⟨by kernel_rfl, rfl⟩) hSn3 ?_
            refine takeH 18 (undef) (some 69) rfl rfl (by kernel_rfl) (by kernel_rfl) (by kernel_rfl) (fun _ _ _ h => h) (.inr ⟨by kernel_rfl, rfl⟩) hSn3 ?_
            refine takeH 19 (undef) (some 70) rfl rfl (by kernel_rfl) (by kernel_rfl) (by kernel_rfl) (fun _ _ _ h => h) (.inr ⟨by kernel_rfl, rfl⟩) hSn3 ?_
            refine takeH 20 (.bool false) (some 71) rfl rfl (by kernel_rfl) (by kernel_rfl) (by kernel_rfl) (fun _ _ _ h => h) (.inl ⟨by kernel_rfl, fun w _ => by go_simp⟩) hSn3 ?_
            refine takeH 21 (.bool false) (some 72) rfl rfl (by kernel_rfl) (by kernel_rfl) (by kernel_rfl) (fun _ _ _ h => h) (.inl ⟨by kernel_rfl, fun w _ => by go_simp⟩) hSn3 ?_
            refine takeH 22 (undef) (some 73) rfl rfl (by kernel_rfl) (by kernel_rfl) (by kernel_rfl) (fun _ _ _ h => h) (.inr ⟨by kernel_rfl, rfl⟩) hSn3 ?_
            refine takeH 23 (undef) (some 74) rfl rfl (by kernel_rfl) (by kernel_rfl) (by kernel_rfl) (fun _ _ _ h => h) (.inr ⟨by kernel_rfl, rfl⟩) hSn3 ?_
            refine takeH 25 (undef) (some 76) rfl rfl (by kernel_rfl) (by kernel_rfl) (by kernel_rfl) (fun _ _ _ h => h) (.inr ⟨by kernel_rfl, rfl⟩) hSn3 ?_
            refine takeH 26 (undef) (some 77) rfl rfl (by kernel_rfl) (by kernel_rfl) (by kernel_rfl) (fun _ _ _ h => h) (.inr ⟨by kernel_rfl, rfl⟩) hSn3 ?_
            refine skipH 24 rfl (by kernel_rfl) (by kernel_rfl) (some 75) rfl hSn3 ?_
            refine skipH 27 rfl (by kernel_rfl) (by kernel_rfl) (some 78) rfl hSn3 ?_
            refine takeH 28 (undef) (some 79) rfl rfl (by kernel_rfl) (by kernel_rfl) (by kernel_rfl) (fun _ _ _ h => h) (.inr ⟨by kernel_rfl, rfl⟩) hSn3 ?_
            refine takeH 29 (.bool false) (some 80) rfl rfl (by kernel_rfl) (by kernel_rfl) (by kernel_rfl) (fun _ _ _ h => h) (.inl ⟨by kernel_rfl, fun w _ => by go_simp⟩) hSn3 ?_
            refine takeH 30 (.bool false) (some 81) rfl rfl (by kernel_rfl) (by kernel_rfl) (by kernel_rfl) (fun _ _ _ h => h) (.inl ⟨by kernel_rfl, fun w _ => by go_simp⟩) hSn3 ?_
            refine wpAnyH_done (by kernel_rfl) ?_ _
            go_simp
            go_wp2_with fail
            go_meet
            exact ⟨rfl, (LC0.keep (Below.trans (bdrewN (Below.refl _ _) 1) hSn3))⟩
          · by_cases hr16 : (r.1 : Int) < 16
            · skip
              have hl6 : leqL r mv = b5 := by rw [HM.out, leq_met p q r (by omega), hl4, hl5, Bool.true_and]
              refine takeH 0 (.agg #[.int .u8 p.1, .int .u16 p.2]) (some 51) rfl rfl (by kernel_rfl) (by kernel_rfl) (by kernel_rfl) (fun _ _ _ h => h) (.inl ⟨by kernel_rfl, fun w hw => by have hc0 := hp0 w hw; have hc1 := hp1 w hw; go_simp⟩) hSd ?_
              refine takeH 1 (.agg #[.int .u8 r.1, .int .u16 r.2]) (some 52) rfl rfl (by kernel_rfl) (by kernel_rfl) (by kernel_rfl) (fun _ _ _ h => h) (.inl ⟨by kernel_rfl, fun w hw => by have hc0 := hr0 w hw; have hc1 := hr1 w hw; go_simp⟩) hSd ?_
              refine callH 2 rfl (by kernel_rfl) (by kernel_rfl) (some 53) rfl 16 #[.agg #[.int .u8 p.1, .int .u16 p.2], .agg #[.int .u8 r.1, .int .u16 r.2]] ?hrun ((labLeq_any p r hp hr _).mono ?_)
              case hrun => go_simp
              rintro e wn0 ⟨he, hbn0⟩
              rw [hl1] at he
              have hSn0 : Below wx.heap.size wx.drew wn0 := hSd.trans (hbn0.mono hSd.size)
              refine ⟨_, he, hSn0, ?_⟩
              refine takeH 3 (.bool true) (some 54) rfl rfl (by kernel_rfl) (by kernel_rfl) (by kernel_rfl) (fun _ _ _ h => h) (.inl ⟨by kernel_rfl, fun w _ => by go_simp⟩) hSn0 ?_
              refine takeH 4 (.agg #[.int .u8 q.1, .int .u16 q.2]) (some 55) rfl rfl (by kernel_rfl) (by kernel_rfl) (by kernel_rfl) (fun _ _ _ h => h) (.inl ⟨by kernel_rfl, fun w hw => by have hc0 := hq0 w hw; have hc1 := hq1 w hw; go_simp⟩) hSn0 ?_
              refine takeH 5 (.agg #[.int .u8 r.1, .int .u16 r.2]) (some 56) rfl rfl (by kernel_rfl) (by kernel_rfl) (by kernel_rfl) (fun _ _ _ h => h) (.inl ⟨by kernel_rfl, fun w hw => by have hc0 := hr0 w hw; have hc1 := hr1 w hw; go_simp⟩) hSn0 ?_
              refine takeH 7 (.agg #[.int .u8 jv.1, .int .u16 jv.2]) (some 58) rfl rfl (by kernel_rfl) (by kernel_rfl) (by kernel_rfl) (fun _ _ _ h => h) (.inl ⟨by kernel_rfl, fun w hw => by have hc0 := hjv0 w hw; have hc1 := hjv1 w hw; go_simp⟩) hSn0 ?_
              refine takeH 8 (.agg #[.int .u8 r.1, .int .u16 r.2]) (some 59) rfl rfl (by kernel_rfl) (by kernel_rfl) (by kernel_rfl) (fun _ _ _ h => h) (.inl ⟨by kernel_rfl, fun w hw => by have hc0 := hr0 w hw; have hc1 := hr1 w hw; go_simp⟩) hSn0 ?_
              refine callH 6 rfl (by kernel_rfl) (by kernel_rfl) (some 57) rfl 16 #[.agg #[.int .u8 q.1, .int .u16 q.2], .agg #[.int .u8 r.1, .int .u16 r.2]] ?hrun ((labLeq_any q r hq hr _).mono ?_)
              case hrun => go_simp
              rintro e wn1 ⟨he, hbn1⟩
              rw [hl2] at he
              have hSn1 : Below wx.heap.size wx.drew wn1 := hSn0.trans (hbn1.mono hSn0.size)
              refine ⟨_, he, hSn1, ?_⟩
              refine callH 9 rfl (by kernel_rfl) (by kernel_rfl) (some 60) rfl 16 #[.agg #[.int .u8 jv.1, .int .u16 jv.2], .agg #[.int .u8 r.1, .int .u16 r.2]] ?hrun ((labLeq_any jv r hjo hr _).mono ?_)
              case hrun => go_simp
              rintro e wn2 ⟨he, hbn2⟩
              rw [hl3] at he
              have hSn2 : Below wx.heap.size wx.drew wn2 := hSn1.trans (hbn2.mono hSn1.size)
              refine ⟨_, he, hSn2, ?_⟩
              refine takeH 10 (.bool false) (some 61) rfl rfl (by kernel_rfl) (by kernel_rfl) (by kernel_rfl) (fun _ _ _ h => h) (.inl ⟨by kernel_rfl, fun w _ => by go_simp⟩) hSn2 ?_
              refine takeH 11 (.bool false) (some 62) rfl rfl (by kernel_rfl) (by kernel_rfl) (by kernel_rfl) (fun _ _ _ h => h) (.inl ⟨by kernel_rfl, fun w _ => by go_simp⟩) hSn2 ?_
              refine takeH 12 (.bool false) (some 63) rfl rfl (by kernel_rfl) (by kernel_rfl) (by kernel_rfl) (fun _ _ _ h => h) (.inl ⟨by kernel_rfl, fun w _ => by go_simp⟩) hSn2 ?_
              refine takeH 13 (.agg #[.int .u8 r.1, .int .u16 r.2]) (some 64) rfl rfl (by kernel_rfl) (by kernel_rfl) (by kernel_rfl) (fun _ _ _ h => h) (.inl ⟨by kernel_rfl, fun w hw => by have hc0 := hr0 w hw; have hc1 := hr1 w hw; go_simp⟩) hSn2 ?_
              refine takeH 14 (.agg #[.int .u8 p.1, .int .u16 p.2]) (some 65) rfl rfl (by kernel_rfl) (by kernel_rfl) (by kernel_rfl) (fun _ _ _ h => h) (.inl ⟨by kernel_rfl, fun w hw => by have hc0 := hp0 w hw; have hc1 := hp1 w hw; go_simp⟩) hSn2 ?_
              refine callH 15 rfl (by kernel_rfl) (by kernel_rfl) (some 66) rfl 16 #[.agg #[.int .u8 r.1, .int .u16 r.2], .agg #[.int .u8 p.1, .int .u16 p.2]] ?hrun ((labLeq_any r p hr hp _).mono ?_)
              case hrun => go_simp
              rintro e wn3 ⟨he, hbn3⟩
              rw [hl4] at he
              have hSn3 : Below wx.heap.size wx.drew wn3 := hSn2.trans (hbn3.mono hSn2.size)
              refine ⟨_, he, hSn3, ?_⟩
              refine takeH 16 (.bool true) (some 67) rfl rfl (by kernel_rfl) (by kernel_rfl) (by kernel_rfl) (fun _ _ _ h => h) (.inl ⟨by kernel_rfl, fun w _ => by go_simp⟩) hSn3 ?_
              refine takeH 17 (.pointer (some ⟨W.heap.size + 1 + 1, 0, none⟩)) (some 68) rfl rfl (by kernel_rfl) (by kernel_rfl) (by kernel_rfl) (fun _ _ _ h => h) (.inl ⟨by kernel_rfl, fun w _ => by go_simp⟩) hSn3 ?_
              refine takeH 18 (.int .u8 r.1) (some 69) rfl rfl (by kernel_rfl) (by kernel_rfl) (by kernel_rfl) (fun _ _ _ h => h) (.inl ⟨by kernel_rfl, fun w hw => by have hc0 := hr0 w hw; go_simp⟩) hSn3 ?_
              refine takeH 19 (.bool true) (some 70) rfl rfl (by kernel_rfl) (by kernel_rfl) (by kernel_rfl) (fun _ _ _ h => h) (.inl ⟨by kernel_rfl, fun w _ => by go_simp⟩) hSn3 ?_
              refine takeH 20 (.bool true) (some 71) rfl rfl (by kernel_rfl) (by kernel_rfl) (by kernel_rfl) (fun _ _ _ h => h) (.inl ⟨by kernel_rfl, fun w _ => by go_simp⟩) hSn3 ?_
              refine takeH 21 (.bool true) (some 72) rfl rfl (by kernel_rfl) (by kernel_rfl) (by kernel_rfl) (fun _ _ _ h => h) (.inl ⟨by kernel_rfl, fun w _ => by go_simp⟩) hSn3 ?_
              refine takeH 22 (.agg #[.int .u8 r.1, .int .u16 r.2]) (some 73) rfl rfl (by kernel_rfl) (by kernel_rfl) (by kernel_rfl) (fun _ _ _ h => h) (.inl ⟨by kernel_rfl, fun w hw => by have hc0 := hr0 w hw; have hc1 := hr1 w hw; go_simp⟩) hSn3 ?_
              refine takeH 23 (.agg #[.int .u8 q.1, .int .u16 q.2]) (some 74) rfl rfl (by kernel_rfl) (by kernel_rfl) (by kernel_rfl) (fun _ _ _ h => h) (.inl ⟨by kernel_rfl, fun w hw => by have hc0 := hq0 w hw; have hc1 := hq1 w hw; go_simp⟩) hSn3 ?_
              refine takeH 25 (.agg #[.int .u8 r.1, .int .u16 r.2]) (some 76) rfl rfl (by kernel_rfl) (by kernel_rfl) (by kernel_rfl) (fun _ _ _ h => h) (.inl ⟨by kernel_rfl, fun w hw => by have hc0 := hr0 w hw; have hc1 := hr1 w hw; go_simp⟩) hSn3 ?_
              refine takeH 26 (.agg #[.int .u8 mv.1, .int .u16 mv.2]) (some 77) rfl rfl (by kernel_rfl) (by kernel_rfl) (by kernel_rfl) (fun _ _ _ h => h) (.inl ⟨by kernel_rfl, fun w hw => by have hc0 := hmv0 w hw; have hc1 := hmv1 w hw; go_simp⟩) hSn3 ?_
              refine callH 24 rfl (by kernel_rfl) (by kernel_rfl) (some 75) rfl 16 #[.agg #[.int .u8 r.1, .int .u16 r.2], .agg #[.int .u8 q.1, .int .u16 q.2]] ?hrun ((labLeq_any r q hr hq _).mono ?_)
              case hrun => go_simp
              rintro e wn4 ⟨he, hbn4⟩
              rw [hl5] at he
              have hSn4 : Below wx.heap.size wx.drew wn4 := hSn3.trans (hbn4.mono hSn3.size)
              refine ⟨_, he, hSn4, ?_⟩
              refine callH 27 rfl (by kernel_rfl) (by kernel_rfl) (some 78) rfl 16 #[.agg #[.int .u8 r.1, .int .u16 r.2], .agg #[.int .u8 mv.1, .int .u16 mv.2]] ?hrun ((labLeq_any r mv hr hme _).mono ?_)
              case hrun => go_simp
              rintro e wn5 ⟨he, hbn5⟩
              rw [hl6] at he
              have hSn5 : Below wx.heap.size wx.drew wn5 := hSn4.trans (hbn5.mono hSn4.size)
              refine ⟨_, he, hSn5, ?_⟩
              refine takeH 28 (.bool false) (some 79) rfl rfl (by kernel_rfl) (by kernel_rfl) (by kernel_rfl) (fun _ _ _ h => h) (.inl ⟨by kernel_rfl, fun w _ => by go_simp⟩) hSn5 ?_
              refine takeH 29 (.bool false) (some 80) rfl rfl (by kernel_rfl) (by kernel_rfl) (by kernel_rfl) (fun _ _ _ h => h) (.inl ⟨by kernel_rfl, fun w _ => by go_simp⟩) hSn5 ?_
              refine takeH 30 (.bool false) (some 81) rfl rfl (by kernel_rfl) (by kernel_rfl) (by kernel_rfl) (fun _ _ _ h => h) (.inl ⟨by kernel_rfl, fun w _ => by go_simp⟩) hSn5 ?_
              refine wpAnyH_done (by kernel_rfl) ?_ _
              go_simp
              go_wp2_with fail
              go_meet
              exact ⟨rfl, (LC0.keep (Below.trans (bdrewN (Below.refl _ _) 1) hSn5))⟩
            · skip
              refine takeH 0 (.agg #[.int .u8 p.1, .int .u16 p.2]) (some 51) rfl rfl (by kernel_rfl) (by kernel_rfl) (by kernel_rfl) (fun _ _ _ h => h) (.inl ⟨by kernel_rfl, fun w hw => by have hc0 := hp0 w hw; have hc1 := hp1 w hw; go_simp⟩) hSd ?_
              refine takeH 1 (.agg #[.int .u8 r.1, .int .u16 r.2]) (some 52) rfl rfl (by kernel_rfl) (by kernel_rfl) (by kernel_rfl) (fun _ _ _ h => h) (.inl ⟨by kernel_rfl, fun w hw => by have hc0 := hr0 w hw; have hc1 := hr1 w hw; go_simp⟩) hSd ?_
              refine callH 2 rfl (by kernel_rfl) (by kernel_rfl) (some 53) rfl 16 #[.agg #[.int .u8 p.1, .int .u16 p.2], .agg #[.int .u8 r.1, .int .u16 r.2]] ?hrun ((labLeq_any p r hp hr _).mono ?_)
              case hrun => go_simp
              rintro e wn0 ⟨he, hbn0⟩
              rw [hl1] at he
              have hSn0 : Below wx.heap.size wx.drew wn0 := hSd.trans (hbn0.mono hSd.size)
              refine ⟨_, he, hSn0, ?_⟩
              refine takeH 3 (.bool true) (some 54) rfl rfl (by kernel_rfl) (by kernel_rfl) (by kernel_rfl) (fun _ _ _ h => h) (.inl ⟨by kernel_rfl, fun w _ => by go_simp⟩) hSn0 ?_
              refine takeH 4 (.agg #[.int .u8 q.1, .int .u16 q.2]) (some 55) rfl rfl (by kernel_rfl) (by kernel_rfl) (by kernel_rfl) (fun _ _ _ h => h) (.inl ⟨by kernel_rfl, fun w hw => by have hc0 := hq0 w hw; have hc1 := hq1 w hw; go_simp⟩) hSn0 ?_
              refine takeH 5 (.agg #[.int .u8 r.1, .int .u16 r.2]) (some 56) rfl rfl (by kernel_rfl) (by kernel_rfl) (by kernel_rfl) (fun _ _ _ h => h) (.inl ⟨by kernel_rfl, fun w hw => by have hc0 := hr0 w hw; have hc1 := hr1 w hw; go_simp⟩) hSn0 ?_
              refine takeH 7 (.agg #[.int .u8 jv.1, .int .u16 jv.2]) (some 58) rfl rfl (by kernel_rfl) (by kernel_rfl) (by kernel_rfl) (fun _ _ _ h => h) (.inl ⟨by kernel_rfl, fun w hw => by have hc0 := hjv0 w hw; have hc1 := hjv1 w hw; go_simp⟩) hSn0 ?_
              refine takeH 8 (.agg #[.int .u8 r.1, .int .u16 r.2]) (some 59) rfl rfl (by kernel_rfl) (by kernel_rfl) (by kernel_rfl) (fun _ _ _ h => h) (.inl ⟨by kernel_rfl, fun w hw => by have hc0 := hr0 w hw; have hc1 := hr1 w hw; go_simp⟩) hSn0 ?_
              refine callH 6 rfl (by kernel_rfl) (by kernel_rfl) (some 57) rfl 16 #[.agg #[.int .u8 q.1, .int .u16 q.2], .agg #[.int .u8 r.1, .int .u16 r.2]] ?hrun ((labLeq_any q r hq hr _).mono ?_)
              case hrun => go_simp
              rintro e wn1 ⟨he, hbn1⟩
              rw [hl2] at he
              have hSn1 : Below wx.heap.size wx.drew wn1 := hSn0.trans (hbn1.mono hSn0.size)
              refine ⟨_, he, hSn1, ?_⟩
              refine callH 9 rfl (by kernel_rfl) (by kernel_rfl) (some 60) rfl 16 #[.agg #[.int .u8 jv.1, .int .u16 jv.2], .agg #[.int .u8 r.1, .int .u16 r.2]] ?hrun ((labLeq_any jv r hjo hr _).mono ?_)
              case hrun => go_simp
              rintro e wn2 ⟨he, hbn2⟩
              rw [hl3] at he
              have hSn2 : Below wx.heap.size wx.drew wn2 := hSn1.trans (hbn2.mono hSn1.size)
              refine ⟨_, he, hSn2, ?_⟩
              refine takeH 10 (.bool false) (some 61) rfl rfl (by kernel_rfl) (by kernel_rfl) (by kernel_rfl) (fun _ _ _ h => h) (.inl ⟨by kernel_rfl, fun w _ => by go_simp⟩) hSn2 ?_
              refine takeH 11 (.bool false) (some 62) rfl rfl (by kernel_rfl) (by kernel_rfl) (by kernel_rfl) (fun _ _ _ h => h) (.inl ⟨by kernel_rfl, fun w _ => by go_simp⟩) hSn2 ?_
              refine takeH 12 (.bool false) (some 63) rfl rfl (by kernel_rfl) (by kernel_rfl) (by kernel_rfl) (fun _ _ _ h => h) (.inl ⟨by kernel_rfl, fun w _ => by go_simp⟩) hSn2 ?_
              refine takeH 13 (.agg #[.int .u8 r.1, .int .u16 r.2]) (some 64) rfl rfl (by kernel_rfl) (by kernel_rfl) (by kernel_rfl) (fun _ _ _ h => h) (.inl ⟨by kernel_rfl, fun w hw => by have hc0 := hr0 w hw; have hc1 := hr1 w hw; go_simp⟩) hSn2 ?_
              refine takeH 14 (.agg #[.int .u8 p.1, .int .u16 p.2]) (some 65) rfl rfl (by kernel_rfl) (by kernel_rfl) (by kernel_rfl) (fun _ _ _ h => h) (.inl ⟨by kernel_rfl, fun w hw => by have hc0 := hp0 w hw; have hc1 := hp1 w hw; go_simp⟩) hSn2 ?_
              refine callH 15 rfl (by kernel_rfl) (by kernel_rfl) (some 66) rfl 16 #[.agg #[.int .u8 r.1, .int .u16 r.2], .agg #[.int .u8 p.1, .int .u16 p.2]] ?hrun ((labLeq_any r p hr hp _).mono ?_)
              case hrun => go_simp
              rintro e wn3 ⟨he, hbn3⟩
              rw [hl4] at he
              have hSn3 : Below wx.heap.size wx.drew wn3 := hSn2.trans (hbn3.mono hSn2.size)
              refine ⟨_, he, hSn3, ?_⟩
              refine takeH 16 (.bool true) (some 67) rfl rfl (by kernel_rfl) (by kernel_rfl) (by kernel_rfl) (fun _ _ _ h => h) (.inl ⟨by kernel_rfl, fun w _ => by go_simp⟩) hSn3 ?_
              refine takeH 17 (.pointer (some ⟨W.heap.size + 1 + 1, 0, none⟩)) (some 68) rfl rfl (by kernel_rfl) (by kernel_rfl) (by kernel_rfl) (fun _ _ _ h => h) (.inl ⟨by kernel_rfl, fun w _ => by go_simp⟩) hSn3 ?_
              refine takeH 18 (.int .u8 r.1) (some 69) rfl rfl (by kernel_rfl) (by kernel_rfl) (by kernel_rfl) (fun _ _ _ h => h) (.inl ⟨by kernel_rfl, fun w hw => by have hc0 := hr0 w hw; go_simp⟩) hSn3 ?_
              refine takeH 19 (.bool false) (some 70) rfl rfl (by kernel_rfl) (by kernel_rfl) (by kernel_rfl) (fun _ _ _ h => h) (.inl ⟨by kernel_rfl, fun w _ => by go_simp⟩) hSn3 ?_
              refine takeH 20 (.bool false) (some 71) rfl rfl (by kernel_rfl) (by kernel_rfl) (by kernel_rfl) (fun _ _ _ h => h) (.inl ⟨by kernel_rfl, fun w _ => by go_simp⟩) hSn3 ?_
              refine takeH 21 (.bool false) (some 72) rfl rfl (by kernel_rfl) (by kernel_rfl) (by kernel_rfl) (fun _ _ _ h => h) (.inl ⟨by kernel_rfl, fun w _ => by go_simp⟩) hSn3 ?_
              refine takeH 22 (undef) (some 73) rfl rfl (by kernel_rfl) (by kernel_rfl) (by kernel_rfl) (fun _ _ _ h => h) (.inr ⟨by kernel_rfl, rfl⟩) hSn3 ?_
              refine takeH 23 (undef) (some 74) rfl rfl (by kernel_rfl) (by kernel_rfl) (by kernel_rfl) (fun _ _ _ h => h) (.inr ⟨by kernel_rfl, rfl⟩) hSn3 ?_
              refine takeH 25 (undef) (some 76) rfl rfl (by kernel_rfl) (by kernel_rfl) (by kernel_rfl) (fun _ _ _ h => h) (.inr ⟨by kernel_rfl, rfl⟩) hSn3 ?_
              refine takeH 26 (undef) (some 77) rfl rfl (by kernel_rfl) (by kernel_rfl) (by kernel_rfl) (fun _ _ _ h => h) (.inr ⟨by kernel_rfl, rfl⟩) hSn3 ?_
              refine skipH 24 rfl (by kernel_rfl) (by kernel_rfl) (some 75) rfl hSn3 ?_
              refine skipH 27 rfl (by kernel_rfl) (by kernel_rfl) (some 78) rfl hSn3 ?_
              refine takeH 28 (undef) (some 79) rfl rfl (by kernel_rfl) (by kernel_rfl) (by kernel_rfl) (fun _ _ _ h => h) (.inr ⟨by kernel_rfl, rfl⟩) hSn3 ?_
              refine takeH 29 (.bool false) (some 80) rfl rfl (by kernel_rfl) (by kernel_rfl) (by kernel_rfl) (fun _ _ _ h => h) (.inl ⟨by kernel_rfl, fun w _ => by go_simp⟩) hSn3 ?_
              refine takeH 30 (.bool false) (some 81) rfl rfl (by kernel_rfl) (by kernel_rfl) (by kernel_rfl) (fun _ _ _ h => h) (.inl ⟨by kernel_rfl, fun w _ => by go_simp⟩) hSn3 ?_
              refine wpAnyH_done (by kernel_rfl) ?_ _
              go_simp
              go_wp2_with fail
              go_meet
              exact ⟨rfl, (LC0.keep (Below.trans (bdrewN (Below.refl _ _) 1) hSn3))⟩
      case rest =>
        obtain ⟨rfl, LD⟩ := hcut
        clear LC
        go_upto_region 8 with fail
        obtain ⟨wx, hwx⟩ : ∃ wx, wx = wc := ⟨_, rfl⟩
        subst hwx
        have LC := LD
        have hp0 := fun (w' : World) (hb : Below wx.heap.size wx.drew w') => labRow0 (LC.keep (Below.trans (bdrewN (Below.refl wx.heap.size wx) 1) hb)).a
        have hp1 := fun (w' : World) (hb : Below wx.heap.size wx.drew w') => labRow1 (LC.keep (Below.trans (bdrewN (Below.refl wx.heap.size wx) 1) hb)).a
        have hq0 := fun (w' : World) (hb : Below wx.heap.size wx.drew w') => labRow0 (LC.keep (Below.trans (bdrewN (Below.refl wx.heap.size wx) 1) hb)).b
        have hq1 := fun (w' : World) (hb : Below wx.heap.size wx.drew w') => labRow1 (LC.keep (Below.trans (bdrewN (Below.refl wx.heap.size wx) 1) hb)).b
        have hr0 := fun (w' : World) (hb : Below wx.heap.size wx.drew w') => labRow0 (LC.keep (Below.trans (bdrewN (Below.refl wx.heap.size wx) 1) hb)).c
        have hr1 := fun (w' : World) (hb : Below wx.heap.size wx.drew w') => labRow1 (LC.keep (Below.trans (bdrewN (Below.refl wx.heap.size wx) 1) hb)).c
        have hSd : Below wx.heap.size wx.drew wx.drew := Below.refl _ _
        clear LD HJ HM hjo hme
        refine wp_region_held (S := fun w' => Below wx.heap.size wx.drew w') (by kernel_rfl) ?_
        change wpAnyH _ _ _ _ _ _ _ _ (World.drew _)
        have HK := HKK.out
        clear HKK
        obtain ⟨hab, hba, hbc⟩ := HK
        have hrk := rank_mono hab
        refine takeH 0 (.agg #[.int .u8 p.1, .int .u16 p.2]) (some 82) rfl rfl (by kernel_rfl) (by kernel_rfl) (by kernel_rfl) (fun _ _ _ h => h) (.inl ⟨by kernel_rfl, fun w hw => by have hc0 := hp0 w hw; have hc1 := hp1 w hw; go_simp⟩) hSd ?_
        refine takeH 1 (.agg #[.int .u8 p.1, .int .u16 p.2]) (some 83) rfl rfl (by kernel_rfl) (by kernel_rfl) (by kernel_rfl) (fun _ _ _ h => h) (.inl ⟨by kernel_rfl, fun w hw => by have hc0 := hp0 w hw; have hc1 := hp1 w hw; go_simp⟩) hSd ?_
        refine callH 2 rfl (by kernel_rfl) (by kernel_rfl) (some 84) rfl 16 #[.agg #[.int .u8 p.1, .int .u16 p.2], .agg #[.int .u8 p.1, .int .u16 p.2]] ?hrun ((labLeq_any p p hp hp _).mono ?_)
        case hrun => go_simp
        rintro e wn0 ⟨he, hbn0⟩
        rw [leq_refl] at he
        have hSn0 : Below wx.heap.size wx.drew wn0 := hSd.trans (hbn0.mono hSd.size)
        refine ⟨_, he, hSn0, ?_⟩
        refine takeH 3 (.bool true) (some 85) rfl rfl (by kernel_rfl) (by kernel_rfl) (by kernel_rfl) (fun _ _ _ h => h) (.inl ⟨by kernel_rfl, fun w _ => by go_simp⟩) hSn0 ?_
        refine takeH 4 (.agg #[.int .u8 p.1, .int .u16 p.2]) (some 86) rfl rfl (by kernel_rfl) (by kernel_rfl) (by kernel_rfl) (fun _ _ _ h => h) (.inl ⟨by kernel_rfl, fun w hw => by have hc0 := hp0 w hw; have hc1 := hp1 w hw; go_simp⟩) hSn0 ?_
        refine takeH 5 (.agg #[.int .u8 q.1, .int .u16 q.2]) (some 87) rfl rfl (by kernel_rfl) (by kernel_rfl) (by kernel_rfl) (fun _ _ _ h => h) (.inl ⟨by kernel_rfl, fun w hw => by have hc0 := hq0 w hw; have hc1 := hq1 w hw; go_simp⟩) hSn0 ?_
        refine callH 6 rfl (by kernel_rfl) (by kernel_rfl) (some 88) rfl 16 #[.agg #[.int .u8 p.1, .int .u16 p.2], .agg #[.int .u8 q.1, .int .u16 q.2]] ?hrun ((labLeq_any p q hp hq _).mono ?_)
        case hrun => go_simp
        rintro e wn1 ⟨he, hbn1⟩
        rw [hab] at he
        have hSn1 : Below wx.heap.size wx.drew wn1 := hSn0.trans (hbn1.mono hSn0.size)
        refine ⟨_, he, hSn1, ?_⟩
        refine takeH 7 (.bool false) (some 89) rfl rfl (by kernel_rfl) (by kernel_rfl) (by kernel_rfl) (fun _ _ _ h => h) (.inl ⟨by kernel_rfl, fun w _ => by go_simp⟩) hSn1 ?_
        refine takeH 8 (.bool false) (some 90) rfl rfl (by kernel_rfl) (by kernel_rfl) (by kernel_rfl) (fun _ _ _ h => h) (.inl ⟨by kernel_rfl, fun w _ => by go_simp⟩) hSn1 ?_
        refine takeH 9 (.agg #[.int .u8 q.1, .int .u16 q.2]) (some 91) rfl rfl (by kernel_rfl) (by kernel_rfl) (by kernel_rfl) (fun _ _ _ h => h) (.inl ⟨by kernel_rfl, fun w hw => by have hc0 := hq0 w hw; have hc1 := hq1 w hw; go_simp⟩) hSn1 ?_
        refine takeH 10 (.agg #[.int .u8 p.1, .int .u16 p.2]) (some 92) rfl rfl (by kernel_rfl) (by kernel_rfl) (by kernel_rfl) (fun _ _ _ h => h) (.inl ⟨by kernel_rfl, fun w hw => by have hc0 := hp0 w hw; have hc1 := hp1 w hw; go_simp⟩) hSn1 ?_
        refine callH 11 rfl (by kernel_rfl) (by kernel_rfl) (some 93) rfl 16 #[.agg #[.int .u8 q.1, .int .u16 q.2], .agg #[.int .u8 p.1, .int .u16 p.2]] ?hrun ((labLeq_any q p hq hp _).mono ?_)
        case hrun => go_simp
        rintro e wn2 ⟨he, hbn2⟩
        rw [hba] at he
        have hSn2 : Below wx.heap.size wx.drew wn2 := hSn1.trans (hbn2.mono hSn1.size)
        refine ⟨_, he, hSn2, ?_⟩
        refine takeH 12 (.bool true) (some 94) rfl rfl (by kernel_rfl) (by kernel_rfl) (by kernel_rfl) (fun _ _ _ h => h) (.inl ⟨by kernel_rfl, fun w _ => by go_simp⟩) hSn2 ?_
        refine takeH 13 (.bool true) (some 95) rfl rfl (by kernel_rfl) (by kernel_rfl) (by kernel_rfl) (fun _ _ _ h => h) (.inl ⟨by kernel_rfl, fun w _ => by go_simp⟩) hSn2 ?_
        refine takeH 14 (.bool true) (some 96) rfl rfl (by kernel_rfl) (by kernel_rfl) (by kernel_rfl) (fun _ _ _ h => h) (.inl ⟨by kernel_rfl, fun w _ => by go_simp⟩) hSn2 ?_
        refine takeH 15 (undef) (some 97) rfl rfl (by kernel_rfl) (by kernel_rfl) (by kernel_rfl) (fun _ _ _ h => h) (.inr ⟨by kernel_rfl, rfl⟩) hSn2 ?_
        refine takeH 16 (undef) (some 98) rfl rfl (by kernel_rfl) (by kernel_rfl) (by kernel_rfl) (fun _ _ _ h => h) (.inr ⟨by kernel_rfl, rfl⟩) hSn2 ?_
        refine takeH 17 (undef) (some 99) rfl rfl (by kernel_rfl) (by kernel_rfl) (by kernel_rfl) (fun _ _ _ h => h) (.inr ⟨by kernel_rfl, rfl⟩) hSn2 ?_
        refine takeH 18 (.bool true) (some 100) rfl rfl (by kernel_rfl) (by kernel_rfl) (by kernel_rfl) (fun _ _ _ h => h) (.inl ⟨by kernel_rfl, fun w _ => by go_simp⟩) hSn2 ?_
        refine takeH 19 (.bool true) (some 101) rfl rfl (by kernel_rfl) (by kernel_rfl) (by kernel_rfl) (fun _ _ _ h => h) (.inl ⟨by kernel_rfl, fun w _ => by go_simp⟩) hSn2 ?_
        refine takeH 20 (.bool true) (some 102) rfl rfl (by kernel_rfl) (by kernel_rfl) (by kernel_rfl) (fun _ _ _ h => h) (.inl ⟨by kernel_rfl, fun w _ => by go_simp⟩) hSn2 ?_
        refine takeH 21 (.agg #[.int .u8 p.1, .int .u16 p.2]) (some 103) rfl rfl (by kernel_rfl) (by kernel_rfl) (by kernel_rfl) (fun _ _ _ h => h) (.inl ⟨by kernel_rfl, fun w hw => by have hc0 := hp0 w hw; have hc1 := hp1 w hw; go_simp⟩) hSn2 ?_
        refine takeH 22 (.agg #[.int .u8 q.1, .int .u16 q.2]) (some 104) rfl rfl (by kernel_rfl) (by kernel_rfl) (by kernel_rfl) (fun _ _ _ h => h) (.inl ⟨by kernel_rfl, fun w hw => by have hc0 := hq0 w hw; have hc1 := hq1 w hw; go_simp⟩) hSn2 ?_
        refine callH 23 rfl (by kernel_rfl) (by kernel_rfl) (some 105) rfl 16 #[.agg #[.int .u8 p.1, .int .u16 p.2], .agg #[.int .u8 q.1, .int .u16 q.2]] ?hrun ((labLeq_any p q hp hq _).mono ?_)
        case hrun => go_simp
        rintro e wn3 ⟨he, hbn3⟩
        rw [hab] at he
        have hSn3 : Below wx.heap.size wx.drew wn3 := hSn2.trans (hbn3.mono hSn2.size)
        refine ⟨_, he, hSn3, ?_⟩
        refine takeH 24 (.bool false) (some 106) rfl rfl (by kernel_rfl) (by kernel_rfl) (by kernel_rfl) (fun _ _ _ h => h) (.inl ⟨by kernel_rfl, fun w _ => by go_simp⟩) hSn3 ?_
        refine takeH 25 (.bool false) (some 107) rfl rfl (by kernel_rfl) (by kernel_rfl) (by kernel_rfl) (fun _ _ _ h => h) (.inl ⟨by kernel_rfl, fun w _ => by go_simp⟩) hSn3 ?_
        refine takeH 26 (.agg #[.int .u8 q.1, .int .u16 q.2]) (some 108) rfl rfl (by kernel_rfl) (by kernel_rfl) (by kernel_rfl) (fun _ _ _ h => h) (.inl ⟨by kernel_rfl, fun w hw => by have hc0 := hq0 w hw; have hc1 := hq1 w hw; go_simp⟩) hSn3 ?_
        refine takeH 27 (.agg #[.int .u8 r.1, .int .u16 r.2]) (some 109) rfl rfl (by kernel_rfl) (by kernel_rfl) (by kernel_rfl) (fun _ _ _ h => h) (.inl ⟨by kernel_rfl, fun w hw => by have hc0 := hr0 w hw; have hc1 := hr1 w hw; go_simp⟩) hSn3 ?_
        refine callH 28 rfl (by kernel_rfl) (by kernel_rfl) (some 110) rfl 16 #[.agg #[.int .u8 q.1, .int .u16 q.2], .agg #[.int .u8 r.1, .int .u16 r.2]] ?hrun ((labLeq_any q r hq hr _).mono ?_)
        case hrun => go_simp
        rintro e wn4 ⟨he, hbn4⟩
        rw [hbc] at he
        have hSn4 : Below wx.heap.size wx.drew wn4 := hSn3.trans (hbn4.mono hSn3.size)
        refine ⟨_, he, hSn4, ?_⟩
        refine takeH 29 (.bool true) (some 111) rfl rfl (by kernel_rfl) (by kernel_rfl) (by kernel_rfl) (fun _ _ _ h => h) (.inl ⟨by kernel_rfl, fun w _ => by go_simp⟩) hSn4 ?_
        refine takeH 30 (.bool true) (some 112) rfl rfl (by kernel_rfl) (by kernel_rfl) (by kernel_rfl) (fun _ _ _ h => h) (.inl ⟨by kernel_rfl, fun w _ => by go_simp⟩) hSn4 ?_
        refine takeH 31 (.bool true) (some 113) rfl rfl (by kernel_rfl) (by kernel_rfl) (by kernel_rfl) (fun _ _ _ h => h) (.inl ⟨by kernel_rfl, fun w _ => by go_simp⟩) hSn4 ?_
        refine takeH 32 (undef) (some 114) rfl rfl (by kernel_rfl) (by kernel_rfl) (by kernel_rfl) (fun _ _ _ h => h) (.inr ⟨by kernel_rfl, rfl⟩) hSn4 ?_
        refine takeH 33 (undef) (some 115) rfl rfl (by kernel_rfl) (by kernel_rfl) (by kernel_rfl) (fun _ _ _ h => h) (.inr ⟨by kernel_rfl, rfl⟩) hSn4 ?_
        refine skipH 34 rfl (by kernel_rfl) (by kernel_rfl) (some 116) rfl hSn4 ?_
        refine takeH 35 (.bool true) (some 117) rfl rfl (by kernel_rfl) (by kernel_rfl) (by kernel_rfl) (fun _ _ _ h => h) (.inl ⟨by kernel_rfl, fun w _ => by go_simp⟩) hSn4 ?_
        refine takeH 36 (.bool true) (some 118) rfl rfl (by kernel_rfl) (by kernel_rfl) (by kernel_rfl) (fun _ _ _ h => h) (.inl ⟨by kernel_rfl, fun w _ => by go_simp⟩) hSn4 ?_
        refine takeH 37 (.bool true) (some 119) rfl rfl (by kernel_rfl) (by kernel_rfl) (by kernel_rfl) (fun _ _ _ h => h) (.inl ⟨by kernel_rfl, fun w _ => by go_simp⟩) hSn4 ?_
        refine takeH 38 (.agg #[.int .u8 p.1, .int .u16 p.2]) (some 120) rfl rfl (by kernel_rfl) (by kernel_rfl) (by kernel_rfl) (fun _ _ _ h => h) (.inl ⟨by kernel_rfl, fun w hw => by have hc0 := hp0 w hw; have hc1 := hp1 w hw; go_simp⟩) hSn4 ?_
        refine takeH 39 (.agg #[.int .u8 q.1, .int .u16 q.2]) (some 121) rfl rfl (by kernel_rfl) (by kernel_rfl) (by kernel_rfl) (fun _ _ _ h => h) (.inl ⟨by kernel_rfl, fun w hw => by have hc0 := hq0 w hw; have hc1 := hq1 w hw; go_simp⟩) hSn4 ?_
        refine callH 40 rfl (by kernel_rfl) (by kernel_rfl) (some 122) rfl 16 #[.agg #[.int .u8 p.1, .int .u16 p.2], .agg #[.int .u8 q.1, .int .u16 q.2]] ?hrun ((labLeq_any p q hp hq _).mono ?_)
        case hrun => go_simp
        rintro e wn5 ⟨he, hbn5⟩
        rw [hab] at he
        have hSn5 : Below wx.heap.size wx.drew wn5 := hSn4.trans (hbn5.mono hSn4.size)
        refine ⟨_, he, hSn5, ?_⟩
        refine takeH 41 (.bool false) (some 123) rfl rfl (by kernel_rfl) (by kernel_rfl) (by kernel_rfl) (fun _ _ _ h => h) (.inl ⟨by kernel_rfl, fun w _ => by go_simp⟩) hSn5 ?_
        refine takeH 42 (.bool false) (some 124) rfl rfl (by kernel_rfl) (by kernel_rfl) (by kernel_rfl) (fun _ _ _ h => h) (.inl ⟨by kernel_rfl, fun w _ => by go_simp⟩) hSn5 ?_
        refine takeH 43 (.agg #[.int .u8 p.1, .int .u16 p.2]) (some 125) rfl rfl (by kernel_rfl) (by kernel_rfl) (by kernel_rfl) (fun _ _ _ h => h) (.inl ⟨by kernel_rfl, fun w hw => by have hc0 := hp0 w hw; have hc1 := hp1 w hw; go_simp⟩) hSn5 ?_
        refine takeH 45 (.agg #[.int .u8 q.1, .int .u16 q.2]) (some 127) rfl rfl (by kernel_rfl) (by kernel_rfl) (by kernel_rfl) (fun _ _ _ h => h) (.inl ⟨by kernel_rfl, fun w hw => by have hc0 := hq0 w hw; have hc1 := hq1 w hw; go_simp⟩) hSn5 ?_
        refine callH 44 rfl (by kernel_rfl) (by kernel_rfl) (some 126) rfl 15 #[.agg #[.int .u8 p.1, .int .u16 p.2]] ?hrun ((labRank_any p hp _).mono ?_)
        case hrun => go_simp
        rintro e wn6 ⟨he, hbn6⟩
        have hSn6 : Below wx.heap.size wx.drew wn6 := hSn5.trans (hbn6.mono hSn5.size)
        refine ⟨_, he, hSn6, ?_⟩
        refine callH 46 rfl (by kernel_rfl) (by kernel_rfl) (some 128) rfl 15 #[.agg #[.int .u8 q.1, .int .u16 q.2]] ?hrun ((labRank_any q hq _).mono ?_)
        case hrun => go_simp
        rintro e wn7 ⟨he, hbn7⟩
        have hSn7 : Below wx.heap.size wx.drew wn7 := hSn6.trans (hbn7.mono hSn6.size)
        refine ⟨_, he, hSn7, ?_⟩
        refine takeH 47 (.bool true) (some 129) rfl rfl (by kernel_rfl) (by kernel_rfl) (by kernel_rfl) (fun _ _ _ h => h) (.inl ⟨by kernel_rfl, fun w _ => by go_simp; omega⟩) hSn7 ?_
        refine takeH 48 (.bool true) (some 130) rfl rfl (by kernel_rfl) (by kernel_rfl) (by kernel_rfl) (fun _ _ _ h => h) (.inl ⟨by kernel_rfl, fun w _ => by go_simp⟩) hSn7 ?_
        refine takeH 49 (.bool true) (some 131) rfl rfl (by kernel_rfl) (by kernel_rfl) (by kernel_rfl) (fun _ _ _ h => h) (.inl ⟨by kernel_rfl, fun w _ => by go_simp⟩) hSn7 ?_
        refine takeH 50 (.bool true) (some 132) rfl rfl (by kernel_rfl) (by kernel_rfl) (by kernel_rfl) (fun _ _ _ h => h) (.inl ⟨by kernel_rfl, fun w _ => by go_simp⟩) hSn7 ?_
        refine takeH 51 (.agg #[.int .u8 p.1, .int .u16 p.2]) (some 133) rfl rfl (by kernel_rfl) (by kernel_rfl) (by kernel_rfl) (fun _ _ _ h => h) (.inl ⟨by kernel_rfl, fun w hw => by have hc0 := hp0 w hw; have hc1 := hp1 w hw; go_simp⟩) hSn7 ?_
        refine takeH 52 (.agg #[.int .u8 p.1, .int .u16 p.2]) (some 134) rfl rfl (by kernel_rfl) (by kernel_rfl) (by kernel_rfl) (fun _ _ _ h => h) (.inl ⟨by kernel_rfl, fun w hw => by have hc0 := hp0 w hw; have hc1 := hp1 w hw; go_simp⟩) hSn7 ?_
        refine callH 53 rfl (by kernel_rfl) (by kernel_rfl) (some 135) rfl 24 #[] ?hrun ((labTop_any _).mono ?_)
        case hrun => go_simp
        rintro e wt ⟨he, hbt⟩
        have hSt : Below wx.heap.size wx.drew wt := hSn7.trans (hbt.mono hSn7.size)
        refine ⟨_, he, hSt, ?_⟩
        have hlt := heap_alloc_last wt (.cells #[.int .u8 p.1, .int .u16 p.2, .int .u8 15, .int .u16 65535] 25)
        have hSu := hSt.alloc hSt.size (.cells #[.int .u8 p.1, .int .u16 p.2, .int .u8 15, .int .u16 65535] 25)
        unfold labV
        refine loudH 54 rfl (by kernel_rfl) (by kernel_rfl) (some 136) rfl (.slice (some ⟨wt.heap.size, 0, none⟩) 2 2) (wt.alloc (.cells #[.int .u8 p.1, .int .u16 p.2, .int .u8 15, .int .u16 65535] 25)) (by go_simp) _ (fun _ h => h) hSu ?_
        generalize wt.alloc (.cells #[.int .u8 p.1, .int .u16 p.2, .int .u8 15, .int .u16 65535] 25) = wu at *
        generalize wt.heap.size = gu at *
        refine callH 55 rfl (by kernel_rfl) (by kernel_rfl) (some 137) rfl 18 #[.slice (some ⟨gu, 0, none⟩) 2 2] ?hrun ((labJoin_any _ [p, (15, 65535)] _ (LS.two p (15, 65535) hp ⟨by simp, by simp⟩ hlt) (by simp)).mono ?_)
        case hrun => go_simp
        rintro e wv ⟨he, hbv⟩
        have hSv : Below wx.heap.size wx.drew wv := hSu.trans (hbv.mono hSu.size)
        rw [joinPair] at he
        obtain ⟨tv, htv⟩ : ∃ tv, tv = joinL p (15, 65535) := ⟨_, rfl⟩
        have htl : leqL p tv = true := by rw [htv]; exact leq_join p _
        have hto : okL tv := by rw [htv]; exact joinL_ok hp ⟨by simp, by simp⟩
        rw [← htv] at he
        clear htv
        unfold labV at he
        refine ⟨_, he, hSv, ?_⟩
        refine callH 56 rfl (by kernel_rfl) (by kernel_rfl) (some 138) rfl 16 #[.agg #[.int .u8 p.1, .int .u16 p.2], .agg #[.int .u8 tv.1, .int .u16 tv.2]] ?hrun ((labLeq_any p tv hp hto _).mono ?_)
        case hrun => go_simp
        rintro e wz ⟨he, hbz⟩
        rw [htl] at he
        have hSz : Below wx.heap.size wx.drew wz := hSv.trans (hbz.mono hSv.size)
        refine ⟨_, he, hSz, ?_⟩
        refine takeH 57 (.bool true) (some 139) rfl rfl (by kernel_rfl) (by kernel_rfl) (by kernel_rfl) (fun _ _ _ h => h) (.inl ⟨by kernel_rfl, fun w _ => by go_simp⟩) hSz ?_
        refine takeH 58 (.bool true) (some 6) rfl rfl (by kernel_rfl) (by kernel_rfl) (by kernel_rfl) (fun _ _ _ h => h) (.inl ⟨by kernel_rfl, fun w _ => by go_simp⟩) hSz ?_
        refine wpAnyH_done (by kernel_rfl) ?_ _
        go_simp
        go_wp2_with fail
        go_ret
        exact ⟨rfl, (LC.keep (Below.trans (bdrewN (Below.refl _ _) 1) hSz)).below⟩
end Go.Proofs.YtcjnnonfnlemmaaDoor
