/- The document's pool: New. -/
import Derived.Test.YtdahmibgjbhmfaaPolD
set_option linter.unusedVariables false
set_option linter.unusedSimpArgs false
namespace Go.Proofs.Ytdahmibgjbhmfaa
open Go.RowKit
open Go.Maps (Keyed)

def frOf (rs : List RegL) (k : Nat) : Nat := if h : k < rs.length then (rs[k]).fr else 0
theorem frOf_at {rs : List RegL} {k : Nat} (h : k < rs.length) : frOf rs k = rs[k].fr := dif_pos h
theorem heap_row3 {w : World} {g : Nat} {t : TypeId} {a b c : Value} (h : w.rowIs g t 3 (newF a b c)) : w.heap[g]? = some (.cells #[a, b, c] t (0, 0)) := by
  rw [rowIs_arr h]
  rfl
set_option maxRecDepth 20000 in
set_option maxHeartbeats 8000000 in
theorem refPoolNew_in (w : World) (rv : Value) (rs : List RegL) (hv : SR w rv rs.length 9 (regCells rs)) (hn0 : 0 < rs.length) (h64 : rs.length ≤ 64) (hfr : ∀ k, k < rs.length → frOf rs k ≤ 1000) (b : Nat) (hb : b ≤ w.heap.size) :
    Calls Try.prog 8 #[rv] w fun e w' => ∃ Y : PoolY, e = .returned (.pointer (some ⟨Y.gq, 0, none⟩)) ∧ Y.m = rs.length ∧ Y.fr = frOf rs ∧ Y.base = b ∧ RP w' Y (fun _ _ => none) (fun _ _ => false) (fun _ _ _ => 0) ∧ Below w.heap.size w w' := by
  obtain ⟨ga, o_, cap, rfl, hc1, hc2, hga, hcell⟩ := RS_cases hv hn0
  obtain ⟨n, hn⟩ : ∃ n, n = rs.length := ⟨_, rfl⟩
  have HCE := Lib.hid (fun k (hk : k < rs.length) => (by rw [frOf_at hk]; exact (hcell k hk).2.2.2.2.2.1 : w.cell? ⟨ga, o_ + k * 9 + 5, none⟩ = some (.int .i64 (frOf rs k : Nat))))
  rw [← hn] at hn0 h64 hc1 ⊢
  have HN := Lib.hid hn
  have HFR := Lib.hid hfr
  have HGA := Lib.hid hga
  have HBB := Lib.hid hb
  clear hv hcell hn hfr hga hb
  have hz0 : (Value.slice none 0 0).oneCell' = true := rfl
  go_enter Try.func8, Try.ntmps8
  go_upto_region 2 with fail
  have hb0 := bnew w (.cells #[.slice (some ⟨ga, o_, none⟩) n cap, .slice none 0 0, .slice none 0 0] 52)
  have r0 := World.rowIs_alloc w #[.slice (some ⟨ga, o_, none⟩) n cap, .slice none 0 0, .slice none 0 0] 52 (newF (.slice (some ⟨ga, o_, none⟩) n cap) (.slice none 0 0) (.slice none 0 0)) (fun i hi => by
    rcases (show i = 0 ∨ i = 1 ∨ i = 2 by simp at hi; omega) with rfl | rfl | rfl <;> rfl)
  have hw0 : NW w (w.alloc (.cells #[.slice (some ⟨ga, o_, none⟩) n cap, .slice none 0 0, .slice none 0 0] 52)) w.heap.size (.slice (some ⟨ga, o_, none⟩) n cap) (frOf rs) 0 0 (.slice none 0 0) (.slice none 0 0) (fun _ => 0) (fun _ => 0) :=
    ⟨r0, NP.nil _ _ _ _, NP.nil _ _ _ _, hb0, Nat.le_refl _⟩
  obtain ⟨gq, hgq⟩ : ∃ gq, gq = w.heap.size := ⟨_, rfl⟩
  obtain ⟨w1, hw1⟩ : ∃ w1, w1 = w.alloc (.cells #[.slice (some ⟨ga, o_, none⟩) n cap, .slice none 0 0, .slice none 0 0] 52) := ⟨_, rfl⟩
  rw [← hgq, ← hw1] at hw0
  rw [← hgq, ← hw1]
  have HW0 := Lib.hid hw0
  clear hb0 r0 hw0 hgq hw1
  go_wp2_with fail
  go_loopw [4] (fun r4 wx => ∃ (i : Nat) (vT vB : Value) (tb bb : Nat → Nat), i ≤ n ∧ r4 = .int .i64 i ∧ NW w wx gq (.slice (some ⟨ga, o_, none⟩) n cap) (frOf rs) i i vT vB tb bb) (fun r4 _ => n - (intOf r4).toNat)
  case atStart => exact ⟨0, _, _, _, _, Nat.zero_le _, rfl, HW0.out⟩
  case round =>
    clear HW0
    obtain ⟨i, vT, vB, tb, bb, hi, rfl, hnw⟩ := hrel
    have HNW := Lib.hid hnw
    clear hnw
    by_cases hlt : i < n
    · have g1 : (i : Int) < n := by omega
      have hirs : i < rs.length := by rw [← HN.out]; exact hlt
      have hfi := HFR.out i hirs
      have hce := HCE.out i hirs
      obtain ⟨f, hf⟩ : ∃ f, f = frOf rs i := ⟨_, rfl⟩
      rw [← hf] at hfi hce
      have HF := Lib.hid hf
      have HREG := Lib.hid (show ∀ w', Below w.heap.size w w' → w'.cell? ⟨ga, o_ + i * 9 + 5, none⟩ = some (.int .i64 (f : Nat)) from fun w' hb => by
        rw [World.cell?_of_block (w := w) (a := ⟨ga, o_ + i * 9 + 5, none⟩) (hb.block ga HGA.out)]; exact hce)
      clear hf hce hirs
      go_upto_region 5 with fail
      have hx7 : (fun w' : World => w'.cell? ⟨ga, o_ + i * 9 + 5, none⟩ = some (.int .i64 (f : Nat))) (World.drew wr) := HREG.out _ ((HNW.out.bl).trans ((drewb wr).mono HNW.out.bl.size))
      have hg7 : (fun w' : World => w'.heap[gq]? = some (.cells #[.slice (some ⟨ga, o_, none⟩) n cap, vT, vB] 52 (0, 0))) (World.drew wr) := heap_row3 HNW.out.row
      have hS0 : ∀ l, Stage (fun w' : World => w'.cell? ⟨ga, o_ + i * 9 + 5, none⟩ = some (.int .i64 (f : Nat))) [(15, (fun w' : World => w'.heap[gq]? = some (.cells #[.slice (some ⟨ga, o_, none⟩) n cap, vT, vB] 52 (0, 0))))] l (World.drew wr) := fun l => Stage.one hx7 (fun _ => hg7)
      have hmk : ∀ w, (Instr.makeSlice 48 (.int .i64 (f : Nat)) (.int .i64 (f : Nat))).run Try.prog w = .ok (.slice (some ⟨w.heap.size, 0, none⟩) f f) (w.alloc (.cells (madeCells #[.bool false] f) 4)) := fun w => run_make_row' (P := Try.prog) 48 4 (.bool false) 1 Try.underlying48 (by kernel_rfl) rfl .i64 .i64 f (by omega) (by omega) w
      refine wp_region_gen (S := Stage (fun w' : World => w'.cell? ⟨ga, o_ + i * 9 + 5, none⟩ = some (.int .i64 (f : Nat))) [(15, (fun w' : World => w'.heap[gq]? = some (.cells #[.slice (some ⟨ga, o_, none⟩) n cap, vT, vB] 52 (0, 0))))]) (by kernel_rfl) ?_
      change wpAnyG _ _ _ _ _ _ _ _ (World.drew _)
      refine takeG 0 (.pointer (some ⟨gq, 0, none⟩)) (some 14) rfl rfl (by kernel_rfl) (by kernel_rfl) (by kernel_rfl) (by kernel_rfl) (fun _ _ _ h => h) (.inl ⟨by kernel_rfl, fun w hw => by go_simp⟩) (hS0 _) ?_
      refine takeG 1 (.pointer (some ⟨gq, 0, none⟩)) (some 15) rfl rfl (by kernel_rfl) (by kernel_rfl) (by kernel_rfl) (by kernel_rfl) (fun _ _ _ h => h) (.inl ⟨by kernel_rfl, fun w hw => by go_simp⟩) (hS0 _) ?_
      refine takeG 2 (.pointer (some ⟨gq, 0, none⟩)) (some 16) rfl rfl (by kernel_rfl) (by kernel_rfl) (by kernel_rfl) (by kernel_rfl) (fun _ _ _ h => h) (.inl ⟨by kernel_rfl, fun w hw => by go_simp⟩) (hS0 _) ?_
      go_simp
      refine takeG 3 (.pointer (some ⟨gq, 1, none⟩)) (some 17) rfl rfl (by kernel_rfl) (by kernel_rfl) (by kernel_rfl) (by kernel_rfl) (fun _ _ _ h => h) (.inl ⟨by kernel_rfl, fun w hw => by go_simp⟩) (hS0 _) ?_
      refine takeUntil 4 15 List.mem_cons_self (by kernel_rfl) (by kernel_rfl) (vT) (some 18) rfl rfl (by kernel_rfl) (by kernel_rfl) (by kernel_rfl) (by kernel_rfl) (fun _ _ _ h => h) (.inl ⟨by kernel_rfl, fun w hw => by have hc := rowcell (And.right hw); go_simp⟩) (hS0 _) ?_
      refine takeG 5 (.slice (some ⟨ga, o_, none⟩) n cap) (some 19) rfl rfl (by kernel_rfl) (by kernel_rfl) (by kernel_rfl) (by kernel_rfl) (fun _ _ _ h => h) (.inl ⟨by kernel_rfl, fun w hw => by go_simp⟩) (hS0 _) ?_
      go_simp
      refine takeG 6 (.int .i64 i) (some 20) rfl rfl (by kernel_rfl) (by kernel_rfl) (by kernel_rfl) (by kernel_rfl) (fun _ _ _ h => h) (.inl ⟨by kernel_rfl, fun w hw => by go_simp⟩) (hS0 _) ?_
      refine takeG 7 (.pointer (some ⟨ga, o_ + i * 9, none⟩)) (some 21) rfl rfl (by kernel_rfl) (by kernel_rfl) (by kernel_rfl) (by kernel_rfl) (fun _ _ _ h => h) (.inl ⟨by kernel_rfl, fun w hw => by go_simp⟩) (hS0 _) ?_
      refine takeG 8 (.pointer (some ⟨ga, o_ + i * 9 + 5, none⟩)) (some 22) rfl rfl (by kernel_rfl) (by kernel_rfl) (by kernel_rfl) (by kernel_rfl) (fun _ _ _ h => h) (.inl ⟨by kernel_rfl, fun w hw => by go_simp⟩) (hS0 _) ?_
      go_simp
      refine takeG 9 (.int .i64 f) (some 23) rfl rfl (by kernel_rfl) (by kernel_rfl) (by kernel_rfl) (by kernel_rfl) (fun _ _ _ h => h) (.inl ⟨by kernel_rfl, fun w hw => by have hc := hw; go_simp⟩) (hS0 _) ?_
      go_simp
      have hb8a := bnew (World.drew wr) (.cells (madeCells #[.bool false] f) 4)
      have hm8 := World.rowIs_made (World.drew wr) (.bool false) f 4
      have hx8 := HREG.out ((World.drew wr).alloc (.cells (madeCells #[.bool false] f) 4)) ((HNW.out.bl.trans ((drewb wr).mono HNW.out.bl.size)).trans (hb8a.mono HNW.out.bl.size))
      have hg8 := bkeep hb8a hg7
      have hS8 : ∀ l, Stage (fun w' : World => w'.cell? ⟨ga, o_ + i * 9 + 5, none⟩ = some (.int .i64 (f : Nat))) [(15, (fun w' : World => w'.heap[gq]? = some (.cells #[.slice (some ⟨ga, o_, none⟩) n cap, vT, vB] 52 (0, 0))))] l ((World.drew wr).alloc (.cells (madeCells #[.bool false] f) 4)) := fun l => Stage.one hx8 (fun _ => hg8)
      refine runG 10 (.slice (some ⟨wr.heap.size, 0, none⟩) f f) (some 24) rfl (by kernel_rfl) (by kernel_rfl) rfl (w' := (World.drew wr).alloc (.cells (madeCells #[.bool false] f) 4)) (exec_make 48 (.tmp 23) (.tmp 23) rfl _ (hmk (World.drew wr))) (hS8 _) ?_
      obtain ⟨G, hG⟩ : ∃ G, G = wr.heap.size := ⟨_, rfl⟩
      rw [show (World.drew wr).heap.size = wr.heap.size from rfl, ← hG] at hm8
      rw [← hG]
      have hb8 : Below wr.heap.size wr ((World.drew wr).alloc (.cells (madeCells #[.bool false] f) 4)) := (drewb wr).trans hb8a
      obtain ⟨w8, hw8⟩ : ∃ w8, w8 = (World.drew wr).alloc (.cells (madeCells #[.bool false] f) 4) := ⟨_, rfl⟩
      rw [← hw8] at hm8 hx8 hg8 hS8 hb8 ⊢
      clear hmk hb8a hw8
      have hl := heap_alloc_last w8 (.cells #[.slice (some ⟨G, 0, none⟩) f f] 48)
      have hbl := bnew w8 (.cells #[.slice (some ⟨G, 0, none⟩) f f] 48)
      have hgl := bkeep hbl hg8
      have hxl := HREG.out (w8.alloc (.cells #[.slice (some ⟨G, 0, none⟩) f f] 48)) ((bnext HNW.out.bl hb8).trans (hbl.mono (Nat.le_trans HNW.out.bl.size hb8.size)))
      have hSl : ∀ l, Stage (fun w' : World => w'.cell? ⟨ga, o_ + i * 9 + 5, none⟩ = some (.int .i64 (f : Nat))) [(15, (fun w' : World => w'.heap[gq]? = some (.cells #[.slice (some ⟨ga, o_, none⟩) n cap, vT, vB] 52 (0, 0))))] l (w8.alloc (.cells #[.slice (some ⟨G, 0, none⟩) f f] 48)) := fun l => Stage.one hxl (fun _ => hgl)
      go_simp
      refine runG 11 (.slice (some ⟨w8.heap.size, 0, none⟩) 1 1) (some 25) rfl (by kernel_rfl) (by kernel_rfl) rfl (w' := w8.alloc (.cells #[.slice (some ⟨G, 0, none⟩) f f] 48)) (by go_simp) (hSl _) ?_
      have hown8 := own_below (own_below HNW.out.pt.own hb8) hbl
      have hbL : Below wr.heap.size wr (w8.alloc (.cells #[.slice (some ⟨G, 0, none⟩) f f] 48)) := hb8.trans (hbl.mono hb8.size)
      have hmL := hm8.of_block (hbl.block G hm8.lt)
      have hqlt : gq < wr.heap.size := HNW.out.row.lt
      obtain ⟨wl, hwl⟩ : ∃ wl, wl = w8.alloc (.cells #[.slice (some ⟨G, 0, none⟩) f f] 48) := ⟨_, rfl⟩
      rw [← hwl] at hl hgl hxl hSl hown8 hbL hmL ⊢
      clear hwl hbl hm8 hb8 hx8 hg8 hS8
      refine appendG1 12 rfl (by kernel_rfl) (by kernel_rfl) (some 26) rfl (.tmp 18) (.tmp 25) 49 rfl (gq + 1) 48 (.slice none 0 0) 1 24 Try.underlying49 (by kernel_rfl) rfl (by decide) (vT) _ i 1 (rowsL tb (frOf rs) i) (#[.slice (some ⟨G, 0, none⟩) f f] : Array Value).toList (by go_simp) hown8 (by go_simp) (SR.lit hl rfl) (List.all_eq_true.1 (by rfl)) (by unfold maxLen; omega) (by omega) (by have := hbL.size; omega) (fun v2 w9 hown hgr9 hloc => ?_)
      have o9 := one_of_grown hgr9
      have hvb : ∀ y, (vT).ownBlock = some y → gq < y ∧ y < wr.heap.size := fun y e => by
        obtain ⟨h1, cur, h2⟩ := own_blk HNW.out.pt.own e
        exact ⟨by omega, rowlt h2⟩
      have hg9 := o9.blk hgl (fun e => by have := (hvb _ e).1; omega)
      have hv2c := own_oneCell hown
      have hx9 : (fun w' : World => w'.cell? ⟨ga, o_ + i * 9 + 5, none⟩ = some (.int .i64 (f : Nat))) w9 := HREG.out w9 ((HNW.out.bl.trans (hbL.mono HNW.out.bl.size)).trans (o9.toBelow (fun k e => by have := (hvb k e).1; have := HNW.out.g0; omega) (Nat.le_trans HNW.out.bl.size hbL.size)))
      have hS9 : ∀ l, Stage (fun w' : World => w'.cell? ⟨ga, o_ + i * 9 + 5, none⟩ = some (.int .i64 (f : Nat))) [(15, (fun w' : World => w'.heap[gq]? = some (.cells #[.slice (some ⟨ga, o_, none⟩) n cap, vT, vB] 52 (0, 0))))] l w9 := fun l => Stage.one hx9 (fun _ => hg9)
      refine ⟨hS9 _, ?_⟩
      go_simp
      refine takeG 13 (.pointer (some ⟨gq, 0, none⟩)) (some 27) rfl rfl (by kernel_rfl) (by kernel_rfl) (by kernel_rfl) (by kernel_rfl) (fun _ _ _ h => h) (.inl ⟨by kernel_rfl, fun w hw => by go_simp⟩) (hS9 _) ?_
      refine takeG 14 (.pointer (some ⟨gq, 1, none⟩)) (some 28) rfl rfl (by kernel_rfl) (by kernel_rfl) (by kernel_rfl) (by kernel_rfl) (fun _ _ _ h => h) (.inl ⟨by kernel_rfl, fun w hw => by go_simp⟩) (hS9 _) ?_
      go_simp
      refine storeCellG 15 rfl (by kernel_rfl) (by kernel_rfl) rfl 49 (.tmp 28) (.tmp 26) rfl 1 v2 #[.slice (some ⟨ga, o_, none⟩) n cap, vT, vB] 52 (g := gq) (by go_simp) (by go_simp) (by kernel_rfl) (by kernel_rfl) hv2c hg9 (by simp) (fun w10 hq10 o10 => ?_)
      have hg10 : w10.heap[gq]? = some (.cells #[.slice (some ⟨ga, o_, none⟩) n cap, v2, vB] 52 (0, 0)) := hq10
      have hb10 : Below w.heap.size w w10 := bone ((HNW.out.bl.trans (hbL.mono HNW.out.bl.size)).trans (o9.toBelow (fun k e => by have := (hvb k e).1; have := HNW.out.g0; omega) (Nat.le_trans HNW.out.bl.size hbL.size))) o10 HNW.out.g0 (by have := HNW.out.bl.size; have := hbL.size; have := o9.size; omega)
      have hx10 : (fun w' : World => w'.cell? ⟨ga, o_ + i * 9 + 5, none⟩ = some (.int .i64 (f : Nat))) w10 := HREG.out w10 hb10
      refine ⟨Stage.late1 hx10 _ (by kernel_rfl), ?_⟩
      refine wpAnyG_done (by kernel_rfl) ?_ _
      go_simp
      have hrow10 : w10.rowIs gq 52 3 (newF (.slice (some ⟨ga, o_, none⟩) n cap) v2 vB) := rowIs_of_arr hg10
      rw [HF.out] at hmL hown
      have hnw2 := HNW.out.addT hbL (by rw [hG]; exact Nat.le_refl _) hmL o9 hown o10 hrow10
      have HNQ := Lib.hid hnw2
      obtain ⟨v1, hv1⟩ : ∃ v1, v1 = v2 := ⟨_, rfl⟩
      obtain ⟨wQ, hwQ⟩ : ∃ wQ, wQ = w10 := ⟨_, rfl⟩
      obtain ⟨tq, htq⟩ : ∃ tq, tq = setN tb i G := ⟨_, rfl⟩
      rw [← hv1, ← hwQ, ← htq] at HNQ
      try rw [← hwQ]
      try rw [← hv1]
      clear HNW hnw2 hv1 hwQ htq hrow10 hx10 hb10 hg10 hq10 o10 hS9 hx9 hv2c hg9 hvb o9 hown hgr9 hloc hqlt hmL hbL hown8 hSl hxl hgl hl hG hS0 hg7 hx7
      go_upto_region 6 with fail
      have hx7 : (fun w' : World => w'.cell? ⟨ga, o_ + i * 9 + 5, none⟩ = some (.int .i64 (f : Nat))) (World.drew wQ) := HREG.out _ ((HNQ.out.bl).trans ((drewb wQ).mono HNQ.out.bl.size))
      have hg7 : (fun w' : World => w'.heap[gq]? = some (.cells #[.slice (some ⟨ga, o_, none⟩) n cap, v1, vB] 52 (0, 0))) (World.drew wQ) := heap_row3 HNQ.out.row
      have hS0 : ∀ l, Stage (fun w' : World => w'.cell? ⟨ga, o_ + i * 9 + 5, none⟩ = some (.int .i64 (f : Nat))) [(15, (fun w' : World => w'.heap[gq]? = some (.cells #[.slice (some ⟨ga, o_, none⟩) n cap, v1, vB] 52 (0, 0))))] l (World.drew wQ) := fun l => Stage.one hx7 (fun _ => hg7)
      have hmk : ∀ w, (Instr.makeSlice 54 (.int .i64 (f : Nat)) (.int .i64 (f : Nat))).run Try.prog w = .ok (.slice (some ⟨w.heap.size, 0, none⟩) f f) (w.alloc (.cells (madeCells #[.slice none 0 0] f) 24)) := fun w => run_make_row' (P := Try.prog) 54 24 (.slice none 0 0) 24 Try.underlying54 (by kernel_rfl) rfl .i64 .i64 f (by omega) (by omega) w
      refine wp_region_gen (S := Stage (fun w' : World => w'.cell? ⟨ga, o_ + i * 9 + 5, none⟩ = some (.int .i64 (f : Nat))) [(15, (fun w' : World => w'.heap[gq]? = some (.cells #[.slice (some ⟨ga, o_, none⟩) n cap, v1, vB] 52 (0, 0))))]) (by kernel_rfl) ?_
      change wpAnyG _ _ _ _ _ _ _ _ (World.drew _)
      refine takeG 0 (.pointer (some ⟨gq, 0, none⟩)) (some 29) rfl rfl (by kernel_rfl) (by kernel_rfl) (by kernel_rfl) (by kernel_rfl) (fun _ _ _ h => h) (.inl ⟨by kernel_rfl, fun w hw => by go_simp⟩) (hS0 _) ?_
      refine takeG 1 (.pointer (some ⟨gq, 0, none⟩)) (some 30) rfl rfl (by kernel_rfl) (by kernel_rfl) (by kernel_rfl) (by kernel_rfl) (fun _ _ _ h => h) (.inl ⟨by kernel_rfl, fun w hw => by go_simp⟩) (hS0 _) ?_
      refine takeG 2 (.pointer (some ⟨gq, 0, none⟩)) (some 31) rfl rfl (by kernel_rfl) (by kernel_rfl) (by kernel_rfl) (by kernel_rfl) (fun _ _ _ h => h) (.inl ⟨by kernel_rfl, fun w hw => by go_simp⟩) (hS0 _) ?_
      go_simp
      refine takeG 3 (.pointer (some ⟨gq, 2, none⟩)) (some 32) rfl rfl (by kernel_rfl) (by kernel_rfl) (by kernel_rfl) (by kernel_rfl) (fun _ _ _ h => h) (.inl ⟨by kernel_rfl, fun w hw => by go_simp⟩) (hS0 _) ?_
      refine takeUntil 4 15 List.mem_cons_self (by kernel_rfl) (by kernel_rfl) (vB) (some 33) rfl rfl (by kernel_rfl) (by kernel_rfl) (by kernel_rfl) (by kernel_rfl) (fun _ _ _ h => h) (.inl ⟨by kernel_rfl, fun w hw => by have hc := rowcell (And.right hw); go_simp⟩) (hS0 _) ?_
      refine takeG 5 (.slice (some ⟨ga, o_, none⟩) n cap) (some 34) rfl rfl (by kernel_rfl) (by kernel_rfl) (by kernel_rfl) (by kernel_rfl) (fun _ _ _ h => h) (.inl ⟨by kernel_rfl, fun w hw => by go_simp⟩) (hS0 _) ?_
      go_simp
      refine takeG 6 (.int .i64 i) (some 35) rfl rfl (by kernel_rfl) (by kernel_rfl) (by kernel_rfl) (by kernel_rfl) (fun _ _ _ h => h) (.inl ⟨by kernel_rfl, fun w hw => by go_simp⟩) (hS0 _) ?_
      refine takeG 7 (.pointer (some ⟨ga, o_ + i * 9, none⟩)) (some 36) rfl rfl (by kernel_rfl) (by kernel_rfl) (by kernel_rfl) (by kernel_rfl) (fun _ _ _ h => h) (.inl ⟨by kernel_rfl, fun w hw => by go_simp⟩) (hS0 _) ?_
      refine takeG 8 (.pointer (some ⟨ga, o_ + i * 9 + 5, none⟩)) (some 37) rfl rfl (by kernel_rfl) (by kernel_rfl) (by kernel_rfl) (by kernel_rfl) (fun _ _ _ h => h) (.inl ⟨by kernel_rfl, fun w hw => by go_simp⟩) (hS0 _) ?_
      go_simp
      refine takeG 9 (.int .i64 f) (some 38) rfl rfl (by kernel_rfl) (by kernel_rfl) (by kernel_rfl) (by kernel_rfl) (fun _ _ _ h => h) (.inl ⟨by kernel_rfl, fun w hw => by have hc := hw; go_simp⟩) (hS0 _) ?_
      go_simp
      have hb8a := bnew (World.drew wQ) (.cells (madeCells #[.slice none 0 0] f) 24)
      have hm8 := World.rowIs_made (World.drew wQ) (.slice none 0 0) f 24
      have hx8 := HREG.out ((World.drew wQ).alloc (.cells (madeCells #[.slice none 0 0] f) 24)) ((HNQ.out.bl.trans ((drewb wQ).mono HNQ.out.bl.size)).trans (hb8a.mono HNQ.out.bl.size))
      have hg8 := bkeep hb8a hg7
      have hS8 : ∀ l, Stage (fun w' : World => w'.cell? ⟨ga, o_ + i * 9 + 5, none⟩ = some (.int .i64 (f : Nat))) [(15, (fun w' : World => w'.heap[gq]? = some (.cells #[.slice (some ⟨ga, o_, none⟩) n cap, v1, vB] 52 (0, 0))))] l ((World.drew wQ).alloc (.cells (madeCells #[.slice none 0 0] f) 24)) := fun l => Stage.one hx8 (fun _ => hg8)
      refine runG 10 (.slice (some ⟨wQ.heap.size, 0, none⟩) f f) (some 39) rfl (by kernel_rfl) (by kernel_rfl) rfl (w' := (World.drew wQ).alloc (.cells (madeCells #[.slice none 0 0] f) 24)) (exec_make 54 (.tmp 38) (.tmp 38) rfl _ (hmk (World.drew wQ))) (hS8 _) ?_
      obtain ⟨G, hG⟩ : ∃ G, G = wQ.heap.size := ⟨_, rfl⟩
      rw [show (World.drew wQ).heap.size = wQ.heap.size from rfl, ← hG] at hm8
      rw [← hG]
      have hb8 : Below wQ.heap.size wQ ((World.drew wQ).alloc (.cells (madeCells #[.slice none 0 0] f) 24)) := (drewb wQ).trans hb8a
      obtain ⟨w8, hw8⟩ : ∃ w8, w8 = (World.drew wQ).alloc (.cells (madeCells #[.slice none 0 0] f) 24) := ⟨_, rfl⟩
      rw [← hw8] at hm8 hx8 hg8 hS8 hb8 ⊢
      clear hmk hb8a hw8
      have hl := heap_alloc_last w8 (.cells #[.slice (some ⟨G, 0, none⟩) f f] 54)
      have hbl := bnew w8 (.cells #[.slice (some ⟨G, 0, none⟩) f f] 54)
      have hgl := bkeep hbl hg8
      have hxl := HREG.out (w8.alloc (.cells #[.slice (some ⟨G, 0, none⟩) f f] 54)) ((bnext HNQ.out.bl hb8).trans (hbl.mono (Nat.le_trans HNQ.out.bl.size hb8.size)))
      have hSl : ∀ l, Stage (fun w' : World => w'.cell? ⟨ga, o_ + i * 9 + 5, none⟩ = some (.int .i64 (f : Nat))) [(15, (fun w' : World => w'.heap[gq]? = some (.cells #[.slice (some ⟨ga, o_, none⟩) n cap, v1, vB] 52 (0, 0))))] l (w8.alloc (.cells #[.slice (some ⟨G, 0, none⟩) f f] 54)) := fun l => Stage.one hxl (fun _ => hgl)
      go_simp
      refine runG 11 (.slice (some ⟨w8.heap.size, 0, none⟩) 1 1) (some 40) rfl (by kernel_rfl) (by kernel_rfl) rfl (w' := w8.alloc (.cells #[.slice (some ⟨G, 0, none⟩) f f] 54)) (by go_simp) (hSl _) ?_
      have hown8 := own_below (own_below HNQ.out.pb.own hb8) hbl
      have hbL : Below wQ.heap.size wQ (w8.alloc (.cells #[.slice (some ⟨G, 0, none⟩) f f] 54)) := hb8.trans (hbl.mono hb8.size)
      have hmL := hm8.of_block (hbl.block G hm8.lt)
      have hqlt : gq < wQ.heap.size := HNQ.out.row.lt
      obtain ⟨wl, hwl⟩ : ∃ wl, wl = w8.alloc (.cells #[.slice (some ⟨G, 0, none⟩) f f] 54) := ⟨_, rfl⟩
      rw [← hwl] at hl hgl hxl hSl hown8 hbL hmL ⊢
      clear hwl hbl hm8 hb8 hx8 hg8 hS8
      refine appendG1 12 rfl (by kernel_rfl) (by kernel_rfl) (some 41) rfl (.tmp 33) (.tmp 40) 50 rfl (gq + 1) 54 (.slice none 0 0) 1 24 Try.underlying50 (by kernel_rfl) rfl (by decide) (vB) _ i 1 (rowsL bb (frOf rs) i) (#[.slice (some ⟨G, 0, none⟩) f f] : Array Value).toList (by go_simp) hown8 (by go_simp) (SR.lit hl rfl) (List.all_eq_true.1 (by rfl)) (by unfold maxLen; omega) (by omega) (by have := hbL.size; omega) (fun v2 w9 hown hgr9 hloc => ?_)
      have o9 := one_of_grown hgr9
      have hvb : ∀ y, (vB).ownBlock = some y → gq < y ∧ y < wQ.heap.size := fun y e => by
        obtain ⟨h1, cur, h2⟩ := own_blk HNQ.out.pb.own e
        exact ⟨by omega, rowlt h2⟩
      have hg9 := o9.blk hgl (fun e => by have := (hvb _ e).1; omega)
      have hv2c := own_oneCell hown
      have hx9 : (fun w' : World => w'.cell? ⟨ga, o_ + i * 9 + 5, none⟩ = some (.int .i64 (f : Nat))) w9 := HREG.out w9 ((HNQ.out.bl.trans (hbL.mono HNQ.out.bl.size)).trans (o9.toBelow (fun k e => by have := (hvb k e).1; have := HNQ.out.g0; omega) (Nat.le_trans HNQ.out.bl.size hbL.size)))
      have hS9 : ∀ l, Stage (fun w' : World => w'.cell? ⟨ga, o_ + i * 9 + 5, none⟩ = some (.int .i64 (f : Nat))) [(15, (fun w' : World => w'.heap[gq]? = some (.cells #[.slice (some ⟨ga, o_, none⟩) n cap, v1, vB] 52 (0, 0))))] l w9 := fun l => Stage.one hx9 (fun _ => hg9)
      refine ⟨hS9 _, ?_⟩
      go_simp
      refine takeG 13 (.pointer (some ⟨gq, 0, none⟩)) (some 42) rfl rfl (by kernel_rfl) (by kernel_rfl) (by kernel_rfl) (by kernel_rfl) (fun _ _ _ h => h) (.inl ⟨by kernel_rfl, fun w hw => by go_simp⟩) (hS9 _) ?_
      refine takeG 14 (.pointer (some ⟨gq, 2, none⟩)) (some 43) rfl rfl (by kernel_rfl) (by kernel_rfl) (by kernel_rfl) (by kernel_rfl) (fun _ _ _ h => h) (.inl ⟨by kernel_rfl, fun w hw => by go_simp⟩) (hS9 _) ?_
      go_simp
      refine storeCellG 15 rfl (by kernel_rfl) (by kernel_rfl) rfl 50 (.tmp 43) (.tmp 41) rfl 2 v2 #[.slice (some ⟨ga, o_, none⟩) n cap, v1, vB] 52 (g := gq) (by go_simp) (by go_simp) (by kernel_rfl) (by kernel_rfl) hv2c hg9 (by simp) (fun w10 hq10 o10 => ?_)
      have hg10 : w10.heap[gq]? = some (.cells #[.slice (some ⟨ga, o_, none⟩) n cap, v1, v2] 52 (0, 0)) := hq10
      have hb10 : Below w.heap.size w w10 := bone ((HNQ.out.bl.trans (hbL.mono HNQ.out.bl.size)).trans (o9.toBelow (fun k e => by have := (hvb k e).1; have := HNQ.out.g0; omega) (Nat.le_trans HNQ.out.bl.size hbL.size))) o10 HNQ.out.g0 (by have := HNQ.out.bl.size; have := hbL.size; have := o9.size; omega)
      have hx10 : (fun w' : World => w'.cell? ⟨ga, o_ + i * 9 + 5, none⟩ = some (.int .i64 (f : Nat))) w10 := HREG.out w10 hb10
      refine ⟨Stage.late1 hx10 _ (by kernel_rfl), ?_⟩
      refine wpAnyG_done (by kernel_rfl) ?_ _
      go_simp
      have hrow10 : w10.rowIs gq 52 3 (newF (.slice (some ⟨ga, o_, none⟩) n cap) v1 v2) := rowIs_of_arr hg10
      rw [HF.out] at hmL hown
      have hnw2 := HNQ.out.addB hbL (by rw [hG]; exact Nat.le_refl _) hmL o9 hown o10 hrow10
      have HNZ := Lib.hid hnw2
      clear HNQ hnw2 hrow10 hx10 hb10 hg10 hq10 o10 hS9 hx9 hv2c hg9 hvb o9 hown hgr9 hloc hqlt hmL hbL hown8 hSl hxl hgl hl hG hS0 hg7 hx7
      go_wp2_with fail
      go_roundw
      case rel => exact ⟨i + 1, _, _, _, _, by omega, by go_num, HNZ.out⟩
      case measure => simp [intOf]; omega
    · obtain rfl : i = n := by omega
      go_wp2_with fail
      go_ret
      obtain ⟨Y, h1, h2, h3, h4, h5⟩ := HNW.out.done hn0 h64 (fun k hk => HFR.out k (by rw [← HN.out]; exact hk)) b HBB.out
      exact ⟨Y, by rw [h1]; rfl, h2, h3, h4, h5, HNW.out.bl⟩
end Go.Proofs.Ytdahmibgjbhmfaa
