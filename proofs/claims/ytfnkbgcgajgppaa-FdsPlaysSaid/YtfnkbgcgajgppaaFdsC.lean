/- Open things: Share, Drop, Seek, Get, Refs. -/
import Derived.Test.YtfnkbgcgajgppaaFdsB
set_option linter.unusedVariables false
set_option linter.unusedSimpArgs false
namespace Go.Proofs.Ytfnkbgcgajgppaa
open Go.RowKit
open Go.Maps (Keyed)

theorem entA_14 {O : Array Value} (h : okO O) (r : Nat) : (entA (O, r))[14]? = some (.int .i64 r) := by
  have h1 := h.1
  unfold entA
  rw [Array.getElem?_push, h1, if_pos rfl]
theorem entA_set {O : Array Value} (h : okO O) (r q : Nat) : (entA (O, r)).setIfInBounds 14 (.int .i64 q) = entA (O, q) := by
  have h1 := h.1
  unfold entA
  apply Array.ext_getElem?
  intro i
  rw [Array.getElem?_setIfInBounds]
  simp only [Array.getElem?_push, Array.size_push, h1]
  by_cases hi : 14 = i
  · subst hi; simp
  · rw [if_neg hi, if_neg (fun e => hi e.symm), if_neg (fun e => hi e.symm)]
theorem entA_low {O : Array Value} (h : okO O) (r : Nat) {j : Nat} (hj : j < 14) : (entA (O, r))[j]? = O[j]? := by
  have h1 := h.1
  simp [entA, Array.getElem?_push, h1, Nat.ne_of_lt hj]
theorem entA_off {O : Array Value} (h : okO O) (r : Nat) (v : Value) {j : Nat} (hj : j < 14) : (entA (O, r)).setIfInBounds j v = entA (O.setIfInBounds j v, r) := by
  have h1 := h.1
  unfold entA
  apply Array.ext_getElem?
  intro i
  simp only [Array.getElem?_setIfInBounds, Array.getElem?_push, Array.size_push, Array.size_setIfInBounds, h1]
  by_cases hi : j = i
  · subst hi
    simp [hj, Nat.ne_of_lt hj]
    omega
  · rw [if_neg hi]
    by_cases he : i = 14
    · simp [he]
    · simp [he, hi]
theorem okO_set {O : Array Value} (h : okO O) (j : Nat) (v : Value) (hv : v.oneCell' = true) : okO (O.setIfInBounds j v) := by
  refine ⟨by simpa using h.1, fun x hx => ?_⟩
  simp only [Array.toList_setIfInBounds] at hx
  rcases List.mem_or_eq_of_mem_set hx with h' | rfl
  · exact h.2 x h'
  · exact hv
theorem ent_field0 (O : Array Value) (hO : okO O) (r : Nat) (w : World) : (Instr.field 155 (.agg (entA (O, r))) 0).run Try.prog w = .ok (.agg O) w := by
  obtain ⟨l⟩ := O
  have h := hO.1
  simp only [List.size_toArray] at h
  match l, h with
  | [a, b, c, d, e, f, g, q, i, j, k, s, m, n], _ =>
    show (Instr.field 155 (.agg (entA (#[a, b, c, d, e, f, g, q, i, j, k, s, m, n], r))) 0).run Try.prog w = .ok (.agg #[a, b, c, d, e, f, g, q, i, j, k, s, m, n]) w
    kernel_rfl
theorem ent_field1 (O : Array Value) (hO : okO O) (r : Nat) (w : World) : (Instr.field 155 (.agg (entA (O, r))) 1).run Try.prog w = .ok (.int .i64 r) w := by
  obtain ⟨l⟩ := O
  have h := hO.1
  simp only [List.size_toArray] at h
  match l, h with
  | [a, b, c, d, e, f, g, q, i, j, k, s, m, n], _ =>
    show (Instr.field 155 (.agg (entA (#[a, b, c, d, e, f, g, q, i, j, k, s, m, n], r))) 1).run Try.prog w = .ok (.int .i64 r) w
    kernel_rfl
theorem entOr_some {F : Nat × Nat → Option (Array Value × Nat)} {p : Nat × Nat} {x : Array Value × Nat} (h : F p = some x) : entOr (F p) = entA x := by rw [h]; rfl

/-- Ahead of a call that reads one: the number lies in a new block. -/
theorem idNew (w : World) (p : Nat × Nat) : Below w.heap.size w (w.alloc (.cells #[.int .u8 p.1, .int .u16 p.2] 69)) ∧ (w.alloc (.cells #[.int .u8 p.1, .int .u16 p.2] 69)).heap[w.heap.size]? = some (.cells #[.int .u8 p.1, .int .u16 p.2] 69 (0, 0)) := ⟨bnew w _, heap_alloc_last w _⟩

section
variable {w : World} {g gm : Nat} {a : Option Addr} {us : Nat → Nat} {F : Nat × Nat → Option (Array Value × Nat)}

set_option maxRecDepth 20000 in
set_option maxHeartbeats 4000000 in
theorem fdsShare_no (h : TP w g gm a us F) (ok : OkF F) (p : Nat × Nat) (h1 : p.1 ≤ 255) (h2 : p.2 ≤ 65535) (hF : F p = none) :
    Calls Try.prog 46 #[.pointer (some ⟨g, 0, none⟩), markV p] w fun e w' => e = .returned (.bool false) ∧ Below w.heap.size w w' := by
  obtain ⟨hbn, hl⟩ := idNew w p
  have HT := Lib.hid (h.keep hbn)
  have HB := Lib.hid hbn
  have HOK := Lib.hid ok
  have HF := Lib.hid hF
  have c1 := rowcell hl
  clear h hbn hF ok hl
  unfold markV
  go_enter Try.func46, Try.ntmps46
  go_wp2_with fail
  refine (fdsHas_in HT.out HOK.out p h1 h2).mono ?_
  rintro e w2 ⟨rfl, hb2⟩
  rw [HF.out]
  have HB2 := Lib.hid (bnext HB.out hb2)
  clear hb2 c1
  go_wp2_with fail
  go_ret
  exact ⟨rfl, HB2.out⟩

set_option maxRecDepth 20000 in
set_option maxHeartbeats 4000000 in
theorem fdsRefs_no (h : TP w g gm a us F) (ok : OkF F) (p : Nat × Nat) (h1 : p.1 ≤ 255) (h2 : p.2 ≤ 65535) (hF : F p = none) :
    Calls Try.prog 51 #[.pointer (some ⟨g, 0, none⟩), markV p] w fun e w' => e = .returned (.int .i64 0) ∧ Below w.heap.size w w' := by
  obtain ⟨hbn, hl⟩ := idNew w p
  have HT := Lib.hid (h.keep hbn)
  have HB := Lib.hid hbn
  have HOK := Lib.hid ok
  have HF := Lib.hid hF
  have c1 := rowcell hl
  clear h hbn hF ok hl
  unfold markV
  go_enter Try.func51, Try.ntmps51
  go_wp2_with fail
  refine (fdsHas_in HT.out HOK.out p h1 h2).mono ?_
  rintro e w2 ⟨rfl, hb2⟩
  rw [HF.out]
  have HB2 := Lib.hid (bnext HB.out hb2)
  clear hb2 c1
  go_wp2_with fail
  go_ret
  exact ⟨rfl, HB2.out⟩

set_option maxRecDepth 20000 in
set_option maxHeartbeats 4000000 in
theorem fdsSeek_no (h : TP w g gm a us F) (ok : OkF F) (p : Nat × Nat) (h1 : p.1 ≤ 255) (h2 : p.2 ≤ 65535) (i : Int) (hF : F p = none) :
    Calls Try.prog 48 #[.pointer (some ⟨g, 0, none⟩), markV p, .int .i64 i] w fun e w' => e = .returned (.tuple #[]) ∧ Below w.heap.size w w' := by
  obtain ⟨hbn, hl⟩ := idNew w p
  have HT := Lib.hid (h.keep hbn)
  have HB := Lib.hid hbn
  have HOK := Lib.hid ok
  have HF := Lib.hid hF
  have c1 := rowcell hl
  clear h hbn hF ok hl
  unfold markV
  go_enter Try.func48, Try.ntmps48
  go_wp2_with fail
  refine (fdsHas_in HT.out HOK.out p h1 h2).mono ?_
  rintro e w2 ⟨rfl, hb2⟩
  rw [HF.out]
  have HB2 := Lib.hid (bnext HB.out hb2)
  clear hb2 c1
  go_wp2_with fail
  go_end0
  exact ⟨rfl, HB2.out⟩

set_option maxRecDepth 20000 in
set_option maxHeartbeats 4000000 in
theorem fdsShare_yes (h : TP w g gm a us F) (ok : OkF F) (p : Nat × Nat) (h1 : p.1 < 64) (h2 : p.2 ≤ 65535) (O : Array Value) (r : Nat) (hF : F p = some (O, r)) (hr : r < 1000000) :
    Calls Try.prog 46 #[.pointer (some ⟨g, 0, none⟩), markV p] w fun e w' => e = .returned (.bool true) ∧ TP w' g gm a us (putF F p (O, r + 1)) ∧ Duo w w' g gm := by
  have hOK := ok p _ hF
  obtain ⟨hbn, hl⟩ := idNew w p
  have HT := Lib.hid (h.keep hbn)
  have HB := Lib.hid hbn
  have HL := Lib.hid hl
  have HOK := Lib.hid ok
  have HOO := Lib.hid hOK
  have HF := Lib.hid hF
  have HX0 := Lib.hid (show g < w.heap.size ∧ gm < w.heap.size from ⟨h.row.lt, h.mp.lt⟩)
  obtain ⟨l, hkey⟩ := key_id p (by omega) h2
  have HK := Lib.hid hkey
  obtain ⟨X, hX⟩ : ∃ X, X = entA (O, r) := ⟨_, rfl⟩
  have HX := Lib.hid hX
  obtain ⟨z, hz⟩ : ∃ z, z = entA (openZ, 0) := ⟨_, rfl⟩
  have HZ := Lib.hid hz
  have HXS := Lib.hid (show X.size = 15 by rw [hX]; exact entA_size hOK)
  have HXO := Lib.hid (show ∀ v ∈ X.toList, v.oneCell' = true by rw [hX]; exact entA_one hOK)
  have HZS := Lib.hid (show z.size = 15 by rw [hz]; rfl)
  have c1 := rowcell hl
  clear h hbn hF hl hkey hX hz ok hOK
  unfold markV
  go_enter Try.func46, Try.ntmps46
  go_wp2_with fail
  generalize hG : w.heap.size = G at *
  generalize w.alloc (.cells #[.int .u8 p.1, .int .u16 p.2] 69) = w1 at *
  have HG := Lib.hid hG
  clear hG c1
  refine (fdsHas_in HT.out HOK.out p (by omega) h2).mono ?_
  rintro e w2 ⟨rfl, hb2⟩
  rw [HF.out]
  have HB2 := Lib.hid (HB.out.trans (hb2.mono (by have := HB.out.size; rw [HG.out] at this; exact this)))
  have HL2 := Lib.hid (bkeep hb2 HL.out)
  have HT2 := Lib.hid (HT.out.keep hb2)
  skip
  have HGL := Lib.hid (show G < w2.heap.size from rowlt HL2.out)
  clear hb2
  go_wp2_with fail

  refine wp_region_held (S := fun w' => Below w2.heap.size w2 w') (by kernel_rfl) ?_
  change wpAnyH _ _ _ _ _ _ _ _ (World.drew _)
  have hS := drewb w2

  refine takeH 0 (.pointer (some ⟨g, 0, none⟩)) (some 10) rfl rfl (by kernel_rfl) (by kernel_rfl) (by kernel_rfl) (fun _ _ _ h => h) (.inl ⟨by kernel_rfl, fun w _ => by go_simp⟩) hS ?_
  refine takeH 1 (.pointer (some ⟨g, 0, none⟩)) (some 11) rfl rfl (by kernel_rfl) (by kernel_rfl) (by kernel_rfl) (fun _ _ _ h => h) (.inl ⟨by kernel_rfl, fun w _ => by go_simp⟩) hS ?_
  refine takeH 2 (.pointer (some ⟨g, 1, none⟩)) (some 12) rfl rfl (by kernel_rfl) (by kernel_rfl) (by kernel_rfl) (fun _ _ _ h => h) (.inl ⟨by kernel_rfl, fun w _ => by go_simp⟩) hS ?_
  refine takeH 3 (.map (some gm)) (some 13) rfl rfl (by kernel_rfl) (by kernel_rfl) (by kernel_rfl) (fun _ _ _ h => h) (.inl ⟨by kernel_rfl, fun w hw => by have hc := (fun w hw => (HT2.out.keep hw).c1) w hw; go_simp⟩) hS ?_
  refine takeH 4 (.agg #[.int .u8 p.1, .int .u16 p.2]) (some 14) rfl rfl (by kernel_rfl) (by kernel_rfl) (by kernel_rfl) (fun _ _ _ h => h) (yi_piece (by kernel_rfl) 69 _ rfl G 0 (by go_simp) #[.int .u8 p.1, .int .u16 p.2] _ (fun w hw j v hv => by rw [Nat.zero_add, rowcell (bkeep hw HL2.out)]; simpa using hv) Try.underlying69 rfl (by kernel_rfl)) hS ?_
  refine takeH 5 (.agg X) (some 15) rfl rfl (by kernel_rfl) (by kernel_rfl) (by kernel_rfl) (fun _ _ _ h => h) (.inl ⟨by kernel_rfl, fun w hw => by rw [show Value.agg X = lkV entV (entV (openZ, 0)) false (F p) by rw [HF.out, HX.out]; rfl]; exact (HT2.out.keep hw).mp.exec_lookup keyedId markV_inj Try.underlying150 entZ _ _ false rfl (by go_simp) p (by go_simp; try rfl) HK.out⟩) hS ?_
  refine runH 6 _ (some 5) rfl (by kernel_rfl) (by kernel_rfl) rfl (exec_alloc 155 rfl (.agg z) (by rw [HZ.out]; exact entZ)) (hS.alloc hS.size _) ?_
  have hN := heap_alloc_last (World.drew w2) (.cells z 155)
  have hSN := hS.alloc hS.size (.cells z 155)
  refine storeWholeH 7 rfl (by kernel_rfl) (by kernel_rfl) rfl 155 _ _ rfl X z 155 (by go_simp) (by go_simp) (by rw [HXS.out]; kernel_rfl) hN (by rw [HXS.out, HZS.out]) HXO.out (fun w3 h3 o3 => ⟨bone hSN o3 (Nat.le_refl _) hSN.size, ?_⟩)
  have hS3 := bone hSN o3 (Nat.le_refl _) hSN.size

  refine wpAnyH_done (by kernel_rfl) ?_ _
  go_simp
  have HT3 := Lib.hid (HT2.out.keep hS3)
  have HL3 := Lib.hid (bkeep hS3 HL2.out)
  have HS3 := Lib.hid hS3
  have h3' : w3.heap[w2.heap.size]? = some (.cells (entA (O, r)) 155 (0, 0)) := by rw [← HX.out]; exact h3
  have HN3 := Lib.hid h3'
  clear hS hN hSN o3 h3
  change World at w3
  obtain ⟨M, hM⟩ : ∃ M, M = w2.heap.size := ⟨_, rfl⟩
  rw [← hM] at HN3 h3'
  try rw [← hM]
  have HM := Lib.hid hM
  have HB3 := Lib.hid (HB2.out.trans (hS3.mono (by have := HB2.out.size; rw [HG.out] at this; exact this)))
  clear hM hS3
  have c1 := rowcell h3'
  have c2 := rowfree h3'
  have hGM : G < M ∧ g < M ∧ gm < M := by
    have := HX0.out; have := HGL.out; have := HM.out; omega
  clear h3'

  have c3 := entA_14 HOO.out r
  have c4 : IntKind.i64.wrap ((r : Int) + 1) = ((r + 1 : Nat) : Int) := by rw [IntKind.wrap_i64]; omega
  go_wp2_with fail
  clear c3 c4
  rw [show ((r : Int) + 1) = ((r + 1 : Nat) : Int) by omega]
  have hn4 := heap_setCell_same HN3.out (.int .i64 ((r + 1 : Nat) : Int)) (off := 14) (by rw [entA_size HOO.out]; omega)
  rw [entA_set HOO.out] at hn4
  have o4 := one_setCell w3 M 14 (.int .i64 ((r + 1 : Nat) : Int))
  have hT4 := HT3.out.one o4 (by omega) (by omega)
  have hl4 := o4.blk HL3.out (fun e => by cases e; omega)
  generalize w3.setCell ⟨M, 14, none⟩ (.int .i64 ((r + 1 : Nat) : Int)) = w4 at *
  have HT4 := Lib.hid hT4
  have HO4 := Lib.hid o4
  have HN4 := Lib.hid hn4
  have HL4 := Lib.hid hl4
  clear c1 c2 hT4 o4 hn4 hl4

  have c1 := rowcell HL4.out
  have c2 := HT4.out.c1
  obtain ⟨Y, hY⟩ : ∃ Y, Y = entA ((O, r + 1)) := ⟨_, rfl⟩
  have HY := Lib.hid hY
  have HYS := Lib.hid (show Y.size = 15 by rw [hY]; exact entA_size (HOO.out))
  clear hY
  refine wp_region_still_tail 6 (by kernel_rfl) (by kernel_rfl) ?_
  simp only [List.take_succ_cons, List.take_zero, List.drop_succ_cons, List.drop_zero]
  change wpStill _ _ (World.drew w4) _ _ _
  iterate 5 still_step
  refine still_by (by kernel_rfl) (.agg Y) (some 25) rfl (load_piece 155 _ rfl M 0 (by go_simp) Y _ (fun j v hv => by rw [Nat.zero_add]; show w4.cell? ⟨M, j, none⟩ = some v; rw [rowcell HN4.out, ← HY.out]; simpa using hv) Try.underlying155 rfl (by rw [HYS.out]; kernel_rfl)) ?_
  refine wpStill_nil ?_
  change wpList _ _ _ _ _ (World.drew w4)
  refine wpList_update_mk (by kernel_rfl) rfl (HT4.out.keep (drewb w4)).mp keyedId markV_inj Try.underlying150 _ _ _ rfl (by go_simp) p (by go_simp; try rfl) HK.out ((O, r + 1)) (by go_simp; rw [HY.out]; rfl) ?_
  intro w6 hmk ho6
  have hT6 := (HT4.out.keep (drewb w4)).setMap ho6 hmk
  have o6' : One w4 w6 (some gm) := ⟨ho6.os, ho6.tape, ho6.output, ho6.size, ho6.block⟩
  have HT6 := Lib.hid hT6
  have HO6 := Lib.hid o6'
  have HD6 := Lib.hid (((Duo.of_below (g := g) (h := gm) (by rw [HG.out]; exact HB3.out)).of_one_new HO4.out (by rw [HG.out]; omega)).trans (Duo.of_one' o6'))
  clear c1 c2 hT6 o6' ho6 hmk
  go_wp2_with fail
  go_ret
  exact ⟨rfl, HT6.out, HD6.out⟩

set_option maxRecDepth 20000 in
set_option maxHeartbeats 4000000 in
theorem fdsSeek_yes (h : TP w g gm a us F) (ok : OkF F) (p : Nat × Nat) (h1 : p.1 < 64) (h2 : p.2 ≤ 65535) (i : Int) (O : Array Value) (r : Nat) (hF : F p = some (O, r)) (hr : r < 1000000) :
    Calls Try.prog 48 #[.pointer (some ⟨g, 0, none⟩), markV p, .int .i64 i] w fun e w' => e = .returned (.tuple #[]) ∧ TP w' g gm a us (putF F p (O.setIfInBounds 9 (.int .i64 i), r)) ∧ Duo w w' g gm := by
  have hOK := ok p _ hF
  obtain ⟨hbn, hl⟩ := idNew w p
  have HT := Lib.hid (h.keep hbn)
  have HB := Lib.hid hbn
  have HL := Lib.hid hl
  have HOK := Lib.hid ok
  have HOO := Lib.hid hOK
  have HF := Lib.hid hF
  have HX0 := Lib.hid (show g < w.heap.size ∧ gm < w.heap.size from ⟨h.row.lt, h.mp.lt⟩)
  obtain ⟨l, hkey⟩ := key_id p (by omega) h2
  have HK := Lib.hid hkey
  obtain ⟨X, hX⟩ : ∃ X, X = entA (O, r) := ⟨_, rfl⟩
  have HX := Lib.hid hX
  obtain ⟨z, hz⟩ : ∃ z, z = entA (openZ, 0) := ⟨_, rfl⟩
  have HZ := Lib.hid hz
  have HXS := Lib.hid (show X.size = 15 by rw [hX]; exact entA_size hOK)
  have HXO := Lib.hid (show ∀ v ∈ X.toList, v.oneCell' = true by rw [hX]; exact entA_one hOK)
  have HZS := Lib.hid (show z.size = 15 by rw [hz]; rfl)
  have c1 := rowcell hl
  clear h hbn hF hl hkey hX hz ok hOK
  unfold markV
  go_enter Try.func48, Try.ntmps48
  go_wp2_with fail
  generalize hG : w.heap.size = G at *
  generalize w.alloc (.cells #[.int .u8 p.1, .int .u16 p.2] 69) = w1 at *
  have HG := Lib.hid hG
  clear hG c1
  refine (fdsHas_in HT.out HOK.out p (by omega) h2).mono ?_
  rintro e w2 ⟨rfl, hb2⟩
  rw [HF.out]
  have HB2 := Lib.hid (HB.out.trans (hb2.mono (by have := HB.out.size; rw [HG.out] at this; exact this)))
  have HL2 := Lib.hid (bkeep hb2 HL.out)
  have HT2 := Lib.hid (HT.out.keep hb2)
  skip
  have HGL := Lib.hid (show G < w2.heap.size from rowlt HL2.out)
  clear hb2
  go_wp2_with fail

  refine wp_region_held (S := fun w' => Below w2.heap.size w2 w') (by kernel_rfl) ?_
  change wpAnyH _ _ _ _ _ _ _ _ (World.drew _)
  have hS := drewb w2

  refine takeH 0 (.pointer (some ⟨g, 0, none⟩)) (some 10) rfl rfl (by kernel_rfl) (by kernel_rfl) (by kernel_rfl) (fun _ _ _ h => h) (.inl ⟨by kernel_rfl, fun w _ => by go_simp⟩) hS ?_
  refine takeH 1 (.pointer (some ⟨g, 0, none⟩)) (some 11) rfl rfl (by kernel_rfl) (by kernel_rfl) (by kernel_rfl) (fun _ _ _ h => h) (.inl ⟨by kernel_rfl, fun w _ => by go_simp⟩) hS ?_
  refine takeH 2 (.pointer (some ⟨g, 1, none⟩)) (some 12) rfl rfl (by kernel_rfl) (by kernel_rfl) (by kernel_rfl) (fun _ _ _ h => h) (.inl ⟨by kernel_rfl, fun w _ => by go_simp⟩) hS ?_
  refine takeH 3 (.map (some gm)) (some 13) rfl rfl (by kernel_rfl) (by kernel_rfl) (by kernel_rfl) (fun _ _ _ h => h) (.inl ⟨by kernel_rfl, fun w hw => by have hc := (fun w hw => (HT2.out.keep hw).c1) w hw; go_simp⟩) hS ?_
  refine takeH 4 (.agg #[.int .u8 p.1, .int .u16 p.2]) (some 14) rfl rfl (by kernel_rfl) (by kernel_rfl) (by kernel_rfl) (fun _ _ _ h => h) (yi_piece (by kernel_rfl) 69 _ rfl G 0 (by go_simp) #[.int .u8 p.1, .int .u16 p.2] _ (fun w hw j v hv => by rw [Nat.zero_add, rowcell (bkeep hw HL2.out)]; simpa using hv) Try.underlying69 rfl (by kernel_rfl)) hS ?_
  refine takeH 5 (.agg X) (some 15) rfl rfl (by kernel_rfl) (by kernel_rfl) (by kernel_rfl) (fun _ _ _ h => h) (.inl ⟨by kernel_rfl, fun w hw => by rw [show Value.agg X = lkV entV (entV (openZ, 0)) false (F p) by rw [HF.out, HX.out]; rfl]; exact (HT2.out.keep hw).mp.exec_lookup keyedId markV_inj Try.underlying150 entZ _ _ false rfl (by go_simp) p (by go_simp; try rfl) HK.out⟩) hS ?_
  refine runH 6 _ (some 6) rfl (by kernel_rfl) (by kernel_rfl) rfl (exec_alloc 155 rfl (.agg z) (by rw [HZ.out]; exact entZ)) (hS.alloc hS.size _) ?_
  have hN := heap_alloc_last (World.drew w2) (.cells z 155)
  have hSN := hS.alloc hS.size (.cells z 155)
  refine storeWholeH 7 rfl (by kernel_rfl) (by kernel_rfl) rfl 155 _ _ rfl X z 155 (by go_simp) (by go_simp) (by rw [HXS.out]; kernel_rfl) hN (by rw [HXS.out, HZS.out]) HXO.out (fun w3 h3 o3 => ⟨bone hSN o3 (Nat.le_refl _) hSN.size, ?_⟩)
  have hS3 := bone hSN o3 (Nat.le_refl _) hSN.size

  refine wpAnyH_done (by kernel_rfl) ?_ _
  go_simp
  have HT3 := Lib.hid (HT2.out.keep hS3)
  have HL3 := Lib.hid (bkeep hS3 HL2.out)
  have HS3 := Lib.hid hS3
  have h3' : w3.heap[w2.heap.size]? = some (.cells (entA (O, r)) 155 (0, 0)) := by rw [← HX.out]; exact h3
  have HN3 := Lib.hid h3'
  clear hS hN hSN o3 h3
  change World at w3
  obtain ⟨M, hM⟩ : ∃ M, M = w2.heap.size := ⟨_, rfl⟩
  rw [← hM] at HN3 h3'
  try rw [← hM]
  have HM := Lib.hid hM
  have HB3 := Lib.hid (HB2.out.trans (hS3.mono (by have := HB2.out.size; rw [HG.out] at this; exact this)))
  clear hM hS3
  have c1 := rowcell h3'
  have c2 := rowfree h3'
  have hGM : G < M ∧ g < M ∧ gm < M := by
    have := HX0.out; have := HGL.out; have := HM.out; omega
  clear h3'

  have c3 := entA_low HOO.out r (j := 9) (by omega)
  obtain ⟨x9, hx9⟩ : ∃ x, O[9]? = some x := ⟨O[9]'(by rw [HOO.out.1]; omega), by simp⟩
  rw [hx9] at c3
  clear hx9
  go_wp2_with fail
  clear c3
  have hn4 := heap_setCell_same HN3.out (.int .i64 i) (off := 9) (by rw [entA_size HOO.out]; omega)
  rw [entA_off HOO.out r _ (by omega)] at hn4
  have o4 := one_setCell w3 M 9 (.int .i64 i)
  have hT4 := HT3.out.one o4 (by omega) (by omega)
  have hl4 := o4.blk HL3.out (fun e => by cases e; omega)
  generalize w3.setCell ⟨M, 9, none⟩ (.int .i64 i) = w4 at *
  have HT4 := Lib.hid hT4
  have HO4 := Lib.hid o4
  have HN4 := Lib.hid hn4
  have HL4 := Lib.hid hl4
  clear c1 c2 hT4 o4 hn4 hl4

  have c1 := rowcell HL4.out
  have c2 := HT4.out.c1
  obtain ⟨Y, hY⟩ : ∃ Y, Y = entA ((O.setIfInBounds 9 (.int .i64 i), r)) := ⟨_, rfl⟩
  have HY := Lib.hid hY
  have HYS := Lib.hid (show Y.size = 15 by rw [hY]; exact entA_size (okO_set HOO.out _ _ rfl))
  clear hY
  refine wp_region_still_tail 6 (by kernel_rfl) (by kernel_rfl) ?_
  simp only [List.take_succ_cons, List.take_zero, List.drop_succ_cons, List.drop_zero]
  change wpStill _ _ (World.drew w4) _ _ _
  iterate 5 still_step
  refine still_by (by kernel_rfl) (.agg Y) (some 24) rfl (load_piece 155 _ rfl M 0 (by go_simp) Y _ (fun j v hv => by rw [Nat.zero_add]; show w4.cell? ⟨M, j, none⟩ = some v; rw [rowcell HN4.out, ← HY.out]; simpa using hv) Try.underlying155 rfl (by rw [HYS.out]; kernel_rfl)) ?_
  refine wpStill_nil ?_
  change wpList _ _ _ _ _ (World.drew w4)
  refine wpList_update_mk (by kernel_rfl) rfl (HT4.out.keep (drewb w4)).mp keyedId markV_inj Try.underlying150 _ _ _ rfl (by go_simp) p (by go_simp; try rfl) HK.out ((O.setIfInBounds 9 (.int .i64 i), r)) (by go_simp; rw [HY.out]; rfl) ?_
  intro w6 hmk ho6
  have hT6 := (HT4.out.keep (drewb w4)).setMap ho6 hmk
  have o6' : One w4 w6 (some gm) := ⟨ho6.os, ho6.tape, ho6.output, ho6.size, ho6.block⟩
  have HT6 := Lib.hid hT6
  have HO6 := Lib.hid o6'
  have HD6 := Lib.hid (((Duo.of_below (g := g) (h := gm) (by rw [HG.out]; exact HB3.out)).of_one_new HO4.out (by rw [HG.out]; omega)).trans (Duo.of_one' o6'))
  clear c1 c2 hT6 o6' ho6 hmk
  go_wp2_with fail
  go_end0
  exact ⟨rfl, HT6.out, HD6.out⟩

set_option maxRecDepth 20000 in
set_option maxHeartbeats 4000000 in
theorem fdsGet_no (h : TP w g gm a us F) (ok : OkF F) (p : Nat × Nat) (h1 : p.1 ≤ 255) (h2 : p.2 ≤ 65535) (hF : F p = none) :
    Calls Try.prog 50 #[.pointer (some ⟨g, 0, none⟩), markV p] w fun e w' => e = .returned (.tuple #[.agg openZ, .bool false]) ∧ Below w.heap.size w w' := by
  have hbn := bnewAfter (bnew w (.cells #[.int .u8 p.1, .int .u16 p.2] 69)) (.cells #[.int .u8 0, .int .u8 0, .int .u16 0, .int .u16 0, .bool false, .int .u8 0, .int .u16 0, .int .u16 0, .int .i64 0, .int .i64 0, .bool false, .bool false, .bool false, .string ⟨#[]⟩] 78)
  have hl := bkeep (bnew _ (.cells #[.int .u8 0, .int .u8 0, .int .u16 0, .int .u16 0, .bool false, .int .u8 0, .int .u16 0, .int .u16 0, .int .i64 0, .int .i64 0, .bool false, .bool false, .bool false, .string ⟨#[]⟩] 78)) (heap_alloc_last w (.cells #[.int .u8 p.1, .int .u16 p.2] 69))
  have hr := heap_alloc_last (w.alloc (.cells #[.int .u8 p.1, .int .u16 p.2] 69)) (.cells #[.int .u8 0, .int .u8 0, .int .u16 0, .int .u16 0, .bool false, .int .u8 0, .int .u16 0, .int .u16 0, .int .i64 0, .int .i64 0, .bool false, .bool false, .bool false, .string ⟨#[]⟩] 78)
  rw [World.size_alloc] at hr
  have HT := Lib.hid (h.keep hbn)
  have HB := Lib.hid hbn
  have HL := Lib.hid hl
  have HRR := Lib.hid hr
  have HOK := Lib.hid ok
  have HF := Lib.hid hF
  have c1 := rowcell hl
  obtain ⟨Z, hZ⟩ : ∃ Z, Z = openZ := ⟨_, rfl⟩
  rw [← hZ]
  have HZ := Lib.hid hZ
  have HOO := Lib.hid (show okO Z by rw [hZ]; exact openZ_ok)
  clear hZ
  clear h hbn hF hl hr ok
  unfold markV
  go_enter Try.func50, Try.ntmps50
  go_wp2_with fail
  generalize hG : w.heap.size = G at *
  generalize (w.alloc (.cells #[.int .u8 p.1, .int .u16 p.2] 69)).alloc (.cells #[.int .u8 0, .int .u8 0, .int .u16 0, .int .u16 0, .bool false, .int .u8 0, .int .u16 0, .int .u16 0, .int .i64 0, .int .i64 0, .bool false, .bool false, .bool false, .string ⟨#[]⟩] 78) = w1 at *
  obtain ⟨D, hD⟩ : ∃ D, D = G + 1 := ⟨_, rfl⟩
  rw [← hD] at HRR ⊢
  have HR := Lib.hid (show w1.heap[D]? = some (.cells openZ 78 (0, 0)) from HRR.out)
  have HD := Lib.hid hD
  have HG := Lib.hid hG
  clear hG c1 hD HRR
  refine (fdsHas_in HT.out HOK.out p (by omega) h2).mono ?_
  rintro e w2 ⟨rfl, hb2⟩
  rw [HF.out]
  have HB2 := Lib.hid (HB.out.trans (hb2.mono (by have := HB.out.size; rw [HG.out] at this; exact this)))
  have HL2 := Lib.hid (bkeep hb2 HL.out)
  have HR2 := Lib.hid (bkeep hb2 HR.out)
  have HT2 := Lib.hid (HT.out.keep hb2)
  have HGL := Lib.hid (show G < w2.heap.size from rowlt HL2.out)
  have HDL := Lib.hid (show D < w2.heap.size from rowlt HR2.out)
  clear hb2

  go_wp2_with (first | (refine wpList_buildTo rfl 78 _ rfl (some 10) rfl Z ?hf ?_; case hf => (rw [HZ.out]; kernel_rfl)) | (with_reducible refine wpList_stop none rfl ?_))
  refine Lib.hid ?_
  refine wpList_store_pieceTo rfl 78 _ _ rfl rfl D 0 Z (by go_simp) (by go_simp) (by rw [HOO.out.1]; kernel_rfl) (fun j hj => by rw [Nat.zero_add, rowcell HR2.out, Array.getElem?_eq_getElem (by rw [HOO.out.1] at hj; exact hj)]; rfl) (fun j hj => rowfree HR2.out _) HOO.out.2 (fun x9 hx9 => ?_)
  obtain ⟨e9, o9⟩ := setCells_whole (cs := Z) HR2.out (by rw [HOO.out.1]; rfl)
  rw [← hx9] at e9 o9
  have hrun := openLoad x9 D Z HOO.out.1 e9
  clear hx9
  go_wp2_with fail
  exact bodyPost_ret (v := .tuple #[.agg Z, .bool false]) (by simp [results, Try.results50, Act.put, asAddr, hrun]) rfl ⟨rfl, by rw [HG.out]; exact bone HB2.out o9 (by have := HD.out; omega) (by have := HB2.out.size; rw [HG.out] at this; exact this)⟩

set_option maxRecDepth 20000 in
set_option maxHeartbeats 4000000 in
theorem fdsDrop_no (h : TP w g gm a us F) (ok : OkF F) (p : Nat × Nat) (h1 : p.1 ≤ 255) (h2 : p.2 ≤ 65535) (hF : F p = none) :
    Calls Try.prog 47 #[.pointer (some ⟨g, 0, none⟩), markV p] w fun e w' => e = .returned (.tuple #[.agg openZ, .bool false]) ∧ Below w.heap.size w w' := by
  have hbn := bnewAfter (bnew w (.cells #[.int .u8 p.1, .int .u16 p.2] 69)) (.cells #[.int .u8 0, .int .u8 0, .int .u16 0, .int .u16 0, .bool false, .int .u8 0, .int .u16 0, .int .u16 0, .int .i64 0, .int .i64 0, .bool false, .bool false, .bool false, .string ⟨#[]⟩] 78)
  have hl := bkeep (bnew _ (.cells #[.int .u8 0, .int .u8 0, .int .u16 0, .int .u16 0, .bool false, .int .u8 0, .int .u16 0, .int .u16 0, .int .i64 0, .int .i64 0, .bool false, .bool false, .bool false, .string ⟨#[]⟩] 78)) (heap_alloc_last w (.cells #[.int .u8 p.1, .int .u16 p.2] 69))
  have hr := heap_alloc_last (w.alloc (.cells #[.int .u8 p.1, .int .u16 p.2] 69)) (.cells #[.int .u8 0, .int .u8 0, .int .u16 0, .int .u16 0, .bool false, .int .u8 0, .int .u16 0, .int .u16 0, .int .i64 0, .int .i64 0, .bool false, .bool false, .bool false, .string ⟨#[]⟩] 78)
  rw [World.size_alloc] at hr
  have HT := Lib.hid (h.keep hbn)
  have HB := Lib.hid hbn
  have HL := Lib.hid hl
  have HRR := Lib.hid hr
  have HOK := Lib.hid ok
  have HF := Lib.hid hF
  have c1 := rowcell hl
  obtain ⟨Z, hZ⟩ : ∃ Z, Z = openZ := ⟨_, rfl⟩
  rw [← hZ]
  have HZ := Lib.hid hZ
  have HOO := Lib.hid (show okO Z by rw [hZ]; exact openZ_ok)
  clear hZ
  clear h hbn hF hl hr ok
  unfold markV
  go_enter Try.func47, Try.ntmps47
  go_wp2_with fail
  generalize hG : w.heap.size = G at *
  generalize (w.alloc (.cells #[.int .u8 p.1, .int .u16 p.2] 69)).alloc (.cells #[.int .u8 0, .int .u8 0, .int .u16 0, .int .u16 0, .bool false, .int .u8 0, .int .u16 0, .int .u16 0, .int .i64 0, .int .i64 0, .bool false, .bool false, .bool false, .string ⟨#[]⟩] 78) = w1 at *
  obtain ⟨D, hD⟩ : ∃ D, D = G + 1 := ⟨_, rfl⟩
  rw [← hD] at HRR ⊢
  have HR := Lib.hid (show w1.heap[D]? = some (.cells openZ 78 (0, 0)) from HRR.out)
  have HD := Lib.hid hD
  have HG := Lib.hid hG
  clear hG c1 hD HRR
  refine (fdsHas_in HT.out HOK.out p (by omega) h2).mono ?_
  rintro e w2 ⟨rfl, hb2⟩
  rw [HF.out]
  have HB2 := Lib.hid (HB.out.trans (hb2.mono (by have := HB.out.size; rw [HG.out] at this; exact this)))
  have HL2 := Lib.hid (bkeep hb2 HL.out)
  have HR2 := Lib.hid (bkeep hb2 HR.out)
  have HT2 := Lib.hid (HT.out.keep hb2)
  have HGL := Lib.hid (show G < w2.heap.size from rowlt HL2.out)
  have HDL := Lib.hid (show D < w2.heap.size from rowlt HR2.out)
  clear hb2

  go_wp2_with (first | (refine wpList_buildTo rfl 78 _ rfl (some 11) rfl Z ?hf ?_; case hf => (rw [HZ.out]; kernel_rfl)) | (with_reducible refine wpList_stop none rfl ?_))
  refine Lib.hid ?_
  refine wpList_store_pieceTo rfl 78 _ _ rfl rfl D 0 Z (by go_simp) (by go_simp) (by rw [HOO.out.1]; kernel_rfl) (fun j hj => by rw [Nat.zero_add, rowcell HR2.out, Array.getElem?_eq_getElem (by rw [HOO.out.1] at hj; exact hj)]; rfl) (fun j hj => rowfree HR2.out _) HOO.out.2 (fun x9 hx9 => ?_)
  obtain ⟨e9, o9⟩ := setCells_whole (cs := Z) HR2.out (by rw [HOO.out.1]; rfl)
  rw [← hx9] at e9 o9
  have hrun := openLoad x9 D Z HOO.out.1 e9
  clear hx9
  go_wp2_with fail
  exact bodyPost_ret (v := .tuple #[.agg Z, .bool false]) (by simp [results, Try.results47, Act.put, asAddr, hrun]) rfl ⟨rfl, by rw [HG.out]; exact bone HB2.out o9 (by have := HD.out; omega) (by have := HB2.out.size; rw [HG.out] at this; exact this)⟩

set_option maxRecDepth 20000 in
set_option maxHeartbeats 4000000 in
theorem fdsGet_yes (h : TP w g gm a us F) (ok : OkF F) (p : Nat × Nat) (h1 : p.1 ≤ 255) (h2 : p.2 ≤ 65535) (O : Array Value) (r : Nat) (hF : F p = some (O, r)) :
    Calls Try.prog 50 #[.pointer (some ⟨g, 0, none⟩), markV p] w fun e w' => e = .returned (.tuple #[.agg O, .bool true]) ∧ Below w.heap.size w w' := by
  have hOO := ok p _ hF
  have hbn := bnewAfter (bnew w (.cells #[.int .u8 p.1, .int .u16 p.2] 69)) (.cells #[.int .u8 0, .int .u8 0, .int .u16 0, .int .u16 0, .bool false, .int .u8 0, .int .u16 0, .int .u16 0, .int .i64 0, .int .i64 0, .bool false, .bool false, .bool false, .string ⟨#[]⟩] 78)
  have hl := bkeep (bnew _ (.cells #[.int .u8 0, .int .u8 0, .int .u16 0, .int .u16 0, .bool false, .int .u8 0, .int .u16 0, .int .u16 0, .int .i64 0, .int .i64 0, .bool false, .bool false, .bool false, .string ⟨#[]⟩] 78)) (heap_alloc_last w (.cells #[.int .u8 p.1, .int .u16 p.2] 69))
  have hr := heap_alloc_last (w.alloc (.cells #[.int .u8 p.1, .int .u16 p.2] 69)) (.cells #[.int .u8 0, .int .u8 0, .int .u16 0, .int .u16 0, .bool false, .int .u8 0, .int .u16 0, .int .u16 0, .int .i64 0, .int .i64 0, .bool false, .bool false, .bool false, .string ⟨#[]⟩] 78)
  rw [World.size_alloc] at hr
  have HT := Lib.hid (h.keep hbn)
  have HB := Lib.hid hbn
  have HL := Lib.hid hl
  have HRR := Lib.hid hr
  have HOK := Lib.hid ok
  have HF := Lib.hid hF
  have c1 := rowcell hl
  have HOO := Lib.hid (show okO O from hOO)
  obtain ⟨l, hkey⟩ := key_id p (by omega) h2
  have HK := Lib.hid hkey
  obtain ⟨X, hX⟩ : ∃ X, X = entA (O, r) := ⟨_, rfl⟩
  have HX := Lib.hid hX
  clear hOO hkey hX
  clear h hbn hF hl hr ok
  unfold markV
  go_enter Try.func50, Try.ntmps50
  go_wp2_with fail
  generalize hG : w.heap.size = G at *
  generalize (w.alloc (.cells #[.int .u8 p.1, .int .u16 p.2] 69)).alloc (.cells #[.int .u8 0, .int .u8 0, .int .u16 0, .int .u16 0, .bool false, .int .u8 0, .int .u16 0, .int .u16 0, .int .i64 0, .int .i64 0, .bool false, .bool false, .bool false, .string ⟨#[]⟩] 78) = w1 at *
  obtain ⟨D, hD⟩ : ∃ D, D = G + 1 := ⟨_, rfl⟩
  rw [← hD] at HRR ⊢
  have HR := Lib.hid (show w1.heap[D]? = some (.cells openZ 78 (0, 0)) from HRR.out)
  have HD := Lib.hid hD
  have HG := Lib.hid hG
  clear hG c1 hD HRR
  refine (fdsHas_in HT.out HOK.out p (by omega) h2).mono ?_
  rintro e w2 ⟨rfl, hb2⟩
  rw [HF.out]
  have HB2 := Lib.hid (HB.out.trans (hb2.mono (by have := HB.out.size; rw [HG.out] at this; exact this)))
  have HL2 := Lib.hid (bkeep hb2 HL.out)
  have HR2 := Lib.hid (bkeep hb2 HR.out)
  have HT2 := Lib.hid (HT.out.keep hb2)
  have HGL := Lib.hid (show G < w2.heap.size from rowlt HL2.out)
  have HDL := Lib.hid (show D < w2.heap.size from rowlt HR2.out)
  clear hb2

  have c1 := rowcell HL2.out
  have c2 := HT2.out.c1
  have c3 := ent_field0 O HOO.out r
  rw [← HX.out] at c3
  go_wp2_with fail
  refine wp_region_still_tail 7 (by kernel_rfl) (by kernel_rfl) ?_
  simp only [List.take_succ_cons, List.take_zero, List.drop_succ_cons, List.drop_zero]
  change wpStill _ _ (World.drew w2) _ _ _
  iterate 5 still_step
  refine still_lookup (by kernel_rfl) (some 16) rfl (HT2.out.keep (drewb w2)).mp keyedId markV_inj Try.underlying150 entZ _ _ false rfl (by go_simp) p (by go_simp; try rfl) HK.out (.agg X) (by rw [HF.out, HX.out]; rfl) ?_
  iterate 1 still_step
  refine wpStill_nil ?_
  change wpList _ _ _ _ _ (World.drew w2)
  have HB3 := Lib.hid (show Below G w (World.drew w2) from bdrawn HB2.out)
  have hr3 : (World.drew w2).heap[D]? = some (.cells openZ 78 (0, 0)) := HR2.out
  have HR3 := Lib.hid hr3
  clear hr3 c1 c2 c3
  generalize World.drew w2 = w3 at *
  go_wp2_with (with_reducible refine wpList_stop none rfl ?_)
  refine Lib.hid ?_
  refine wpList_store_pieceTo rfl 78 _ _ rfl rfl D 0 O (by go_simp) (by go_simp) (by rw [HOO.out.1]; kernel_rfl) (fun j hj => by rw [Nat.zero_add, rowcell HR3.out, Array.getElem?_eq_getElem (by rw [HOO.out.1] at hj; exact hj)]; rfl) (fun j hj => rowfree HR3.out _) HOO.out.2 (fun x9 hx9 => ?_)
  obtain ⟨e9, o9⟩ := setCells_whole (cs := O) HR3.out (by rw [HOO.out.1]; rfl)
  rw [← hx9] at e9 o9
  have hrun := openLoad x9 D O HOO.out.1 e9
  clear hx9
  go_wp2_with fail
  exact bodyPost_ret (v := .tuple #[.agg O, .bool true]) (by simp [results, Try.results50, Act.put, asAddr, hrun]) rfl ⟨rfl, by rw [HG.out]; exact bone HB3.out o9 (by have := HD.out; omega) (by have := HB3.out.size; rw [HG.out] at this; exact this)⟩

set_option maxRecDepth 20000 in
set_option maxHeartbeats 4000000 in
theorem fdsRefs_yes (h : TP w g gm a us F) (ok : OkF F) (p : Nat × Nat) (h1 : p.1 < 64) (h2 : p.2 ≤ 65535) (O : Array Value) (r : Nat) (hF : F p = some (O, r)) (hr : r < 1000000) :
    Calls Try.prog 51 #[.pointer (some ⟨g, 0, none⟩), markV p] w fun e w' => e = .returned (.int .i64 r) ∧ Below w.heap.size w w' := by
  have hOK := ok p _ hF
  obtain ⟨hbn, hl⟩ := idNew w p
  have HT := Lib.hid (h.keep hbn)
  have HB := Lib.hid hbn
  have HL := Lib.hid hl
  have HOK := Lib.hid ok
  have HOO := Lib.hid hOK
  have HF := Lib.hid hF
  have HX0 := Lib.hid (show g < w.heap.size ∧ gm < w.heap.size from ⟨h.row.lt, h.mp.lt⟩)
  obtain ⟨l, hkey⟩ := key_id p (by omega) h2
  have HK := Lib.hid hkey
  obtain ⟨X, hX⟩ : ∃ X, X = entA (O, r) := ⟨_, rfl⟩
  have HX := Lib.hid hX
  obtain ⟨z, hz⟩ : ∃ z, z = entA (openZ, 0) := ⟨_, rfl⟩
  have HZ := Lib.hid hz
  have HXS := Lib.hid (show X.size = 15 by rw [hX]; exact entA_size hOK)
  have HXO := Lib.hid (show ∀ v ∈ X.toList, v.oneCell' = true by rw [hX]; exact entA_one hOK)
  have HZS := Lib.hid (show z.size = 15 by rw [hz]; rfl)
  have c1 := rowcell hl
  clear h hbn hF hl hkey hX hz ok hOK
  unfold markV
  go_enter Try.func51, Try.ntmps51
  go_wp2_with fail
  generalize hG : w.heap.size = G at *
  generalize w.alloc (.cells #[.int .u8 p.1, .int .u16 p.2] 69) = w1 at *
  have HG := Lib.hid hG
  clear hG c1
  refine (fdsHas_in HT.out HOK.out p (by omega) h2).mono ?_
  rintro e w2 ⟨rfl, hb2⟩
  rw [HF.out]
  have HB2 := Lib.hid (HB.out.trans (hb2.mono (by have := HB.out.size; rw [HG.out] at this; exact this)))
  have HL2 := Lib.hid (bkeep hb2 HL.out)
  have HT2 := Lib.hid (HT.out.keep hb2)
  skip
  have HGL := Lib.hid (show G < w2.heap.size from rowlt HL2.out)
  clear hb2
  go_wp2_with fail

  have c1 := rowcell HL2.out
  have c2 := HT2.out.c1
  have c3 := ent_field1 O HOO.out r
  rw [← HX.out] at c3
  refine wp_region_still_lit (by kernel_rfl) (by kernel_rfl) ?_
  change wpStill _ _ (World.drew w2) _ _ _
  iterate 5 still_step
  refine still_lookup (by kernel_rfl) (some 14) rfl (HT2.out.keep (drewb w2)).mp keyedId markV_inj Try.underlying150 entZ _ _ false rfl (by go_simp) p (by go_simp; try rfl) HK.out (.agg X) (by rw [HF.out, HX.out]; rfl) ?_
  iterate 2 still_step
  refine wpStill_nil ?_
  go_simp
  go_wp2_with fail
  go_ret
  exact ⟨rfl, by rw [HG.out]; exact bdrawn HB2.out⟩

set_option maxRecDepth 20000 in
set_option maxHeartbeats 4000000 in
theorem fdsDrop_more (h : TP w g gm a us F) (ok : OkF F) (p : Nat × Nat) (h1 : p.1 < 64) (h2 : p.2 ≤ 65535) (O : Array Value) (r : Nat) (hF : F p = some (O, r)) (hr1 : 1 < r) (hr2 : r < 1000000) :
    Calls Try.prog 47 #[.pointer (some ⟨g, 0, none⟩), markV p] w fun e w' => e = .returned (.tuple #[.agg O, .bool false]) ∧ TP w' g gm a us (putF F p (O, r - 1)) ∧ Duo w w' g gm := by
  have hOO := ok p _ hF
  have hbn := bnewAfter (bnew w (.cells #[.int .u8 p.1, .int .u16 p.2] 69)) (.cells #[.int .u8 0, .int .u8 0, .int .u16 0, .int .u16 0, .bool false, .int .u8 0, .int .u16 0, .int .u16 0, .int .i64 0, .int .i64 0, .bool false, .bool false, .bool false, .string ⟨#[]⟩] 78)
  have hl := bkeep (bnew _ (.cells #[.int .u8 0, .int .u8 0, .int .u16 0, .int .u16 0, .bool false, .int .u8 0, .int .u16 0, .int .u16 0, .int .i64 0, .int .i64 0, .bool false, .bool false, .bool false, .string ⟨#[]⟩] 78)) (heap_alloc_last w (.cells #[.int .u8 p.1, .int .u16 p.2] 69))
  have hr := heap_alloc_last (w.alloc (.cells #[.int .u8 p.1, .int .u16 p.2] 69)) (.cells #[.int .u8 0, .int .u8 0, .int .u16 0, .int .u16 0, .bool false, .int .u8 0, .int .u16 0, .int .u16 0, .int .i64 0, .int .i64 0, .bool false, .bool false, .bool false, .string ⟨#[]⟩] 78)
  rw [World.size_alloc] at hr
  have HT := Lib.hid (h.keep hbn)
  have HB := Lib.hid hbn
  have HL := Lib.hid hl
  have HRR := Lib.hid hr
  have HOK := Lib.hid ok
  have HF := Lib.hid hF
  have c1 := rowcell hl
  have HOO := Lib.hid (show okO O from hOO)
  have HX0 := Lib.hid (show g < w.heap.size ∧ gm < w.heap.size from ⟨h.row.lt, h.mp.lt⟩)
  obtain ⟨l, hkey⟩ := key_id p (by omega) h2
  have HK := Lib.hid hkey
  obtain ⟨X, hX⟩ : ∃ X, X = entA (O, r) := ⟨_, rfl⟩
  have HX := Lib.hid hX
  obtain ⟨z, hz⟩ : ∃ z, z = entA (openZ, 0) := ⟨_, rfl⟩
  have HZ := Lib.hid hz
  have HXS := Lib.hid (show X.size = 15 by rw [hX]; exact entA_size hOO)
  have HXO := Lib.hid (show ∀ v ∈ X.toList, v.oneCell' = true by rw [hX]; exact entA_one hOO)
  have HZS := Lib.hid (show z.size = 15 by rw [hz]; rfl)
  have HR1 := Lib.hid hr1
  clear hOO hkey hX hz hr1
  clear h hbn hF hl hr ok
  unfold markV
  go_enter Try.func47, Try.ntmps47
  go_wp2_with fail
  generalize hG : w.heap.size = G at *
  generalize (w.alloc (.cells #[.int .u8 p.1, .int .u16 p.2] 69)).alloc (.cells #[.int .u8 0, .int .u8 0, .int .u16 0, .int .u16 0, .bool false, .int .u8 0, .int .u16 0, .int .u16 0, .int .i64 0, .int .i64 0, .bool false, .bool false, .bool false, .string ⟨#[]⟩] 78) = w1 at *
  obtain ⟨D, hD⟩ : ∃ D, D = G + 1 := ⟨_, rfl⟩
  rw [← hD] at HRR ⊢
  have HR := Lib.hid (show w1.heap[D]? = some (.cells openZ 78 (0, 0)) from HRR.out)
  have HD := Lib.hid hD
  have HG := Lib.hid hG
  clear hG c1 hD HRR
  refine (fdsHas_in HT.out HOK.out p (by omega) h2).mono ?_
  rintro e w2 ⟨rfl, hb2⟩
  rw [HF.out]
  have HB2 := Lib.hid (HB.out.trans (hb2.mono (by have := HB.out.size; rw [HG.out] at this; exact this)))
  have HL2 := Lib.hid (bkeep hb2 HL.out)
  have HR2 := Lib.hid (bkeep hb2 HR.out)
  have HT2 := Lib.hid (HT.out.keep hb2)
  have HGL := Lib.hid (show G < w2.heap.size from rowlt HL2.out)
  have HDL := Lib.hid (show D < w2.heap.size from rowlt HR2.out)
  clear hb2

  have c1 := rowcell HL2.out
  go_wp2_with fail
  clear c1

  refine wp_region_held (S := fun w' => Below w2.heap.size w2 w') (by kernel_rfl) ?_
  change wpAnyH _ _ _ _ _ _ _ _ (World.drew _)
  have hS := drewb w2

  refine takeH 0 (.pointer (some ⟨g, 0, none⟩)) (some 12) rfl rfl (by kernel_rfl) (by kernel_rfl) (by kernel_rfl) (fun _ _ _ h => h) (.inl ⟨by kernel_rfl, fun w _ => by go_simp⟩) hS ?_
  refine takeH 1 (.pointer (some ⟨g, 0, none⟩)) (some 13) rfl rfl (by kernel_rfl) (by kernel_rfl) (by kernel_rfl) (fun _ _ _ h => h) (.inl ⟨by kernel_rfl, fun w _ => by go_simp⟩) hS ?_
  refine takeH 2 (.pointer (some ⟨g, 1, none⟩)) (some 14) rfl rfl (by kernel_rfl) (by kernel_rfl) (by kernel_rfl) (fun _ _ _ h => h) (.inl ⟨by kernel_rfl, fun w _ => by go_simp⟩) hS ?_
  refine takeH 3 (.map (some gm)) (some 15) rfl rfl (by kernel_rfl) (by kernel_rfl) (by kernel_rfl) (fun _ _ _ h => h) (.inl ⟨by kernel_rfl, fun w hw => by have hc := (fun w hw => (HT2.out.keep hw).c1) w hw; go_simp⟩) hS ?_
  refine takeH 4 (.agg #[.int .u8 p.1, .int .u16 p.2]) (some 16) rfl rfl (by kernel_rfl) (by kernel_rfl) (by kernel_rfl) (fun _ _ _ h => h) (yi_piece (by kernel_rfl) 69 _ rfl G 0 (by go_simp) #[.int .u8 p.1, .int .u16 p.2] _ (fun w hw j v hv => by rw [Nat.zero_add, rowcell (bkeep hw HL2.out)]; simpa using hv) Try.underlying69 rfl (by kernel_rfl)) hS ?_
  refine takeH 5 (.agg X) (some 17) rfl rfl (by kernel_rfl) (by kernel_rfl) (by kernel_rfl) (fun _ _ _ h => h) (.inl ⟨by kernel_rfl, fun w hw => by rw [show Value.agg X = lkV entV (entV (openZ, 0)) false (F p) by rw [HF.out, HX.out]; rfl]; exact (HT2.out.keep hw).mp.exec_lookup keyedId markV_inj Try.underlying150 entZ _ _ false rfl (by go_simp) p (by go_simp; try rfl) HK.out⟩) hS ?_
  refine runH 6 _ (some 6) rfl (by kernel_rfl) (by kernel_rfl) rfl (exec_alloc 155 rfl (.agg z) (by rw [HZ.out]; exact entZ)) (hS.alloc hS.size _) ?_
  have hN := heap_alloc_last (World.drew w2) (.cells z 155)
  have hSN := hS.alloc hS.size (.cells z 155)
  refine storeWholeH 7 rfl (by kernel_rfl) (by kernel_rfl) rfl 155 _ _ rfl X z 155 (by go_simp) (by go_simp) (by rw [HXS.out]; kernel_rfl) hN (by rw [HXS.out, HZS.out]) HXO.out (fun w3 h3 o3 => ⟨bone hSN o3 (Nat.le_refl _) hSN.size, ?_⟩)
  have hS3 := bone hSN o3 (Nat.le_refl _) hSN.size

  refine wpAnyH_done (by kernel_rfl) ?_ _
  go_simp
  have HT3 := Lib.hid (HT2.out.keep hS3)
  have HL3 := Lib.hid (bkeep hS3 HL2.out)
  have HS3 := Lib.hid hS3
  have h3' : w3.heap[w2.heap.size]? = some (.cells (entA (O, r)) 155 (0, 0)) := by rw [← HX.out]; exact h3
  have HN3 := Lib.hid h3'
  clear hS hN hSN o3 h3
  change World at w3
  obtain ⟨M, hM⟩ : ∃ M, M = w2.heap.size := ⟨_, rfl⟩
  rw [← hM] at HN3 h3'
  try rw [← hM]
  have HM := Lib.hid hM
  have HB3 := Lib.hid (HB2.out.trans (hS3.mono (by have := HB2.out.size; rw [HG.out] at this; exact this)))
  clear hM hS3
  have c1 := rowcell h3'
  have c2 := rowfree h3'
  have hGM : G < M ∧ g < M ∧ gm < M := by
    have := HX0.out; have := HGL.out; have := HM.out; omega
  clear h3'

  have hGD : G < D ∧ D < M ∧ g < G ∧ gm < G := by have := HX0.out; have := HD.out; have := HDL.out; have := HM.out; omega
  have HR3 := Lib.hid (bkeep HS3.out HR2.out)
  have c3 := entA_14 HOO.out r
  have c4 : IntKind.i64.wrap ((r : Int) - 1) = ((r - 1 : Nat) : Int) := by have := HR1.out; rw [IntKind.wrap_i64]; omega
  have c5 : 0 < r - 1 := by have := HR1.out; omega
  go_wp2_with fail
  clear c3 c4
  try rw [show ((r : Int) - 1) = ((r - 1 : Nat) : Int) by have := HR1.out; omega]
  have hn4 := heap_setCell_same HN3.out (.int .i64 ((r - 1 : Nat) : Int)) (off := 14) (by rw [entA_size HOO.out]; omega)
  rw [entA_set HOO.out] at hn4
  have o4 := one_setCell w3 M 14 (.int .i64 ((r - 1 : Nat) : Int))
  have hT4 := HT3.out.one o4 (by omega) (by omega)
  have hl4 := o4.blk HL3.out (fun e => by cases e; omega)
  generalize w3.setCell ⟨M, 14, none⟩ (.int .i64 ((r - 1 : Nat) : Int)) = w4 at *
  have HT4 := Lib.hid hT4
  have HO4 := Lib.hid o4
  have HN4 := Lib.hid hn4
  have HL4 := Lib.hid hl4
  clear c1 c2 hT4 o4 hn4 hl4

  have HR4 := Lib.hid (HO4.out.blk HR3.out (fun e => by cases e; omega))
  clear c5
  have c1 := rowcell HL4.out
  have c2 := HT4.out.c1
  obtain ⟨Y, hY⟩ : ∃ Y, Y = entA ((O, r - 1)) := ⟨_, rfl⟩
  have HY := Lib.hid hY
  have HYS := Lib.hid (show Y.size = 15 by rw [hY]; exact entA_size (HOO.out))
  clear hY
  refine wp_region_still_tail 6 (by kernel_rfl) (by kernel_rfl) ?_
  simp only [List.take_succ_cons, List.take_zero, List.drop_succ_cons, List.drop_zero]
  change wpStill _ _ (World.drew w4) _ _ _
  iterate 5 still_step
  refine still_by (by kernel_rfl) (.agg Y) (some 30) rfl (load_piece 155 _ rfl M 0 (by go_simp) Y _ (fun j v hv => by rw [Nat.zero_add]; show w4.cell? ⟨M, j, none⟩ = some v; rw [rowcell HN4.out, ← HY.out]; simpa using hv) Try.underlying155 rfl (by rw [HYS.out]; kernel_rfl)) ?_
  refine wpStill_nil ?_
  change wpList _ _ _ _ _ (World.drew w4)
  refine wpList_update_mk (by kernel_rfl) rfl (HT4.out.keep (drewb w4)).mp keyedId markV_inj Try.underlying150 _ _ _ rfl (by go_simp) p (by go_simp; try rfl) HK.out ((O, r - 1)) (by go_simp; rw [HY.out]; rfl) ?_
  intro w6 hmk ho6
  have hT6 := (HT4.out.keep (drewb w4)).setMap ho6 hmk
  have o6' : One w4 w6 (some gm) := ⟨ho6.os, ho6.tape, ho6.output, ho6.size, ho6.block⟩
  have HT6 := Lib.hid hT6
  have HO6 := Lib.hid o6'
  have HD6 := Lib.hid (((Duo.of_below (g := g) (h := gm) (by rw [HG.out]; exact HB3.out)).of_one_new HO4.out (by rw [HG.out]; omega)).trans (Duo.of_one' o6'))
  clear c1 c2 hT6 o6' ho6 hmk
  have hn6 := HO6.out.blk HN4.out (fun e => by cases e; omega)
  have hr6 := HO6.out.blk HR4.out (fun e => by cases e; omega)
  have HN6 := Lib.hid hn6
  have HR6 := Lib.hid hr6
  clear hn6 hr6
  go_wp2_with (with_reducible refine wpList_stop (some 32) rfl ?_)
  try clear c1 c2 c3 c4 c5
  skip
  refine Lib.hid ?_
  refine wpList_load_pieceTo rfl 78 _ rfl (some 32) rfl M 0 (by go_simp) O _ (fun j v hj => by
    have hj' : j < 14 := by
      rcases Nat.lt_or_ge j 14 with h | h
      · exact h
      · rw [List.getElem?_eq_none (by simp [HOO.out.1]; omega)] at hj; cases hj
    rw [Nat.zero_add, rowcell HN6.out, entA_low HOO.out _ hj']
    simpa using hj) Try.underlying78 rfl (by rw [HOO.out.1]; kernel_rfl) ?_
  go_wp2_with (with_reducible refine wpList_stop none rfl ?_)
  refine Lib.hid ?_
  refine wpList_store_pieceTo rfl 78 _ _ rfl rfl D 0 O (by go_simp) (by go_simp) (by rw [HOO.out.1]; kernel_rfl) (fun j hj => by rw [Nat.zero_add, rowcell HR6.out, Array.getElem?_eq_getElem (by rw [HOO.out.1] at hj; exact hj)]; rfl) (fun j hj => rowfree HR6.out _) HOO.out.2 (fun x9 hx9 => ?_)
  obtain ⟨e9, o9⟩ := setCells_whole (cs := O) HR6.out (by rw [HOO.out.1]; rfl)
  rw [← hx9] at e9 o9
  have hrun := openLoad x9 D O HOO.out.1 e9
  clear hx9
  go_wp2_with fail
  exact bodyPost_ret (v := .tuple #[.agg O, .bool false]) (by simp [results, Try.results47, Act.put, asAddr, hrun]) rfl ⟨rfl, HT6.out.one o9 (by omega) (by omega), HD6.out.of_one_new o9 (by rw [HG.out]; omega)⟩

set_option maxRecDepth 20000 in
set_option maxHeartbeats 4000000 in
theorem fdsDrop_last (h : TP w g gm a us F) (ok : OkF F) (p : Nat × Nat) (h1 : p.1 < 64) (h2 : p.2 ≤ 65535) (O : Array Value) (r : Nat) (hF : F p = some (O, r)) (hr1 : r = 1) (hr2 : r < 1000000) (hu : 0 < us p.1) (hu2 : us p.1 < 65536) :
    Calls Try.prog 47 #[.pointer (some ⟨g, 0, none⟩), markV p] w fun e w' => e = .returned (.tuple #[.agg O, .bool true]) ∧ TP w' g gm a (setN us p.1 (us p.1 - 1)) (delF F p) ∧ Duo w w' g gm := by
  have hOO := ok p _ hF
  have hbn := bnewAfter (bnew w (.cells #[.int .u8 p.1, .int .u16 p.2] 69)) (.cells #[.int .u8 0, .int .u8 0, .int .u16 0, .int .u16 0, .bool false, .int .u8 0, .int .u16 0, .int .u16 0, .int .i64 0, .int .i64 0, .bool false, .bool false, .bool false, .string ⟨#[]⟩] 78)
  have hl := bkeep (bnew _ (.cells #[.int .u8 0, .int .u8 0, .int .u16 0, .int .u16 0, .bool false, .int .u8 0, .int .u16 0, .int .u16 0, .int .i64 0, .int .i64 0, .bool false, .bool false, .bool false, .string ⟨#[]⟩] 78)) (heap_alloc_last w (.cells #[.int .u8 p.1, .int .u16 p.2] 69))
  have hr := heap_alloc_last (w.alloc (.cells #[.int .u8 p.1, .int .u16 p.2] 69)) (.cells #[.int .u8 0, .int .u8 0, .int .u16 0, .int .u16 0, .bool false, .int .u8 0, .int .u16 0, .int .u16 0, .int .i64 0, .int .i64 0, .bool false, .bool false, .bool false, .string ⟨#[]⟩] 78)
  rw [World.size_alloc] at hr
  have HT := Lib.hid (h.keep hbn)
  have HB := Lib.hid hbn
  have HL := Lib.hid hl
  have HRR := Lib.hid hr
  have HOK := Lib.hid ok
  have HF := Lib.hid hF
  have c1 := rowcell hl
  have HOO := Lib.hid (show okO O from hOO)
  have HX0 := Lib.hid (show g < w.heap.size ∧ gm < w.heap.size from ⟨h.row.lt, h.mp.lt⟩)
  obtain ⟨l, hkey⟩ := key_id p (by omega) h2
  have HK := Lib.hid hkey
  obtain ⟨X, hX⟩ : ∃ X, X = entA (O, r) := ⟨_, rfl⟩
  have HX := Lib.hid hX
  obtain ⟨z, hz⟩ : ∃ z, z = entA (openZ, 0) := ⟨_, rfl⟩
  have HZ := Lib.hid hz
  have HXS := Lib.hid (show X.size = 15 by rw [hX]; exact entA_size hOO)
  have HXO := Lib.hid (show ∀ v ∈ X.toList, v.oneCell' = true by rw [hX]; exact entA_one hOO)
  have HZS := Lib.hid (show z.size = 15 by rw [hz]; rfl)
  have HR1 := Lib.hid hr1
  clear hOO hkey hX hz hr1
  clear h hbn hF hl hr ok
  unfold markV
  go_enter Try.func47, Try.ntmps47
  go_wp2_with fail
  generalize hG : w.heap.size = G at *
  generalize (w.alloc (.cells #[.int .u8 p.1, .int .u16 p.2] 69)).alloc (.cells #[.int .u8 0, .int .u8 0, .int .u16 0, .int .u16 0, .bool false, .int .u8 0, .int .u16 0, .int .u16 0, .int .i64 0, .int .i64 0, .bool false, .bool false, .bool false, .string ⟨#[]⟩] 78) = w1 at *
  obtain ⟨D, hD⟩ : ∃ D, D = G + 1 := ⟨_, rfl⟩
  rw [← hD] at HRR ⊢
  have HR := Lib.hid (show w1.heap[D]? = some (.cells openZ 78 (0, 0)) from HRR.out)
  have HD := Lib.hid hD
  have HG := Lib.hid hG
  clear hG c1 hD HRR
  refine (fdsHas_in HT.out HOK.out p (by omega) h2).mono ?_
  rintro e w2 ⟨rfl, hb2⟩
  rw [HF.out]
  have HB2 := Lib.hid (HB.out.trans (hb2.mono (by have := HB.out.size; rw [HG.out] at this; exact this)))
  have HL2 := Lib.hid (bkeep hb2 HL.out)
  have HR2 := Lib.hid (bkeep hb2 HR.out)
  have HT2 := Lib.hid (HT.out.keep hb2)
  have HGL := Lib.hid (show G < w2.heap.size from rowlt HL2.out)
  have HDL := Lib.hid (show D < w2.heap.size from rowlt HR2.out)
  clear hb2

  have c1 := rowcell HL2.out
  go_wp2_with fail
  clear c1

  refine wp_region_held (S := fun w' => Below w2.heap.size w2 w') (by kernel_rfl) ?_
  change wpAnyH _ _ _ _ _ _ _ _ (World.drew _)
  have hS := drewb w2

  refine takeH 0 (.pointer (some ⟨g, 0, none⟩)) (some 12) rfl rfl (by kernel_rfl) (by kernel_rfl) (by kernel_rfl) (fun _ _ _ h => h) (.inl ⟨by kernel_rfl, fun w _ => by go_simp⟩) hS ?_
  refine takeH 1 (.pointer (some ⟨g, 0, none⟩)) (some 13) rfl rfl (by kernel_rfl) (by kernel_rfl) (by kernel_rfl) (fun _ _ _ h => h) (.inl ⟨by kernel_rfl, fun w _ => by go_simp⟩) hS ?_
  refine takeH 2 (.pointer (some ⟨g, 1, none⟩)) (some 14) rfl rfl (by kernel_rfl) (by kernel_rfl) (by kernel_rfl) (fun _ _ _ h => h) (.inl ⟨by kernel_rfl, fun w _ => by go_simp⟩) hS ?_
  refine takeH 3 (.map (some gm)) (some 15) rfl rfl (by kernel_rfl) (by kernel_rfl) (by kernel_rfl) (fun _ _ _ h => h) (.inl ⟨by kernel_rfl, fun w hw => by have hc := (fun w hw => (HT2.out.keep hw).c1) w hw; go_simp⟩) hS ?_
  refine takeH 4 (.agg #[.int .u8 p.1, .int .u16 p.2]) (some 16) rfl rfl (by kernel_rfl) (by kernel_rfl) (by kernel_rfl) (fun _ _ _ h => h) (yi_piece (by kernel_rfl) 69 _ rfl G 0 (by go_simp) #[.int .u8 p.1, .int .u16 p.2] _ (fun w hw j v hv => by rw [Nat.zero_add, rowcell (bkeep hw HL2.out)]; simpa using hv) Try.underlying69 rfl (by kernel_rfl)) hS ?_
  refine takeH 5 (.agg X) (some 17) rfl rfl (by kernel_rfl) (by kernel_rfl) (by kernel_rfl) (fun _ _ _ h => h) (.inl ⟨by kernel_rfl, fun w hw => by rw [show Value.agg X = lkV entV (entV (openZ, 0)) false (F p) by rw [HF.out, HX.out]; rfl]; exact (HT2.out.keep hw).mp.exec_lookup keyedId markV_inj Try.underlying150 entZ _ _ false rfl (by go_simp) p (by go_simp; try rfl) HK.out⟩) hS ?_
  refine runH 6 _ (some 6) rfl (by kernel_rfl) (by kernel_rfl) rfl (exec_alloc 155 rfl (.agg z) (by rw [HZ.out]; exact entZ)) (hS.alloc hS.size _) ?_
  have hN := heap_alloc_last (World.drew w2) (.cells z 155)
  have hSN := hS.alloc hS.size (.cells z 155)
  refine storeWholeH 7 rfl (by kernel_rfl) (by kernel_rfl) rfl 155 _ _ rfl X z 155 (by go_simp) (by go_simp) (by rw [HXS.out]; kernel_rfl) hN (by rw [HXS.out, HZS.out]) HXO.out (fun w3 h3 o3 => ⟨bone hSN o3 (Nat.le_refl _) hSN.size, ?_⟩)
  have hS3 := bone hSN o3 (Nat.le_refl _) hSN.size

  refine wpAnyH_done (by kernel_rfl) ?_ _
  go_simp
  have HT3 := Lib.hid (HT2.out.keep hS3)
  have HL3 := Lib.hid (bkeep hS3 HL2.out)
  have HS3 := Lib.hid hS3
  have h3' : w3.heap[w2.heap.size]? = some (.cells (entA (O, r)) 155 (0, 0)) := by rw [← HX.out]; exact h3
  have HN3 := Lib.hid h3'
  clear hS hN hSN o3 h3
  change World at w3
  obtain ⟨M, hM⟩ : ∃ M, M = w2.heap.size := ⟨_, rfl⟩
  rw [← hM] at HN3 h3'
  try rw [← hM]
  have HM := Lib.hid hM
  have HB3 := Lib.hid (HB2.out.trans (hS3.mono (by have := HB2.out.size; rw [HG.out] at this; exact this)))
  clear hM hS3
  have c1 := rowcell h3'
  have c2 := rowfree h3'
  have hGM : G < M ∧ g < M ∧ gm < M := by
    have := HX0.out; have := HGL.out; have := HM.out; omega
  clear h3'

  have hGD : G < D ∧ D < M ∧ g < G ∧ gm < G := by have := HX0.out; have := HD.out; have := HDL.out; have := HM.out; omega
  have HR3 := Lib.hid (bkeep HS3.out HR2.out)
  have c3 := entA_14 HOO.out r
  have c4 : IntKind.i64.wrap ((r : Int) - 1) = ((r - 1 : Nat) : Int) := by have := HR1.out; rw [IntKind.wrap_i64]; omega
  have c5 : ¬ (0 < r - 1) := by have := HR1.out; omega
  go_wp2_with fail
  clear c3 c4
  try rw [show ((r : Int) - 1) = ((r - 1 : Nat) : Int) by have := HR1.out; omega]
  have hn4 := heap_setCell_same HN3.out (.int .i64 ((r - 1 : Nat) : Int)) (off := 14) (by rw [entA_size HOO.out]; omega)
  rw [entA_set HOO.out] at hn4
  have o4 := one_setCell w3 M 14 (.int .i64 ((r - 1 : Nat) : Int))
  have hT4 := HT3.out.one o4 (by omega) (by omega)
  have hl4 := o4.blk HL3.out (fun e => by cases e; omega)
  generalize w3.setCell ⟨M, 14, none⟩ (.int .i64 ((r - 1 : Nat) : Int)) = w4 at *
  have HT4 := Lib.hid hT4
  have HO4 := Lib.hid o4
  have HN4 := Lib.hid hn4
  have HL4 := Lib.hid hl4
  clear c1 c2 hT4 o4 hn4 hl4

  have HR4 := Lib.hid (HO4.out.blk HR3.out (fun e => by cases e; omega))
  clear c5
  have c1 := rowcell HL4.out
  have c2 := HT4.out.c1
  refine wp_region_still_tail 5 (by kernel_rfl) (by kernel_rfl) ?_
  simp only [List.take_succ_cons, List.take_zero, List.drop_succ_cons, List.drop_zero]
  change wpStill _ _ (World.drew w4) _ _ _
  iterate 5 still_step
  refine wpStill_nil ?_
  change wpList _ _ _ _ _ (World.drew w4)
  refine wpList_delete_mk (by kernel_rfl) none rfl (HT4.out.keep (drewb w4)).mp keyedId markV_inj Try.underlying150 _ _ rfl (by go_simp) p (by go_simp; try rfl) HK.out ?_
  intro w5 hmk ho5
  have hT5 := (HT4.out.keep (drewb w4)).setMap ho5 hmk
  have o5' : One w4 w5 (some gm) := ⟨ho5.os, ho5.tape, ho5.output, ho5.size, ho5.block⟩
  have HT5 := Lib.hid hT5
  have HO5 := Lib.hid o5'
  have HD5 := Lib.hid (((Duo.of_below (g := g) (h := gm) (by rw [HG.out]; exact HB3.out)).of_one_new HO4.out (by rw [HG.out]; omega)).trans (Duo.of_one' o5'))
  have hl5 := HO5.out.blk HL4.out (fun e => by cases e; omega)
  clear c1 c2 hT5 o5' ho5 hmk
  have c1 := rowcell hl5
  have c2 := HT5.out.cu h1
  have c3 := HT5.out.frz
  have c4 : IntKind.i64.wrap ((us p.1 : Int) - 1) = (us p.1 : Int) - 1 := by rw [IntKind.wrap_i64]; omega
  have c5 : (p.1 : Int) < 64 := by omega
  clear hl5
  go_wp2_with fail
  refine wp_region_still_tail 11 (by kernel_rfl) (by kernel_rfl) ?_
  simp only [List.take_succ_cons, List.take_zero, List.drop_succ_cons, List.drop_zero]
  change wpStill _ _ (World.drew w5) _ _ _
  iterate 11 still_step
  refine wpStill_nil ?_
  change wpList _ _ _ _ _ (World.drew w5)
  have hA := HT5.out.setUs p.1 (us p.1 - 1) h1
  rw [show ((us p.1 - 1 : Nat) : Int) = (us p.1 : Int) - 1 by omega] at hA
  have oA := one_setCell w5 g (2 + p.1) (.int .i64 ((us p.1 : Int) - 1))
  have hn6 := oA.blk (HO5.out.blk HN4.out (fun e => by cases e; omega)) (fun e => by cases e; omega)
  have hr6 := oA.blk (HO5.out.blk HR4.out (fun e => by cases e; omega)) (fun e => by cases e; omega)
  have HT6 := Lib.hid (show TP ((w5.setCell ⟨g, 2 + p.1, none⟩ (.int .i64 ((us p.1 : Int) - 1))).drew) g gm a (setN us p.1 (us p.1 - 1)) (delF F p) from hA.keep (drewb _))
  have HD6 := Lib.hid (show Duo w ((w5.setCell ⟨g, 2 + p.1, none⟩ (.int .i64 ((us p.1 : Int) - 1))).drew) g gm from (HD5.out.trans (Duo.of_one oA)).trans (Duo.of_below (drewb _)))
  clear hA oA
  have HN6 := Lib.hid (show ((w5.setCell ⟨g, 2 + p.1, none⟩ (.int .i64 ((us p.1 : Int) - 1))).drew).heap[M]? = some (.cells (entA (O, r - 1)) 155 (0, 0)) from hn6)
  have HR6 := Lib.hid (show ((w5.setCell ⟨g, 2 + p.1, none⟩ (.int .i64 ((us p.1 : Int) - 1))).drew).heap[D]? = some (.cells openZ 78 (0, 0)) from hr6)
  clear hn6 hr6
  go_wp2_with (with_reducible refine wpList_stop (some 50) rfl ?_)
  try clear c1 c2 c3 c4 c5
  generalize (w5.setCell ⟨g, 2 + p.1, none⟩ (.int .i64 ((us p.1 : Int) - 1))).drew = w6 at *
  refine Lib.hid ?_
  refine wpList_load_pieceTo rfl 78 _ rfl (some 50) rfl M 0 (by go_simp) O _ (fun j v hj => by
    have hj' : j < 14 := by
      rcases Nat.lt_or_ge j 14 with h | h
      · exact h
      · rw [List.getElem?_eq_none (by simp [HOO.out.1]; omega)] at hj; cases hj
    rw [Nat.zero_add, rowcell HN6.out, entA_low HOO.out _ hj']
    simpa using hj) Try.underlying78 rfl (by rw [HOO.out.1]; kernel_rfl) ?_
  go_wp2_with (with_reducible refine wpList_stop none rfl ?_)
  refine Lib.hid ?_
  refine wpList_store_pieceTo rfl 78 _ _ rfl rfl D 0 O (by go_simp) (by go_simp) (by rw [HOO.out.1]; kernel_rfl) (fun j hj => by rw [Nat.zero_add, rowcell HR6.out, Array.getElem?_eq_getElem (by rw [HOO.out.1] at hj; exact hj)]; rfl) (fun j hj => rowfree HR6.out _) HOO.out.2 (fun x9 hx9 => ?_)
  obtain ⟨e9, o9⟩ := setCells_whole (cs := O) HR6.out (by rw [HOO.out.1]; rfl)
  rw [← hx9] at e9 o9
  have hrun := openLoad x9 D O HOO.out.1 e9
  clear hx9
  go_wp2_with fail
  exact bodyPost_ret (v := .tuple #[.agg O, .bool true]) (by simp [results, Try.results47, Act.put, asAddr, hrun]) rfl ⟨rfl, HT6.out.one o9 (by omega) (by omega), HD6.out.of_one_new o9 (by rw [HG.out]; omega)⟩

end
end Go.Proofs.Ytfnkbgcgajgppaa
