/- Pages: Set, Copy, Used, Room. -/
import Derived.Test.YtapcbfeifeobhaaFrmC
set_option linter.unusedVariables false
set_option linter.unusedSimpArgs false
namespace Go.Proofs.Ytapcbfeifeobhaa
open Go.RowKit
open Go.Maps (Keyed)

/-- One byte of a page is another one. -/
def setB (f : Nat → Nat) (n c : Nat) : Nat → Nat := fun j => if j = n then c else f j
theorem page_row {w : World} {x : Nat} {f : Nat → Nat} (h : w.heap[x]? = some (.cells (pageA f) 130 (0, 0))) : w.rowIs x 130 64 (fun i => .int .u8 (f i)) := rowIs_of_arr h
theorem page_set {w : World} {x : Nat} {f : Nat → Nat} (h : w.heap[x]? = some (.cells (pageA f) 130 (0, 0))) (n c : Nat) :
    (w.setCell ⟨x, n, none⟩ (.int .u8 c)).heap[x]? = some (.cells (pageA (setB f n c)) 130 (0, 0)) :=
  rowIs_arr (((page_row h).set n (.int .u8 c)).congr (fun j hj => by unfold setB; split <;> rfl))

section
variable {w0 w : World} {g gm : Nat} {a : Option Addr} {us : Nat → Nat} {F : Nat × Nat → Option (Nat → Nat)} {rs : List RegL}
set_option maxRecDepth 20000 in
set_option maxHeartbeats 4000000 in
theorem frameSet_nil (w : World) (p : Nat × Nat) (i c : Int) : Calls Try.prog 55 #[.pointer none, markV p, .int .i64 i, .int .u8 c] w fun e w' => e = .returned (.bool false) ∧ Below w.heap.size w w' := by
  unfold markV
  go_enter Try.func55, Try.ntmps55
  go_wp2_with fail
  go_ret
  exact ⟨rfl, bnew _ _⟩
set_option maxRecDepth 20000 in
set_option maxHeartbeats 4000000 in
theorem frameSet_no (h : FP w g gm a us F) (p : Nat × Nat) (h1 : p.1 ≤ 255) (h2 : p.2 ≤ 65535) (i c : Int) (hF : (F p).isSome = false ∨ i < 0 ∨ 64 ≤ i) :
    Calls Try.prog 55 #[.pointer (some ⟨g, 0, none⟩), markV p, .int .i64 i, .int .u8 c] w fun e w' => e = .returned (.bool false) ∧ Below w.heap.size w w' := by
  have hbn := bnew w (.cells #[.int .u8 p.1, .int .u16 p.2] 110)
  have HT := Lib.hid (h.keep hbn)
  have HB := Lib.hid hbn
  have HF := Lib.hid hF
  clear h hbn hF
  unfold markV
  go_enter Try.func55, Try.ntmps55
  go_wp2_with fail
  refine (frameHas_in HT.out p h1 h2).mono ?_
  rintro e w2 ⟨rfl, hb2⟩
  have HB2 := Lib.hid (bnext HB.out hb2)
  clear hb2
  cases hs : (F p).isSome with
  | false =>
    clear hs
    go_wp2_with fail
    go_ret
    exact ⟨rfl, HB2.out⟩
  | true =>
    have hi : i < 0 ∨ 64 ≤ i := by
      rcases HF.out with h | h
      · rw [hs] at h; cases h
      · exact h
    clear hs HF
    by_cases h0 : i < 0
    · clear hi
      go_wp2_with fail
      go_ret
      exact ⟨rfl, HB2.out⟩
    · have h64 : 64 ≤ i := by omega
      clear hi
      go_wp2_with fail
      go_ret
      exact ⟨rfl, HB2.out⟩
set_option maxRecDepth 20000 in
set_option maxHeartbeats 4000000 in
theorem frameSet_yes (h : FP w g gm a us F) (p : Nat × Nat) (h1 : p.1 ≤ 255) (h2 : p.2 ≤ 65535) (n : Nat) (hn : n < 64) (c : Nat) (f : Nat → Nat) (hF : F p = some f) :
    Calls Try.prog 55 #[.pointer (some ⟨g, 0, none⟩), markV p, .int .i64 n, .int .u8 c] w fun e w' => e = .returned (.bool true) ∧ FP w' g gm a us (putF F p (setB f n c)) ∧ Duo w w' g gm := by
  have hbn := bnew w (.cells #[.int .u8 p.1, .int .u16 p.2] 110)
  have hl := heap_alloc_last w (.cells #[.int .u8 p.1, .int .u16 p.2] 110)
  have HT := Lib.hid (h.keep hbn)
  have HB := Lib.hid hbn
  have HL := Lib.hid hl
  have HF := Lib.hid hF
  have HX0 := Lib.hid (show g < w.heap.size ∧ gm < w.heap.size from ⟨h.row.lt, h.mp.lt⟩)
  obtain ⟨l, hkey⟩ := key_frame p (by omega) h2
  have HK := Lib.hid hkey
  obtain ⟨X, hX⟩ : ∃ X, X = pageA f := ⟨_, rfl⟩
  have HX := Lib.hid hX
  obtain ⟨z, hz⟩ : ∃ z, z = pageA fun _ => 0 := ⟨_, rfl⟩
  have HZ := Lib.hid hz
  have HXS := Lib.hid (show X.size = 64 by rw [hX]; exact pageA_size _)
  have HZS := Lib.hid (show z.size = 64 by rw [hz]; exact pageA_size _)
  clear h hbn hF hl hkey hX hz
  unfold markV
  go_enter Try.func55, Try.ntmps55
  go_wp2_with fail
  generalize hG : w.heap.size = G at *
  generalize w.alloc (.cells #[.int .u8 p.1, .int .u16 p.2] 110) = w1 at *
  have HG := Lib.hid hG
  clear hG
  refine (frameHas_in HT.out p (by omega) h2).mono ?_
  rintro e w2 ⟨rfl, hb2⟩
  rw [HF.out]
  have HB2 := Lib.hid hb2
  have HL2 := Lib.hid (bkeep hb2 HL.out)
  have HT2 := Lib.hid (HT.out.keep hb2)
  clear hb2
  have c5 : ¬ ((n : Int) < 0) := by omega
  have c6 : ¬ (64 ≤ (n : Int)) := by omega
  go_wp2_with fail
  refine wp_region_held (S := fun w' => Below w2.heap.size w2 w') (by kernel_rfl) ?_
  change wpAnyH _ _ _ _ _ _ _ _ (World.drew _)
  have hS := drewb w2

  refine takeH 0 (.pointer (some ⟨g, 0, none⟩)) (some 26) rfl rfl (by kernel_rfl) (by kernel_rfl) (by kernel_rfl) (fun _ _ _ h => h) (.inl ⟨by kernel_rfl, fun w _ => by go_simp⟩) hS ?_
  refine takeH 1 (.pointer (some ⟨g, 0, none⟩)) (some 27) rfl rfl (by kernel_rfl) (by kernel_rfl) (by kernel_rfl) (fun _ _ _ h => h) (.inl ⟨by kernel_rfl, fun w _ => by go_simp⟩) hS ?_
  refine takeH 2 (.pointer (some ⟨g, 1, none⟩)) (some 28) rfl rfl (by kernel_rfl) (by kernel_rfl) (by kernel_rfl) (fun _ _ _ h => h) (.inl ⟨by kernel_rfl, fun w _ => by go_simp⟩) hS ?_
  refine takeH 3 (.map (some gm)) (some 29) rfl rfl (by kernel_rfl) (by kernel_rfl) (by kernel_rfl) (fun _ _ _ h => h) (.inl ⟨by kernel_rfl, fun w hw => by have hc := (fun w hw => (HT2.out.keep hw).c1) w hw; go_simp⟩) hS ?_
  refine takeH 4 (.agg #[.int .u8 p.1, .int .u16 p.2]) (some 30) rfl rfl (by kernel_rfl) (by kernel_rfl) (by kernel_rfl) (fun _ _ _ h => h) (yi_piece (by kernel_rfl) 110 _ rfl G 0 (by go_simp) #[.int .u8 p.1, .int .u16 p.2] _ (fun w hw j v hv => by rw [Nat.zero_add, rowcell (bkeep hw HL2.out)]; simpa using hv) Try.underlying110 rfl (by kernel_rfl)) hS ?_
  refine takeH 5 (.agg X) (some 31) rfl rfl (by kernel_rfl) (by kernel_rfl) (by kernel_rfl) (fun _ _ _ h => h) (.inl ⟨by kernel_rfl, fun w hw => by rw [show Value.agg X = lkV pageV (pageV fun _ => 0) false (F p) by rw [HF.out, HX.out]; rfl]; exact (HT2.out.keep hw).mp.exec_lookup keyedFrame markV_inj Try.underlying131 pageZ _ _ false rfl (by go_simp) p (by go_simp; try rfl) HK.out⟩) hS ?_
  refine runH 6 _ (some 9) rfl (by kernel_rfl) (by kernel_rfl) rfl (exec_alloc 130 rfl (.agg z) (by rw [HZ.out]; exact pageZ)) (hS.alloc hS.size _) ?_
  have hN := heap_alloc_last (World.drew w2) (.cells z 130)
  have hSN := hS.alloc hS.size (.cells z 130)
  refine storeWholeH 7 rfl (by kernel_rfl) (by kernel_rfl) rfl 130 _ _ rfl X z 130 (by go_simp) (by go_simp) (by rw [HXS.out]; kernel_rfl) hN (by rw [HXS.out, HZS.out]) (by rw [HX.out]; exact page_one _) (fun w3 h3 o3 => ⟨bone hSN o3 (Nat.le_refl _) hSN.size, ?_⟩)
  have hS3 := bone hSN o3 (Nat.le_refl _) hSN.size

  refine wpAnyH_done (by kernel_rfl) ?_ _
  go_simp
  have hN0 : w2.heap.size < w3.heap.size := rowlt h3
  have HT3 := Lib.hid (HT2.out.keep hS3)
  have HL3 := Lib.hid (bkeep hS3 HL2.out)
  have HS3 := Lib.hid hS3
  have h3' : w3.heap[w2.heap.size]? = some (.cells (pageA f) 130 (0, 0)) := by rw [← HX.out]; exact h3
  have HN3 := Lib.hid h3'
  clear hS hN hSN o3 hS3 h3
  change World at w3
  obtain ⟨M, hM⟩ : ∃ M, M = w2.heap.size := ⟨_, rfl⟩
  rw [← hM] at HN3 h3'
  try rw [← hM]
  have HM := Lib.hid hM
  clear hM
  have c1 := (page_row h3').cell (i := n) hn
  have c2 := rowfree h3'
  clear h3'
  go_wp2_with fail
  have hn4 := page_set HN3.out n c
  have o4 := one_setCell w3 M n (.int .u8 c)
  have hGM : G < M ∧ g < M ∧ gm < M := by
    have := HX0.out; have := HB.out.size; have := HB2.out.size; have := HM.out; have := rowlt HL.out; rw [HG.out] at *; omega
  have hT4 := HT3.out.one o4 (by omega) (by omega)
  have hl4 := o4.blk HL3.out (fun e => by cases e; omega)
  generalize w3.setCell ⟨M, n, none⟩ (.int .u8 c) = w4 at *
  have HT4 := Lib.hid hT4
  have HO4 := Lib.hid o4
  have HN4 := Lib.hid hn4
  clear c1 c2 hT4 o4
  have c1 := rowcell hl4
  have c2 := HT4.out.c1
  obtain ⟨Y, hY⟩ : ∃ Y, Y = pageA (setB f n c) := ⟨_, rfl⟩
  have HY := Lib.hid hY
  have HYS := Lib.hid (show Y.size = 64 by rw [hY]; exact pageA_size _)
  clear hl4 hn4 hY
  refine wp_region_still_tail 6 (by kernel_rfl) (by kernel_rfl) ?_
  simp only [List.take_succ_cons, List.take_zero, List.drop_succ_cons, List.drop_zero]
  change wpStill _ _ (World.drew w4) _ _ _
  iterate 5 still_step
  refine still_by (by kernel_rfl) (.agg Y) (some 40) rfl (load_piece 130 _ rfl M 0 (by go_simp) Y _ (fun j v hv => by rw [Nat.zero_add]; show w4.cell? ⟨M, j, none⟩ = some v; rw [rowcell HN4.out, ← HY.out]; simpa using hv) Try.underlying130 rfl (by rw [HYS.out]; kernel_rfl)) ?_
  refine wpStill_nil ?_
  change wpList _ _ _ _ _ (World.drew w4)
  refine wpList_update_mk (by kernel_rfl) rfl (HT4.out.keep (drewb w4)).mp keyedFrame markV_inj Try.underlying131 _ _ _ rfl (by go_simp) p (by go_simp; try rfl) HK.out (setB f n c) (by go_simp; rw [HY.out]; rfl) ?_
  intro w6 hmk ho6
  have hT6 := (HT4.out.keep (drewb w4)).setMap ho6 hmk
  have o6' : One w4 w6 (some gm) := ⟨ho6.os, ho6.tape, ho6.output, ho6.size, ho6.block⟩
  have HT6 := Lib.hid hT6
  have HO6 := Lib.hid o6'
  clear c1 c2 hT6 o6' ho6 hmk
  go_wp2_with fail
  go_ret
  exact ⟨rfl, HT6.out, ((Duo.of_below (by rw [HG.out]; exact (HB.out.trans (HB2.out.mono (by have := HB.out.size; rw [HG.out] at this; exact this))).trans (HS3.out.mono (by have := HB.out.size; have := HB2.out.size; rw [HG.out] at *; omega)))).of_one_new HO4.out (by rw [HG.out]; omega)).trans (Duo.of_one' HO6.out)⟩

set_option maxHeartbeats 4000000 in
theorem frameRoom_nil (w : World) (i : Int) : Calls Try.prog 50 #[.pointer none, .int .i64 i] w fun e w' => e = .returned (.int .i64 0) ∧ w = w' := by
  go_enter Try.func50, Try.ntmps50
  go_wp2_with fail
  go_ret
  exact ⟨rfl, rfl⟩
set_option maxHeartbeats 4000000 in
theorem frameRoom_no (hp : ConfP w0 a rs) (hb : Below w0.heap.size w0 w) (h : FP w g gm a us F) (i : Int) (hi : inB i rs.length = false) :
    Calls Try.prog 50 #[.pointer (some ⟨g, 0, none⟩), .int .i64 i] w fun e w' => e = .returned (.int .i64 0) ∧ Below w.heap.size w w' := by
  have c0 := h.c0
  have HP := Lib.hid (hp.keep hb)
  clear h hp hb
  go_enter Try.func50, Try.ntmps50
  go_wp2_with fail
  refine (HP.out.reg _ (Below.refl _ _) i).mono ?_
  rintro e w2 ⟨r, rfl, _, hb2⟩
  rw [hi]
  have HB2 := Lib.hid hb2
  clear hb2 c0
  unfold regV regArr
  go_wp2_with fail
  go_ret
  exact ⟨rfl, bnewAfter HB2.out _⟩
set_option maxHeartbeats 4000000 in
theorem frameRoom_in (hp : ConfP w0 a rs) (hb : Below w0.heap.size w0 w) (h : FP w g gm a us F) (k : Nat) (hk : k < rs.length) (h64 : rs.length ≤ 64) (hu : us k < 65536) (hf : rs[k].fr < 65536) :
    Calls Try.prog 50 #[.pointer (some ⟨g, 0, none⟩), .int .i64 k] w fun e w' => e = .returned (.int .i64 ((rs[k].fr : Int) - us k)) ∧ Below w.heap.size w w' := by
  have c0 := h.c0
  have HT := Lib.hid h
  have HP := Lib.hid (hp.keep hb)
  obtain ⟨fr, hfr⟩ : ∃ fr, fr = rs[k].fr := ⟨_, rfl⟩
  rw [← hfr] at hf ⊢
  have HFR := Lib.hid hfr
  clear h hp hb hfr
  go_enter Try.func50, Try.ntmps50
  go_wp2_with fail
  refine (HP.out.reg _ (Below.refl _ _) k).mono ?_
  rintro e w2 ⟨r, rfl, hr, hb2⟩
  rw [inB_nat hk]
  have hr' := hr k hk rfl
  rw [HFR.out, ← hr'] at hf
  have HE := Lib.hid (show r.fr = fr by rw [hr', HFR.out])
  clear hr hr'
  have HB2 := Lib.hid hb2
  have HT2 := Lib.hid (HT.out.keep hb2)
  have hb3 := bnew w2 (.cells #[.string r.name, .int .u8 r.lab.1, .int .u16 r.lab.2, .int .i64 r.bl, .int .i64 r.no, .int .i64 r.fr, .int .i64 r.pr, .int .i64 r.op, .int .i64 r.cl] 138)
  have hreg := rowcell (heap_alloc_last w2 (.cells #[.string r.name, .int .u8 r.lab.1, .int .u16 r.lab.2, .int .i64 r.bl, .int .i64 r.no, .int .i64 r.fr, .int .i64 r.pr, .int .i64 r.op, .int .i64 r.cl] 138))
  have HT3 := Lib.hid (HT2.out.keep hb3)
  have HB3 := Lib.hid (bnext HB2.out hb3)
  clear hb2 c0 hb3
  have c3 := HT3.out.cu (l := k) (by omega)
  have c4 : (k : Int) < 64 := by omega
  have c5 : IntKind.i64.wrap ((r.fr : Int) - us k) = (r.fr : Int) - us k := by simp [IntKind.wrap, IntKind.bits, IntKind.signed]; omega
  unfold regV regArr
  go_wp2_with fail
  go_quiet (fail)
  go_wp2_with fail
  go_ret
  exact ⟨ret_int (by rw [HE.out]), bdrewN HB3.out _⟩
end
end Go.Proofs.Ytapcbfeifeobhaa
