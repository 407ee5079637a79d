/- Processes: End (of one without children). -/
import Derived.Test.YtpjfnmmgfmfcfaaTskI
set_option linter.unusedVariables false
set_option linter.unusedSimpArgs false
namespace Go.Proofs.Ytpjfnmmgfmfcfaa
open Go.RowKit
open Go.Maps (Keyed)

def endP (sta : Int) (p : PrL) : PrL := { p with mem := none, cwd := .slice none 0 0, st := 3, sta := sta, cau := 0, nmd := false, n0 := 0, n1 := 0, n2 := 0, rest := fun i => if 32 ≤ i then restZ i else p.rest i }
def fdsZ : Array Value := #[.bool false, .int .u8 0, .int .u16 0, .bool false, .int .u8 0, .int .u16 0, .bool false, .int .u8 0, .int .u16 0, .bool false, .int .u8 0, .int .u16 0, .bool false, .int .u8 0, .int .u16 0, .bool false, .int .u8 0, .int .u16 0, .bool false, .int .u8 0, .int .u16 0, .bool false, .int .u8 0, .int .u16 0]
theorem fdsZ_at : ∀ i, i < 24 → fdsZ[i]? = some (restZ (32 + i)) := by
  intro i hi
  iterate 24 (rcases i with _ | i; · rfl)
  omega
/-- What End stores, in its order. -/
theorem end_set (sta : Int) (p : PrL) (j : Nat) (hj : j < 57) : prF (endP sta p) j = if j = 10 then .int .u16 0 else if j = 9 then .int .u16 0 else if j = 8 then .int .u8 0 else if j = 7 then .bool false else if j = 6 then .int .u8 0 else if j = 12 then .int .i32 sta else if j = 5 then .int .u8 3 else
    if j = 56 then .slice none 0 0 else if 32 ≤ j ∧ j < 56 then restZ j else if j = 31 then .pointer none else prF p j := by
  by_cases h5 : j = 5
  · subst h5; rfl
  by_cases h6 : j = 6
  · subst h6; rfl
  by_cases h7 : j = 7
  · subst h7; rfl
  by_cases h8 : j = 8
  · subst h8; rfl
  by_cases h9 : j = 9
  · subst h9; rfl
  by_cases h10 : j = 10
  · subst h10; rfl
  by_cases h12 : j = 12
  · subst h12; rfl
  by_cases h31 : j = 31
  · subst h31; rfl
  by_cases h56 : j = 56
  · subst h56; rfl
  simp only [h5, h6, h7, h8, h9, h10, h12, h31, h56, if_false]
  by_cases hr : 32 ≤ j ∧ j < 56
  · rw [if_pos hr]
    have n0 : ¬ j = 0 := by omega
    have n1 : ¬ j = 1 := by omega
    have n2 : ¬ j = 2 := by omega
    have n3 : ¬ j = 3 := by omega
    have n4 : ¬ j = 4 := by omega
    have n11 : ¬ j = 11 := by omega
    have n13 : ¬ j = 13 := by omega
    simp only [prF, endP, n0, n1, n2, n3, n4, n11, n13, h5, h6, h7, h8, h9, h10, h12, h31, h56, if_false]
    rw [if_pos hr.1]
  · rw [if_neg hr]
    have h32 : ¬ 32 ≤ j := by omega
    simp only [prF, endP, h5, h6, h7, h8, h9, h10, h12, h31, h56, h32, if_false]
/-- A label's processes when one of them has ended. -/
def endL (L : List TE) (j n : Nat) (sta : Int) (t : TE) : List TE := if t.pr.par = 0 then dropE L n else L.set j ⟨t.blk, endP sta t.pr⟩
theorem dropE_set {L : List TE} {j : Nat} (hj : j < L.length) {x : TE} {n : Nat} (h1 : L[j].pr.num = n) (h2 : x.pr.num = n) : dropE (L.set j x) n = dropE L n := by
  have e1 : L.set j x = L.take j ++ x :: L.drop (j + 1) := List.set_eq_take_append_cons_drop .. |>.trans (if_pos hj)
  have e2 : dropE L n = dropE (L.take j ++ L[j] :: L.drop (j + 1)) n := by
    rw [← List.drop_eq_getElem_cons hj, List.take_append_drop]
  rw [e1, e2]
  unfold dropE
  rw [List.filter_append, List.filter_append, List.filter_cons_of_neg (by simp [h2]), List.filter_cons_of_neg (by simp [h1])]
theorem spaceFree_nil (w : World) : Calls Try.prog 39 #[.pointer none] w fun e w' => e = .returned (.tuple #[]) ∧ w = w' := by
  go_enter Try.func39, Try.ntmps39
  go_wp2_with fail
  go_end0
  exact ⟨rfl, rfl⟩
section
variable {B : Nat} {w0 w w' : World} {g gm : Nat} {a : Option Addr} {rs : List RegL} {T : Nat → List TE}
theorem TT.chg {S : Nat → Prop} (h : TT B w g gm a T) (c : Chg S w w') (hS : ∀ k, S k → ¬ tS g gm T k) : TT B w' g gm a T :=
  ⟨⟨h.tp.row.of_block (c.block g h.tp.row.lt (fun hk => hS g hk (.inl rfl))), h.tp.mp.keepAt (c.block gm h.tp.mp.lt (fun hk => hS gm hk (.inr (.inl rfl))))⟩, fun l t ht => (h.pr l t ht).of_block (c.block _ (h.pr l t ht).lt (fun hk => hS _ hk (h.mem ht))), h.ok⟩
set_option maxRecDepth 20000 in
set_option maxHeartbeats 8000000 in
theorem taskEnd_no (h : TT B w g gm a T) (l n : Nat) (hl : l < 64) (hn : n ≤ 65535) (sta : Int) (hno : ∀ t ∈ T l, t.pr.num = n → t.pr.st = 3) :
    Calls Try.prog 11 #[.pointer (some ⟨g, 0, none⟩), .agg #[.int .u8 l, .int .u16 n], .int .i32 sta] w fun e w' => e = .returned (.tuple #[]) ∧ Below w.heap.size w w' := by
  have hbn := bnew w (.cells #[.int .u8 l, .int .u16 n] 45)
  have hl1 := heap_alloc_last w (.cells #[.int .u8 l, .int .u16 n] 45)
  have HT := Lib.hid (h.keep hbn)
  have HB := Lib.hid hbn
  have HNO := Lib.hid hno
  have c0 := rowcell hl1
  clear h hbn hl1 hno
  go_enter Try.func11, Try.ntmps11
  go_wp2_with fail
  generalize hG : w.heap.size = G at *
  generalize w.alloc (.cells #[.int .u8 l, .int .u16 n] 45) = w1 at *
  have HG := Lib.hid hG
  clear hG
  have hget := taskGet_in HT.out (l, n) (by show l ≤ 255; omega) hn
  unfold markV at hget
  refine hget.mono ?_
  rintro e w2 ⟨rfl, hb2⟩
  have HT2 := Lib.hid (HT.out.keep hb2)
  have HB2 := Lib.hid (show Below w.heap.size w w2 from by rw [HG.out]; exact HB.out.trans (hb2.mono (by have := HB.out.size; rw [HG.out] at this; exact this)))
  clear hb2 c0 hget
  cases hf : tF T (l, n) with
  | none =>
    simp only [ptrO, Option.map_none]
    clear hf
    go_wp2_with fail
    refine bodyPost_ret (results_none rfl _ _ _) rfl ?_
    exact ⟨rfl, HB2.out⟩
  | some x =>
    obtain ⟨t, ht, h1, h2⟩ := tF_some hf
    subst h2
    have hst := HNO.out t ht h1
    have hrow := HT2.out.pr l t ht
    have e5 : w2.cell? ⟨t.blk, 5, none⟩ = some (.int .u8 t.pr.st) := hrow.cell (i := 5) (by omega)
    have g1 : ((t.pr.st : Int) == 3) = true := by rw [beq_iff_eq]; omega
    simp only [ptrO, Option.map_some]
    clear hf ht h1 hrow hst
    go_wp2_with fail
    refine bodyPost_ret (results_none rfl _ _ _) rfl ?_
    exact ⟨rfl, HB2.out⟩
set_option maxRecDepth 100000 in
set_option maxHeartbeats 16000000 in
theorem taskEnd_in (h : TT B w g gm a T) {l : Nat} (hl : l < 64) {j : Nat} (hj : j < (T l).length) {t : TE} (ht : (T l)[j] = t) (n : Nat) (hn : n = t.pr.num) (sta : Int) (hst : t.pr.st ≠ 3) (hkid : kidsL (T l) n = [])
    (hpar : t.pr.par ≤ 65535) (hslp : ∀ s ∈ T l, s.pr.num = t.pr.par → s.pr.st ≠ 2)
    (S : Nat → Prop) (R : World → Prop) (hS : ∀ k, S k → ¬ tS g gm T k) (hSn : ∀ k, w.heap.size ≤ k → ¬ S k) (hR : ∀ w1 w2, R w1 → Chg (tS g gm T) w1 w2 → R w2)
    (hfree : ∀ w1, Below w.heap.size w w1 → Calls Try.prog 39 #[.pointer t.pr.mem] w1 fun e w2 => e = .returned (.tuple #[]) ∧ Chg S w1 w2 ∧ R w2) :
    Calls Try.prog 11 #[.pointer (some ⟨g, 0, none⟩), .agg #[.int .u8 l, .int .u16 n], .int .i32 sta] w fun e w' => e = .returned (.tuple #[]) ∧
      TT B w' g gm a (setT T l (endL (T l) j n sta t)) ∧ Chg (fun k => S k ∨ tS g gm T k) w w' ∧ R w' := by
  have hmem : t ∈ T l := by rw [← ht]; exact List.getElem_mem hj
  have hnum := h.ok.num l t hmem
  have hbn := bnew w (.cells #[.int .u8 l, .int .u16 n] 45)
  have hl1 := heap_alloc_last w (.cells #[.int .u8 l, .int .u16 n] 45)
  have HT := Lib.hid (h.keep hbn)
  have HB := Lib.hid hbn
  have HL1 := Lib.hid hl1
  have c0 := rowcell hl1
  have HF := Lib.hid (show tF T (l, n) = some t.blk by rw [hn]; exact tF_at h.ok hmem)
  have HM := Lib.hid hmem
  have HTT := Lib.hid ht
  have HN := Lib.hid hn
  have HKID := Lib.hid hkid
  have HSLP := Lib.hid hslp
  have HS := Lib.hid hS
  have HRR := Lib.hid hR
  have HFREE := Lib.hid hfree
  have hn6 : n ≤ 65535 := by omega
  clear h hbn hl1 hkid hslp hS hR hfree ht hmem hn hnum
  go_enter Try.func11, Try.ntmps11
  go_wp2_with fail
  obtain ⟨G, hG⟩ : ∃ G, G = w.heap.size := ⟨_, rfl⟩
  rw [← hG] at c0 ⊢
  have HL1' := Lib.hid (show (w.alloc (.cells #[.int .u8 l, .int .u16 n] 45)).heap[G]? = some (.cells #[.int .u8 l, .int .u16 n] 45 (0, 0)) by rw [hG]; exact HL1.out)
  clear HL1
  generalize w.alloc (.cells #[.int .u8 l, .int .u16 n] 45) = w1 at *
  have HGS := Lib.hid (show ¬ S G by rw [hG]; exact hSn _ (Nat.le_refl _))
  have HG := Lib.hid hG
  clear hG hSn
  have hget := taskGet_in HT.out (l, n) (by show l ≤ 255; omega) hn6
  unfold markV at hget
  rw [HF.out] at hget
  refine hget.mono ?_
  rintro e w2 ⟨rfl, hb2⟩
  have HT2 := Lib.hid (HT.out.keep hb2)
  have HB2 := Lib.hid (bnext HB.out hb2)
  have HL2 := Lib.hid (bkeep hb2 HL1'.out)
  have hrow := HT2.out.pr l t HM.out
  have e5 : w2.cell? ⟨t.blk, 5, none⟩ = some (.int .u8 t.pr.st) := hrow.cell (i := 5) (by omega)
  have g1 : ((t.pr.st : Int) == 3) = false := by rw [beq_eq_false_iff_ne]; omega
  clear hb2 hget hrow c0
  have c0 := rowcell HL2.out
  simp only [ptrO, Option.map_some]
  go_wp2_with fail
  clear e5 g1
  have hk := taskKids_in HT2.out l n hl hn6
  rw [HKID.out] at hk
  refine hk.mono ?_
  rintro e w3 ⟨v, rfl, hlv, hb3⟩
  obtain ⟨ad, cv, hv⟩ := hlv.form
  subst hv
  have HT3 := Lib.hid (HT2.out.keep hb3)
  have HB3 := Lib.hid (bnext HB2.out hb3)
  have HL3 := Lib.hid (bkeep hb3 HL2.out)
  clear hk hlv hb3 c0
  go_wp2_with fail
  go_loopw [26] (fun r wx => r = .int .i64 0 ∧ wx = w3) (fun _ _ => 0)
  case atStart => exact ⟨rfl, rfl⟩
  case round =>
    obtain ⟨rfl, rfl⟩ := hrel
    have hrow := HT3.out.pr l t HM.out
    have e31 : wr.cell? ⟨t.blk, 31, none⟩ = some (.pointer t.pr.mem) := hrow.cell (i := 31) (by omega)
    clear hrow
    have HMP := Lib.hid HM.out
    go_wp2_with fail
    refine (HFREE.out _ HB3.out).mono ?_
    rintro e w4 ⟨rfl, hc4, hr4⟩
    have HT4 := Lib.hid (HT3.out.chg hc4 HS.out)
    have HC4 := Lib.hid ((Chg.of_below (fun k => S k ∨ tS g gm T k) HB3.out).trans hc4 (fun k _ h => .inl h))
    have HR4 := Lib.hid hr4
    have hrow4 := HT4.out.pr l t HM.out
    have HROW4 := Lib.hid hrow4
    have hneG : t.blk ≠ G := fun e => by
      have h1 := rowIs_arr (HT3.out.pr l t HM.out)
      rw [e] at h1
      exact absurd (cells_type HL3.out h1) (by decide)
    have HNG := Lib.hid hneG
    have hc4G : w4.heap[G]? = some (.cells #[.int .u8 l, .int .u16 n] 45 (0, 0)) := hc4.blk HL3.out (HGS.out)
    clear e31 hc4 hr4 hrow4 hneG
    obtain ⟨Z, hZ⟩ : ∃ Z, Z = fdsZ := ⟨_, rfl⟩
    have HZ := Lib.hid hZ
    have HZS := Lib.hid (show (Try.prog.info? 60).map (·.size) = some Z.size by rw [hZ]; kernel_rfl)
    have HZ1 := Lib.hid (show ∀ v ∈ Z.toList, v.oneCell' = true by rw [hZ]; decide)
    have hz24 : Z.size = 24 := by rw [hZ]; rfl
    clear hZ
    go_wp2_with (first | (refine wpList_buildTo rfl 60 _ rfl (some 53) rfl Z ?hf ?_; case hf => (rw [HZ.out]; kernel_rfl)) | (with_reducible refine wpList_stop none rfl ?_))
    refine Lib.hid ?_
    have r4 := HROW4.out
    have o5 := one_setCell w4 t.blk 31 (.pointer none)
    have HR5 := Lib.hid (r4.set 31 (.pointer none))
    refine wpList_skip (by kernel_rfl) rfl (exec_store_cell 41 _ _ rfl t.blk 31 (.pointer none) (by go_simp) (by go_simp) (by kernel_rfl) (by kernel_rfl) rfl (by rw [r4.cell (i := 31) (by omega)]; rfl) (r4.frozen 31)) ?_
    have HO5 := Lib.hid o5
    clear r4 o5
    generalize w4.setCell ⟨t.blk, 31, none⟩ (.pointer none) = w5 at *
    go_wp2_with (with_reducible refine wpList_stop none rfl ?_)
    refine Lib.hid ?_
    have r5 := HR5.out
    have o6 := One.setCells Z.toList 32 (One.refl w5 (some t.blk))
    have HR6 := Lib.hid (rowIs_setCells Z.toList 32 _ _ r5)
    refine wpList_skip (by kernel_rfl) rfl (exec_store_agg 60 _ _ rfl t.blk 32 Z (by go_simp) (by go_simp) HZS.out (fun i hi => by rw [r5.cell (i := 32 + i) (by omega)]; rfl) (fun i hi => r5.frozen _) HZ1.out) ?_
    have HO6 := Lib.hid (HO5.out.trans o6)
    clear r5 o6
    generalize w5.setCells t.blk 32 Z.toList = w6 at *
    go_wp2_with (with_reducible refine wpList_stop none rfl ?_)
    refine Lib.hid ?_
    have r6 := HR6.out
    have o7 := one_setCell w6 t.blk 56 (.slice none 0 0)
    have HR7 := Lib.hid (r6.set 56 (.slice none 0 0))
    refine wpList_skip (by kernel_rfl) rfl (exec_store_cell 61 _ _ rfl t.blk 56 (.slice none 0 0) (by go_simp) (by go_simp) (by kernel_rfl) (by kernel_rfl) rfl (by rw [r6.cell (i := 56) (by omega)]; rfl) (r6.frozen 56)) ?_
    have HO7 := Lib.hid (HO6.out.trans o7)
    clear r6 o7
    generalize w6.setCell ⟨t.blk, 56, none⟩ (.slice none 0 0) = w7 at *
    have r7 := HR7.out
    have q5 := r7.cell (i := 5) (by omega)
    have q12 := r7.cell (i := 12) (by omega)
    have q6 := r7.cell (i := 6) (by omega)
    have q7 := r7.cell (i := 7) (by omega)
    have q8 := r7.cell (i := 8) (by omega)
    have q9 := r7.cell (i := 9) (by omega)
    have q10 := r7.cell (i := 10) (by omega)
    have q2 := r7.cell (i := 2) (by omega)
    have qf := r7.frozen
    simp (decide := true) [prF] at q5 q12 q6 q7 q8 q9 q10 q2
    clear r7
    go_upto_region 13 with fail
    have o8 := ((((((one_setCell w7 t.blk 5 (.int .u8 3)).trans (one_setCell _ t.blk 12 (.int .i32 sta))).trans (one_setCell _ t.blk 6 (.int .u8 0))).trans (one_setCell _ t.blk 7 (.bool false))).trans (one_setCell _ t.blk 8 (.int .u8 0))).trans (one_setCell _ t.blk 9 (.int .u16 0))).trans (one_setCell _ t.blk 10 (.int .u16 0))
    have hr8 := ((((((HR7.out.set 5 (.int .u8 3)).set 12 (.int .i32 sta)).set 6 (.int .u8 0)).set 7 (.bool false)).set 8 (.int .u8 0)).set 9 (.int .u16 0)).set 10 (.int .u16 0)
    have hr8' := hr8.congr (g := prF (endP sta t.pr)) (fun i hi => by
      rw [end_set sta t.pr i hi]
      by_cases h10 : i = 10
      · rw [if_pos h10, if_pos h10]
      rw [if_neg h10, if_neg h10]
      by_cases h9 : i = 9
      · rw [if_pos h9, if_pos h9]
      rw [if_neg h9, if_neg h9]
      by_cases h8 : i = 8
      · rw [if_pos h8, if_pos h8]
      rw [if_neg h8, if_neg h8]
      by_cases h7 : i = 7
      · rw [if_pos h7, if_pos h7]
      rw [if_neg h7, if_neg h7]
      by_cases h6 : i = 6
      · rw [if_pos h6, if_pos h6]
      rw [if_neg h6, if_neg h6]
      by_cases h12 : i = 12
      · rw [if_pos h12, if_pos h12]
      rw [if_neg h12, if_neg h12]
      by_cases h5 : i = 5
      · rw [if_pos h5, if_pos h5]
      rw [if_neg h5, if_neg h5]
      by_cases h56 : i = 56
      · rw [if_pos h56, if_pos h56]
      rw [if_neg h56, if_neg h56]
      have hzl : Z.toList.length = 24 := by simpa using hz24
      by_cases hr : 32 ≤ i ∧ i < 56
      · rw [if_pos hr, if_pos (by rw [hzl]; exact hr)]
        have := fdsZ_at (i - 32) (by omega)
        rw [HZ.out]
        simp only [Array.getElem?_toList, this, Option.getD_some]
        rw [show 32 + (i - 32) = i by omega]
      · rw [if_neg hr, if_neg (by rw [hzl]; exact hr)])
    have HO8 := Lib.hid (HO7.out.trans o8)
    have HR8 := Lib.hid hr8'
    clear o8 hr8 hr8' q5 q12 q6 q7 q8 q9 q10 q2 qf
    generalize ((((((w7.setCell ⟨t.blk, 5, none⟩ (.int .u8 3)).setCell ⟨t.blk, 12, none⟩ (.int .i32 sta)).setCell ⟨t.blk, 6, none⟩ (.int .u8 0)).setCell ⟨t.blk, 7, none⟩ (.bool false)).setCell ⟨t.blk, 8, none⟩ (.int .u8 0)).setCell ⟨t.blk, 9, none⟩ (.int .u16 0)).setCell ⟨t.blk, 10, none⟩ (.int .u16 0) = w8 at *
    have hT8 := HT4.out.setAt' rfl hj HTT.out (p' := endP sta t.pr) rfl rfl HO8.out HR8.out
    have HT8 := Lib.hid hT8
    have HC8 := Lib.hid (HC4.out.trans (Chg.of_one (S := fun k => S k ∨ tS g gm T k) HO8.out (.inr (HT4.out.mem HMP.out))) (fun _ _ h => h))
    have HRW8 := Lib.hid (HRR.out _ _ HR4.out (Chg.of_one (S := tS g gm T) HO8.out (HT4.out.mem HMP.out)))
    have hl8 : w8.heap[G]? = some (.cells #[.int .u8 l, .int .u16 n] 45 (0, 0)) := HO8.out.blk (hc4G) (fun e => HNG.out (by injection e))
    have HL8 := Lib.hid hl8
    have e2 : w8.cell? ⟨t.blk, 2, none⟩ = some (.int .u16 t.pr.par) := HR8.out.cell (i := 2) (by omega)
    have c0 := rowcell hl8
    clear hT8 hl8
    by_cases hp0 : t.pr.par = 0
    · have g1 : ((t.pr.par : Int) == 0) = true := by rw [beq_iff_eq]; omega
      have HP0 := Lib.hid hp0
      clear hp0
      go_wp2_with fail
      have hd := taskDrop_in HT8.out hl (t := ⟨t.blk, endP sta t.pr⟩) (by rw [setT_same]; exact List.mem_set hj _) n HN.out
      refine hd.mono ?_
      rintro e w9 ⟨rfl, hT9, hD9⟩
      rw [setT_set, setT_same, dropE_set hj (by rw [HTT.out, HN.out]) (by rw [HN.out]; rfl)] at hT9
      have HT9 := Lib.hid hT9
      have HC9 := Lib.hid (Chg.of_duo (S := tS g gm T) hD9 (.inl rfl) (.inr (.inl rfl)))
      clear hd hT9 hD9 e2 c0
      go_wp2_with fail
      refine bodyPost_ret (results_none rfl _ _ _) rfl ?_
      refine ⟨rfl, ?_, HC8.out.trans HC9.out (fun _ _ h => .inr h), HRR.out _ _ HRW8.out HC9.out⟩
      unfold endL
      rw [if_pos HP0.out]
      exact HT9.out
    · have g1 : ((t.pr.par : Int) == 0) = false := by rw [beq_eq_false_iff_ne]; omega
      have HP0 := Lib.hid hp0
      have hf := tF_keys (T := T) (keys_set hj (p' := endP sta t.pr) (by rw [HTT.out]; rfl))
      rw [HTT.out] at hf
      have CG : ∀ d os, Calls Try.prog 36 #[.pointer (some ⟨g, 0, none⟩), .agg #[.int .u8 l, .int .u16 t.pr.par]] (Go.Sort.grow (redrawn w8 d) os) fun e w'' => e = .returned (ptrO (tF T (l, t.pr.par))) ∧ ∃ p : Regrown, w'' = Go.Sort.grow (redrawn w8 p.d) p.os := fun d os => by
        have := taskGet_in (HT8.out.keep (below_regrown w8 d os)) (l, t.pr.par) (by show l ≤ 255; omega) hpar
        rw [hf] at this
        exact Calls.regrown_of this
      have CG' := Lib.hid CG
      have d0 := fun d os => cell_regrown (c0 0) d os
      have d2 := fun d os => cell_regrown e2 d os
      simp at d0
      clear hp0 hf CG
      go_wp2_with fail
      refine wp_region_quiet_below (by kernel_rfl) (by kernel_rfl) ?_
      repeat (go_big_quiet_step (first
        | (go_at_call 36; with_reducible exact CG'.out _ _)))
      refine wpQuiet_nil ?_
      intro w9 hw9
      have hb9 : Below w8.heap.size w8 w9 := by obtain ⟨p, rfl⟩ := hw9; exact below_regrown w8 p.d p.os
      have HT9 := Lib.hid (HT8.out.keep hb9)
      have HC9 := Lib.hid (Chg.of_below (tS g gm T) hb9)
      clear hw9 hb9 d0 d2 CG' e2 c0
      have fin : ∀ w10, w10 = w9 → TT B w10 g gm a (setT T l (endL (T l) j n sta t)) ∧ Chg (fun k => S k ∨ tS g gm T k) w w10 ∧ R w10 := fun w10 e => by
        subst e
        refine ⟨?_, HC8.out.trans HC9.out (fun _ _ h => .inr h), HRR.out _ _ HRW8.out HC9.out⟩
        unfold endL
        rw [if_neg HP0.out]
        exact HT9.out
      have FIN := Lib.hid fin
      clear fin
      cases hx : tF T (l, t.pr.par) with
      | none =>
        simp only [ptrO, Option.map_none]
        have hud : undef = Value.tuple #[] := rfl
        clear hx
        go_wp2_with fail
        first
          | go_end0
          | refine bodyPost_ret (results_none rfl _ _ _) rfl ?_
        exact ⟨rfl, FIN.out _ rfl⟩
      | some x =>
        have hx' : tF (setT T l ((T l).set j ⟨t.blk, endP sta t.pr⟩)) (l, t.pr.par) = some x := by
          have hf := tF_keys (T := T) (keys_set hj (p' := endP sta t.pr) (by rw [HTT.out]; rfl))
          rw [HTT.out] at hf
          rw [hf, hx]
        obtain ⟨s, hs, h1, h2⟩ := tF_some hx'
        have hs2 : s.pr.st ≠ 2 := by
          rw [setT_same] at hs
          rcases List.mem_or_eq_of_mem_set hs with h3 | h3
          · exact HSLP.out s h3 h1
          · rw [h3]; show (3 : Nat) ≠ 2; omega
        subst h2
        have hrow := HT9.out.pr l s hs
        have e5 : w9.cell? ⟨s.blk, 5, none⟩ = some (.int .u8 s.pr.st) := hrow.cell (i := 5) (by omega)
        have g2 : ((s.pr.st : Int) == 2) = false := by rw [beq_eq_false_iff_ne]; omega
        simp only [ptrO, Option.map_some]
        have hud : undef = Value.tuple #[] := rfl
        clear hx hx' hs h1 hs2 hrow
        go_wp2_with fail
        first
          | go_end0
          | refine bodyPost_ret (results_none rfl _ _ _) rfl ?_
        exact ⟨rfl, FIN.out _ rfl⟩
end
end Go.Proofs.Ytpjfnmmgfmfcfaa
