/- Nodes: Decode's walk. -/
import Derived.Test.YtonfnlohbgbffaaNodF
set_option linter.unusedVariables false
set_option linter.unusedSimpArgs false
namespace Go.Proofs.Ytonfnlohbgbffaa
open Go.RowKit

/-- Are the bytes behind a node's fields noughts? -/
def tailZ (bf : Nat → Nat) : Prop := ∀ q, 24 ≤ q → q < 32 → bf q = 0
def DecP (bf : Nat → Nat) (w : World) (e : Ending) (w' : World) : Prop :=
  Below w.heap.size w w' ∧ ((tailZ bf ∧ (decN bf).right = true ∧ e = .returned (.tuple #[.agg (nodA (decN bf)), .int .i64 0])) ∨ (¬ (tailZ bf ∧ (decN bf).right = true) ∧ e = .returned (.tuple #[.agg (nodA zeroN), .int .i64 28])))
theorem fldF_row (bf : Nat → Nat) : rowArr 33 (fldF bf 0) = (rowArr 32 (byteF bf)) ++ #[Value.int .i64 (0 : Nat)] := rfl
theorem fldF_one (bf : Nat → Nat) (a : Nat) : ∀ v ∈ (rowArr 33 (fldF bf a)).toList, v.oneCell' = true := by
  intro v hv
  simp only [rowArr, List.mem_map] at hv
  obtain ⟨i, _, rfl⟩ := hv
  unfold fldF
  split <;> rfl
theorem partF_one (bf : Nat → Nat) : ∀ v ∈ (rowArr 12 (partF bf 0)).toList, v.oneCell' = true := by
  intro v hv
  simp only [rowArr, List.mem_map, List.mem_range] at hv
  obtain ⟨i, hi, rfl⟩ := hv
  rcases i with _ | _ | _ | _ | _ | _ | _ | _ | _ | _ | _ | _ | i <;> first | rfl | omega
theorem f33_size : (Try.prog.info? 130).map (·.size) = some 33 := by kernel_rfl
/-- Ahead of the node's own block. -/
structure DecH (w0 w : World) (B R F : Nat) (bf : Nat → Nat) (at_ : Nat) : Prop where
  b : w.rowIs B 28 32 (byteF bf)
  r : w.rowIs R 27 12 (nodF zeroN)
  f : FL w F bf at_
  bl : Below w0.heap.size w0 w
  hR : w0.heap.size ≤ R
  hF : w0.heap.size ≤ F
  bF : B ≠ F
  rF : R ≠ F
theorem DecH.get {w0 w w' : World} {B R F : Nat} {bf : Nat → Nat} {at_ a' : Nat} (h : DecH w0 w B R F bf at_) (o : One w w' (some F)) (f : FL w' F bf a') : DecH w0 w' B R F bf a' :=
  ⟨h.b.of_block (o.block B h.b.lt (fun e => h.bF (by injection e with e; exact e.symm))), h.r.of_block (o.block R h.r.lt (fun e => h.rF (by injection e with e; exact e.symm))), f, bone h.bl o h.hF h.bl.size, h.hR, h.hF, h.bF, h.rF⟩
theorem DecW.keep {w0 w w' : World} {B R F N : Nat} {bf : Nat → Nat} {at_ j : Nat} (h : DecW w0 w B R F N bf at_ j) (hb : Below w.heap.size w w') : DecW w0 w' B R F N bf at_ j :=
  ⟨h.b.of_block (hb.block B h.b.lt), h.r.of_block (hb.block R h.r.lt), h.f.of_block (hb.block F h.f.lt), h.n.of_block (hb.block N h.n.lt), h.bl.trans (hb.mono h.bl.size), h.hR, h.hF, h.hN, h.bF, h.rF, h.nF, h.bN, h.rN⟩
theorem DecH.node {w0 w : World} {B R F : Nat} {bf : Nat → Nat} {at_ : Nat} (h : DecH w0 w B R F bf at_) : DecW w0 ((w.alloc (.cells (nodA zeroN) 27)).setCells w.heap.size 0 (rowArr 12 (partF bf 0)).toList) B R F w.heap.size bf at_ 0 := by
  have hbn := bnew w (.cells (nodA zeroN) 27)
  have hl := heap_alloc_last w (.cells (nodA zeroN) 27)
  rw [nodA_row] at hl hbn
  have hr := rowIs_of_arr hl
  have hrS := (rowIs_piece (m := 12) (off := 0) (h := partF bf 0) hr).congr (g := partF bf 0) (fun i hi => by rw [if_pos (by omega)]; rfl)
  rw [nodA_row]
  have hs := h.bl.size
  have o := One.setCells (rowArr 12 (partF bf 0)).toList 0 (One.refl (w.alloc (.cells (rowArr 12 (nodF zeroN)) 27)) (some w.heap.size))
  have k := fun (q : Nat) (hq : q < w.heap.size) => (o.block q (by simp; omega) (fun e => by injection e with e; omega)).trans (hbn.block q hq)
  exact ⟨h.b.of_block (k _ h.b.lt), h.r.of_block (k _ h.r.lt), h.f.of_block (k _ h.f.lt), hrS, below_setCells hs _ _ _ (h.bl.trans (hbn.mono hs)), h.hR, h.hF, hs, h.bF, h.rF, by have := h.f.lt; omega, by have := h.b.lt; omega, by have := h.r.lt; omega⟩
theorem dec_f33 (w : World) (X : Array Value) : (((w.alloc (.cells X 28)).alloc (.cells (nodA zeroN) 27)).alloc (.cells f33 130)).rowIs (w.heap.size + 2) 130 33 (fldF (fun _ => 0) 0) := by
  have e2 : ((w.alloc (.cells X 28)).alloc (.cells (nodA zeroN) 27)).heap.size = w.heap.size + 2 := by simp
  have h3 := heap_alloc_last ((w.alloc (.cells X 28)).alloc (.cells (nodA zeroN) 27)) (.cells f33 130)
  rw [e2] at h3
  exact rowIs_of_arr (n := 33) (f := fldF (fun _ => 0) 0) h3
theorem dec_start (w : World) (bf : Nat → Nat) : DecH w ((((w.alloc (.cells (rowArr 32 (byteF bf)) 28)).alloc (.cells (nodA zeroN) 27)).alloc (.cells f33 130)).setCells (w.heap.size + 2) 0 (rowArr 33 (fldF bf 0)).toList) w.heap.size (w.heap.size + 1) (w.heap.size + 2) bf 0 := by
  have e1 : (w.alloc (.cells (rowArr 32 (byteF bf)) 28)).heap.size = w.heap.size + 1 := by simp
  have e2 : ((w.alloc (.cells (rowArr 32 (byteF bf)) 28)).alloc (.cells (nodA zeroN) 27)).heap.size = w.heap.size + 2 := by simp
  have h1 := heap_alloc_last w (.cells (rowArr 32 (byteF bf)) 28)
  have h2 := heap_alloc_last (w.alloc (.cells (rowArr 32 (byteF bf)) 28)) (.cells (nodA zeroN) 27)
  have h3 := heap_alloc_last ((w.alloc (.cells (rowArr 32 (byteF bf)) 28)).alloc (.cells (nodA zeroN) 27)) (.cells f33 130)
  have b1 := bnew (w.alloc (.cells (rowArr 32 (byteF bf)) 28)) (.cells (nodA zeroN) 27)
  have b2 := bnew ((w.alloc (.cells (rowArr 32 (byteF bf)) 28)).alloc (.cells (nodA zeroN) 27)) (.cells f33 130)
  rw [e1] at h2
  rw [e2] at h3
  have hB := rowIs_of_arr (bkeep b2 (bkeep b1 h1))
  have hR := rowIs_of_arr (n := 12) (f := nodF zeroN) (bkeep b2 h2)
  have hF := rowIs_of_arr (n := 33) (f := fldF (fun _ => 0) 0) h3
  have hrS := (rowIs_piece (m := 33) (off := 0) (h := fldF bf 0) hF).congr (g := fldF bf 0) (fun i hi => by rw [if_pos (by omega)]; rfl)
  have hb : Below w.heap.size w (((w.alloc (.cells (rowArr 32 (byteF bf)) 28)).alloc (.cells (nodA zeroN) 27)).alloc (.cells f33 130)) := bnewAfter (bnewAfter (bnew w _) _) _
  have o := One.setCells (rowArr 33 (fldF bf 0)).toList 0 (One.refl (((w.alloc (.cells (rowArr 32 (byteF bf)) 28)).alloc (.cells (nodA zeroN) 27)).alloc (.cells f33 130)) (some (w.heap.size + 2)))
  exact ⟨hB.of_block (o.block _ hB.lt (fun e => by injection e with e; omega)), hR.of_block (o.block _ hR.lt (fun e => by injection e with e; omega)), hrS, below_setCells (by omega) _ _ _ hb, by omega, by omega, by omega, by omega⟩
set_option maxRecDepth 20000 in
set_option maxHeartbeats 8000000 in
theorem nodeDecode_in (bf : Nat → Nat) (hb : ∀ i, bf i ≤ 255) (w : World) : Calls Try.prog 17 #[.agg (rowArr 32 (byteF bf))] w (DecP bf w) := by
  have HB := Lib.hid hb
  have HOK := Lib.hid (decN_ok hb)
  have g1 := fun a => getB_lt hb a 1
  have g2 := fun a => getB_lt hb a 2
  have u8 : ∀ x : Nat, x < 256 → IntKind.u8.wrap (x : Int) = x := fun x hx => by simp [IntKind.wrap, IntKind.bits, IntKind.signed]; omega
  have u16 : ∀ x : Nat, x < 65536 → IntKind.u16.wrap (x : Int) = x := fun x hx => u16_wrap_id _ (by omega) (by omega)
  have G1 := Lib.hid (fun a => u8 _ (g1 a))
  have G2 := Lib.hid (fun a => u16 _ (g2 a))
  clear hb g1 g2 u8 u16
  obtain ⟨X, hX⟩ : ∃ X, X = rowArr 32 (byteF bf) := ⟨_, rfl⟩
  obtain ⟨Y, hY⟩ : ∃ Y, Y = rowArr 33 (fldF bf 0) := ⟨_, rfl⟩
  have HX := Lib.hid hX
  have HY := Lib.hid hY
  have hl1 := heap_alloc_last w (.cells X 28)
  have cX : ∀ j v, X.toList[j]? = some v → ((w.alloc (.cells X 28)).alloc (.cells (nodA zeroN) 27)).cell? ⟨w.heap.size, 0 + j, none⟩ = some v := fun j v hv => by
    rw [Nat.zero_add, rowcell (bkeep (bnew _ _) hl1)]; simpa using hv
  have HCX := Lib.hid cX
  have HXS := Lib.hid (show (Try.prog.info? 28).map (·.size) = some X.size by rw [hX, rowArr_size]; exact n32_size)
  rw [← hX]
  clear hX hY hl1 cX
  go_enter Try.func17, Try.ntmps17
  go_wp2_with (first
    | (refine wpList_allocTo rfl 27 rfl (some 2) rfl (.agg (nodA zeroN)) node_zero ?_)
    | (refine wpList_load_pieceTo rfl 28 (.tmp 1) rfl (some 10) rfl w.heap.size 0 rfl X _ HCX.out Try.underlying28 rfl HXS.out ?_)
    | (refine wpList_buildTo rfl 130 _ rfl (some 11) rfl Y ?hf ?_; case hf => (rw [HX.out, HY.out]; kernel_rfl))
    | (refine wpList_allocTo rfl 130 rfl (some 4) rfl (.agg f33) f33_zero ?_)
    | (with_reducible refine wpList_stop none rfl ?_))
  refine Lib.hid ?_
  simp only [World.size_alloc, Nat.add_assoc, Nat.reduceAdd, show (Value.agg f33).cells = f33 from rfl, show (Value.agg (nodA zeroN)).cells = nodA zeroN from rfl]
  have hf3 := dec_f33 w X
  have hst := dec_start w bf
  rw [← HX.out, ← HY.out] at hst
  have hY33 : Y.size = 33 := by rw [HY.out, rowArr_size]
  have HYS := Lib.hid (show (Try.prog.info? 130).map (·.size) = some Y.size by rw [hY33]; exact f33_size)
  have HYC := Lib.hid (show ∀ j, j < Y.size → ((((w.alloc (.cells X 28)).alloc (.cells (nodA zeroN) 27)).alloc (.cells f33 130)).cell? ⟨w.heap.size + 2, 0 + j, none⟩).isSome = true from fun j hj => by rw [Nat.zero_add, hf3.cell (i := j) (by omega)]; rfl)
  have HYF := Lib.hid (fun (j : Nat) => hf3.frozen (0 + j))
  have HY1 := Lib.hid (show ∀ v ∈ Y.toList, v.oneCell' = true by rw [HY.out]; exact fldF_one bf 0)
  have HST := Lib.hid hst
  clear hf3 hst hY33
  obtain ⟨B, hB⟩ : ∃ B, B = w.heap.size := ⟨_, rfl⟩
  obtain ⟨R, hR⟩ : ∃ R, R = w.heap.size + 1 := ⟨_, rfl⟩
  obtain ⟨F, hF⟩ : ∃ F, F = w.heap.size + 2 := ⟨_, rfl⟩
  rw [← hF, ← hR, ← hB] at HST
  rw [← hF] at HYC HYF
  rw [← hF, ← hR, ← hB]
  generalize ((w.alloc (.cells X 28)).alloc (.cells (nodA zeroN) 27)).alloc (.cells f33 130) = w0 at *
  clear hB hR hF HCX
  refine wpList_store_pieceTo rfl 130 (.tmp 4) (.tmp 11) rfl rfl F 0 Y rfl rfl HYS.out HYC.out (fun j _ => HYF.out j) HY1.out ?_
  intro wS hwS
  rw [← hwS] at HST
  clear hwS
  go_simp
  go_wp2_with fail
  refine (nodeGet_in HST.out.f HB.out 1 (by omega) (by omega)).mono ?_
  rintro e w1 ⟨rfl, hf1, ho1⟩
  have H1 := Lib.hid (HST.out.get ho1 hf1)
  have q1 := G1.out 0
  clear hf1 ho1
  go_wp2_with fail
  refine (nodeGet_in H1.out.f HB.out 1 (by omega) (by omega)).mono ?_
  rintro e w2 ⟨rfl, hf2, ho2⟩
  have H2 := Lib.hid (H1.out.get ho2 hf2)
  have q2 := G1.out (0 + 1)
  clear hf2 ho2 q1
  go_wp2_with fail
  refine (nodeGet_in H2.out.f HB.out 2 (by omega) (by omega)).mono ?_
  rintro e w3 ⟨rfl, hf3, ho3⟩
  have H3 := Lib.hid (H2.out.get ho3 hf3)
  have q3 := G2.out (0 + 1 + 1)
  clear hf3 ho3 q2
  go_wp2_with fail
  refine (nodeGet_in H3.out.f HB.out 4 (by omega) (by omega)).mono ?_
  rintro e w4 ⟨rfl, hf4, ho4⟩
  have H4 := Lib.hid (H3.out.get ho4 hf4)
  clear hf4 ho4 q3
  go_wp2_with (first
    | (refine wpList_allocTo rfl 27 rfl (some 5) rfl (.agg (nodA zeroN)) node_zero ?_)
    | (with_reducible refine wpList_stop none rfl ?_))
  refine Lib.hid ?_
  rw [show (Value.agg (nodA zeroN)).cells = nodA zeroN from rfl]
  have hn4 := rowIs_of_arr (n := 12) (f := nodF zeroN) (heap_alloc_last w4 (.cells (nodA zeroN) 27))
  have HN := Lib.hid (H4.out.node)
  have HN4 := Lib.hid hn4
  clear hn4
  obtain ⟨N, hN⟩ : ∃ N, N = w4.heap.size := ⟨_, rfl⟩
  rw [← hN] at HN HN4 ⊢
  generalize w4.alloc (.cells (nodA zeroN) 27) = w5 at *
  clear hN
  refine wpList_store_pieceTo rfl 27 (.tmp 5) (.tmp 19) rfl rfl N 0 (rowArr 12 (partF bf 0)) rfl rfl (by rw [rowArr_size]; exact node_size) (fun j hj => by rw [rowArr_size] at hj; rw [Nat.zero_add, HN4.out.cell hj]; rfl) (fun j _ => HN4.out.frozen _) (partF_one bf) ?_
  intro w6 hw6
  rw [← hw6] at HN
  clear hw6
  go_simp
  go_wp2_with fail
  go_loopw [20] (fun r wx => ∃ j : Nat, j ≤ 6 ∧ r = .int .i64 j ∧ DecW w wx B R F N bf (8 + 2 * j) j) (fun r _ => 6 - (intOf r).toNat)
  case atStart => exact ⟨0, by omega, rfl, HN.out⟩
  case round =>
    obtain ⟨j, hj, rfl, hd⟩ := hrel
    have HD := Lib.hid hd
    clear hd
    by_cases hj6 : j < 6
    · have f1 : (j : Int) < 6 := by omega
      go_wp2_with fail
      refine (nodeGet_in HD.out.f HB.out 2 (by omega) (by omega)).mono ?_
      rintro e w7 ⟨rfl, hf7, ho7⟩
      have HD7 := Lib.hid (HD.out.get ho7 hf7)
      clear hf7 ho7
      have q3 := G2.out (8 + 2 * j)
      have c4 : w7.cell? ⟨N, 4 + j, none⟩ = some (.int .u16 0) := by
        rw [HD7.out.n.cell (i := 4 + j) (by omega)]
        unfold partF
        rw [if_neg (by omega), nodF_zero j (by omega)]
      have df := HD7.out.n.frozen
      obtain ⟨y, hy⟩ : ∃ y, y = getB bf (8 + 2 * j) 2 := ⟨_, rfl⟩
      rw [← hy] at q3
      rw [← hy]
      have HY2 := Lib.hid hy
      clear hy
      go_wp2_with fail
      have HS := Lib.hid (show DecW w (w7.setCell ⟨N, 4 + j, none⟩ (.int .u16 y)) B R F N bf (8 + 2 * (j + 1)) (j + 1) from HD7.out.set (one_setCell w7 N (4 + j) (.int .u16 y)) ((HD7.out.n.set (4 + j) (.int .u16 y)).congr (fun i hi => by rw [← partF_next, nodF_dir bf j (by omega), ← HY2.out])))
      go_roundw
      case rel => exact ⟨j + 1, by omega, by go_num, HS.out⟩
      case measure => simp [intOf]; omega
    · obtain rfl : j = 6 := by omega
      go_wp2_with fail
      refine (nodeGet_in HD.out.f HB.out 2 (by omega) (by omega)).mono ?_
      rintro e w7 ⟨rfl, hf7, ho7⟩
      have HD7 := Lib.hid (HD.out.get ho7 hf7)
      clear hf7 ho7
      have q3 := G2.out (8 + 2 * 6)
      go_wp2_with fail
      refine (nodeGet_in HD7.out.f HB.out 2 (by omega) (by omega)).mono ?_
      rintro e w8 ⟨rfl, hf8, ho8⟩
      have HD8 := Lib.hid (HD7.out.get ho8 hf8)
      clear hf8 ho8 q3
      have q3 := G2.out 20
      have q4 := G2.out 22
      have c10 : w8.cell? ⟨N, 10, none⟩ = some (.int .u16 0) := by
        rw [HD8.out.n.cell (i := 10) (by omega)]; rfl
      have c11 : w8.cell? ⟨N, 11, none⟩ = some (.int .u16 0) := by
        rw [HD8.out.n.cell (i := 11) (by omega)]; rfl
      have df := HD8.out.n.frozen
      go_upto_region 9 with fail
      have hA := HD8.out.n.set 10 (.int .u16 (getB bf 20 2))
      have hA2 := (hA.congr (g := partF bf 7) (fun i hi => by rw [← partF_next bf 6 i]; rfl))
      have hB := hA2.set 11 (.int .u16 (getB bf 22 2))
      have hB2 := (hB.congr (g := partF bf 8) (fun i hi => by rw [← partF_next bf 7 i]; rfl))
      have hT : DecW w ((w8.setCell ⟨N, 10, none⟩ (.int .u16 (getB bf 20 2))).setCell ⟨N, 11, none⟩ (.int .u16 (getB bf 22 2))) B R F N bf 24 8 :=
        (HD8.out.set (one_setCell w8 N 10 (.int .u16 (getB bf 20 2))) hA2).set (one_setCell _ N 11 (.int .u16 (getB bf 22 2))) hB2
      have HT := Lib.hid hT
      clear hA hA2 hB hB2 hT c10 c11 df q3 q4
      generalize (w8.setCell ⟨N, 10, none⟩ (.int .u16 (getB bf 20 2))).setCell ⟨N, 11, none⟩ (.int .u16 (getB bf 22 2)) = wT at *
      have c32 : wT.cell? ⟨F, 32, none⟩ = some (.int .i64 24) := HT.out.f.cell (i := 32) (by omega)
      go_wp2_with fail
      go_loopw [39] (fun r wx => ∃ i : Nat, i ≤ 8 ∧ r = .int .i64 i ∧ wx = wT ∧ ∀ q, 24 ≤ q → q < 24 + i → bf q = 0) (fun r _ => 8 - (intOf r).toNat)
      case atStart => exact ⟨0, by omega, rfl, rfl, fun q h1 h2 => by omega⟩
      case round =>
        obtain ⟨i, hi, rfl, rfl, hz⟩ := hrel
        have HE := Lib.hid HT.out
        have HZ := Lib.hid hz
        clear hz HT c32
        by_cases hi8 : i < 8
        · have f1 : (i : Int) < 8 := by omega
          have cb : wr.cell? ⟨B, 24 + i, none⟩ = some (.int .u8 (bf (24 + i))) := HE.out.b.cell (i := 24 + i) (by omega)
          obtain ⟨c, hc⟩ : ∃ c, c = bf (24 + i) := ⟨_, rfl⟩
          rw [← hc] at cb
          have HC := Lib.hid hc
          clear hc
          by_cases hc0 : c = 0
          · have g1 : ((c : Int) != 0) = false := by rw [bne_eq_false_iff_eq]; omega
            have HZ2 := Lib.hid (show ∀ q, 24 ≤ q → q < 24 + (i + 1) → bf q = 0 from fun q h1 h2 => by
              by_cases h : q = 24 + i
              · rw [h, ← HC.out]; exact hc0
              · exact HZ.out q h1 (by omega))
            clear hc0
            go_wp2_with fail
            go_roundw
            case rel => exact ⟨i + 1, by omega, by go_num, trivial, HZ2.out⟩
            case measure => simp [intOf]; omega
          · have g1 : ((c : Int) != 0) = true := by rw [bne_iff_ne]; omega
            have HNZ := Lib.hid (show ¬ (tailZ bf ∧ (decN bf).right = true) from fun h => hc0 (by rw [HC.out]; exact h.1 _ (by omega) (by omega)))
            clear hc0
            go_wp2_with (first
              | (refine wpList_buildTo rfl 27 _ rfl (some 45) rfl (nodA zeroN) ?hf ?_; case hf => kernel_rfl)
              | (refine wpList_store_pieceTo rfl 27 (.tmp 2) (.tmp 45) rfl rfl R 0 (nodA zeroN) rfl rfl (by rw [nodA_row, rowArr_size]; exact node_size) (HE.out.some zeroN) (fun j _ => HE.out.r.frozen _) (nodA_one zeroN) ?_; intro wS2 hwS2; have HS2 := Lib.hid hwS2; clear hwS2))
            obtain ⟨hbl, hrun⟩ := HE.out.ret zeroN
            rw [← HS2.out] at hbl hrun
            exact bodyPost_ret (v := .tuple #[.agg (nodA zeroN), .int .i64 28]) (by simp [results, Try.results17, Act.put, asAddr, hrun]) rfl ⟨hbl, .inr ⟨HNZ.out, rfl⟩⟩
        · obtain rfl : i = 8 := by omega
          have HTZ := Lib.hid (show tailZ bf from fun q h1 h2 => HZ.out q h1 (by omega))
          go_wp2_with (refine wpList_load_pieceTo rfl 27 (.tmp 5) rfl (some 47) rfl N 0 rfl (nodA (decN bf)) _ HE.out.piece Try.underlying27 rfl (by rw [nodA_row, rowArr_size]; exact node_size) ?_)
          refine (nodeCheck_in (decN bf) HOK.out wr).mono ?_
          rintro e w9 ⟨rfl, hb9⟩
          have HE9 := Lib.hid (HE.out.keep hb9)
          clear HE hb9
          have HE := HE9
          clear HE9
          cases hr : (decN bf).right with
          | true =>
            have HR := Lib.hid hr
            clear hr
            simp only [if_true]
            go_wp2_with (first
              | (refine wpList_load_pieceTo rfl 27 (.tmp 5) rfl (some 53) rfl N 0 rfl (nodA (decN bf)) _ HE.out.piece Try.underlying27 rfl (by rw [nodA_row, rowArr_size]; exact node_size) ?_)
              | (refine wpList_store_pieceTo rfl 27 (.tmp 2) (.tmp 53) rfl rfl R 0 (nodA (decN bf)) rfl rfl (by rw [nodA_row, rowArr_size]; exact node_size) (HE.out.some (decN bf)) (fun j _ => HE.out.r.frozen _) (nodA_one (decN bf)) ?_; intro wS2 hwS2; have HS2 := Lib.hid hwS2; clear hwS2))
            obtain ⟨hbl, hrun⟩ := HE.out.ret (decN bf)
            rw [← HS2.out] at hbl hrun
            exact bodyPost_ret (v := .tuple #[.agg (nodA (decN bf)), .int .i64 0]) (by simp [results, Try.results17, Act.put, asAddr, hrun]) rfl ⟨hbl, .inl ⟨HTZ.out, HR.out, rfl⟩⟩
          | false =>
            have HR := Lib.hid (show ¬ (tailZ bf ∧ (decN bf).right = true) from fun h => by rw [hr] at h; exact absurd h.2 (by simp))
            clear hr
            simp only [Bool.false_eq_true, if_false]
            go_wp2_with (first
              | (refine wpList_buildTo rfl 27 _ rfl (some 51) rfl (nodA zeroN) ?hf ?_; case hf => kernel_rfl)
              | (refine wpList_store_pieceTo rfl 27 (.tmp 2) (.tmp 51) rfl rfl R 0 (nodA zeroN) rfl rfl (by rw [nodA_row, rowArr_size]; exact node_size) (HE.out.some zeroN) (fun j _ => HE.out.r.frozen _) (nodA_one zeroN) ?_; intro wS2 hwS2; have HS2 := Lib.hid hwS2; clear hwS2))
            obtain ⟨hbl, hrun⟩ := HE.out.ret zeroN
            rw [← HS2.out] at hbl hrun
            exact bodyPost_ret (v := .tuple #[.agg (nodA zeroN), .int .i64 28]) (by simp [results, Try.results17, Act.put, asAddr, hrun]) rfl ⟨hbl, .inr ⟨HR.out, rfl⟩⟩
end Go.Proofs.Ytonfnlohbgbffaa
