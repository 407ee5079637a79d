/- Nodes: Read. -/
import Derived.Test.YtonfnlohbgbffaaNodT
set_option linter.unusedVariables false
set_option linter.unusedSimpArgs false
namespace Go.Proofs.Ytonfnlohbgbffaa
open Go.RowKit
open Go.Maps (Keyed)

theorem page_len : Try.prog.arrayLen 52 = 64 := by kernel_rfl
theorem page_elem : Try.prog.elem 52 = 5 := by kernel_rfl
theorem u8_cells : (Try.prog.info? 5).map (·.size) = some 1 := by kernel_rfl
theorem size_u8 (w : World) : (sizeOf 5).run Try.prog w = .ok 1 w := by
  cases h : Try.prog.info? 5 with
  | none => have := u8_cells; rw [h] at this; cases this
  | some i =>
    have := u8_cells
    rw [h] at this
    have hs : i.size = 1 := by simpa using this
    simp [sizeOf, typeInfo, h, hs]
theorem addr_at (R q : Nat) : (⟨R, 0, none⟩ : Addr).add q = ⟨R, q, none⟩ := by unfold Addr.add; split <;> simp_all
/-- b[q : q+32] of a block. -/
theorem run_sliceAt_page (w : World) (R q : Nat) (hq : q + 32 ≤ 64) : (Instr.sliceAt 52 (.pointer (some ⟨R, 0, none⟩)) (some (.int .i64 (q : Int))) (some (.int .i64 ((q : Int) + 32))) none).run Try.prog w = .ok (.slice (some ⟨R, q, none⟩) 32 (64 - q)) w := by
  rw [run_sliceAt_array_lh w 52 ⟨R, 0, none⟩ (by rw [page_len, page_elem]; exact block_under) .i64 .i64 (q : Int) ((q : Int) + 32) (by omega) (by omega) (by rw [page_len]; omega), page_elem, size_u8, Result.andThen_ok, page_len]
  unfold slicedAt
  rw [if_neg (by omega), show ((q : Int) + 32).toNat - (q : Int).toNat = 32 by omega, show (q : Int).toNat * 1 = q by omega, addr_at]
  rfl
/-- b[q:] of a block. -/
theorem run_sliceAt_from (w : World) (R q : Nat) (hq : q < 64) : (Instr.sliceAt 52 (.pointer (some ⟨R, 0, none⟩)) (some (.int .i64 (q : Int))) none none).run Try.prog w = .ok (.slice (some ⟨R, q, none⟩) (64 - q) (64 - q)) w := by
  rw [run_sliceAt_array_l w 52 ⟨R, 0, none⟩ (by rw [page_len, page_elem]; exact block_under) .i64 (q : Int) (by omega) (by rw [page_len]; omega), page_elem, size_u8, Result.andThen_ok, page_len]
  unfold slicedAt
  rw [if_neg (by omega), show (q : Int).toNat * 1 = q by omega, addr_at]
  rfl
theorem run_array32 (w : World) (a : Option Addr) (c : Nat) : (Instr.arrayAt 28 (.slice a 32 c)).run Try.prog w = .ok (.pointer a) w := by
  simp [Instr.arrayAt, run_underlying Try.underlying28]
/-- A group's table holds these nodes. -/
def TabN (F : Int → Option (Nat → Nat)) (D : Nat → Nat → Nat) (g : GeoL) (N : Nat → NodL) : Prop := ∀ num, 1 ≤ num → num ≤ g.nodes → ∀ j, j < 32 → viewB F D (atB g num) (atO num + j) = encN (N num) j
section
variable {w w' : World} {gd gb gl gt gm n lf : Nat} {F : Int → Option (Nat → Nat)} {bad : Int} {D : Nat → Nat → Nat} {left : Int} {dead : Bool} {g : GeoL} {N : Nat → NodL}
theorem GeoOk.atB (h : GeoOk g n) {num : Nat} (h1 : 1 ≤ num) (h2 : num ≤ g.nodes) : 32 ≤ atB g num ∧ atB g num < n := by
  have := h.b
  have := h.d
  have := h.t
  unfold Proofs.Ytonfnlohbgbffaa.atB
  omega
set_option maxRecDepth 100000 in
set_option maxHeartbeats 4000000 in
theorem nodeRead_in (h : TX w gd gb gl gt gm n lf F bad D left dead) (hg : GeoOk g n) (hT : TabN F D g N) (num : Nat) (h1 : 1 ≤ num) (h2 : num ≤ g.nodes) (hok : (N num).ok) (hr : (N num).right = true) :
    Calls Try.prog 41 #[.pointer (some ⟨gt, 0, none⟩), .agg (rowArr 6 (geoF g)), .int .i64 num] w fun e w' => e = .returned (.tuple #[.agg (rowArr 12 (nodF (N num))), .int .i64 0]) ∧ TX w' gd gb gl gt gm n lf F bad D left dead ∧ Chg (dset gd gb) w w' := by
  have HTV := Lib.hid h.tv
  have HPL := Lib.hid (fun w => nodePlace_yes (w := w) hg num h1 h2)
  have hn := (hg.atB h1 h2).2
  have hbytes := hT num h1 h2
  have hq : atO num + 32 ≤ 64 := by unfold atO; omega
  obtain ⟨p, hp⟩ : ∃ p, p = atB g num := ⟨_, rfl⟩
  obtain ⟨q, hqq⟩ : ∃ q, q = atO num := ⟨_, rfl⟩
  rw [← hp] at hn hbytes HPL
  rw [← hqq] at hq hbytes HPL
  obtain ⟨M, hM⟩ : ∃ M, M = N num := ⟨_, rfl⟩
  rw [← hM] at hok hr hbytes ⊢
  have HBY := Lib.hid hbytes
  have HOK := Lib.hid hok
  have HR := Lib.hid hr
  have hq' : (q : Int) + 32 ≤ 64 := by omega
  clear h hg hT hbytes hp hqq hM hok hr h1 h2
  go_enter Try.func41, Try.ntmps41
  go_wp2_with (first
    | (refine wpList_box_row rfl 84 (.tmp 1) rfl (some 4) rfl 6 (geoF g) (by go_simp) ?_; intro w1 R4 hg1 hr1 hb1; have H1 := Lib.hid (HTV.out.keep hb1); have HR4 := Lib.hid hr1; clear hr1 hb1 hg1)
    | (refine wpList_new_row rfl 27 rfl (some 6) rfl 12 _ node_zero' ?_; intro w2 R6 hg2 hr2 hb2; have H2 := Lib.hid (H1.out.keep hb2); have HR6 := Lib.hid hr2; have HR42 := Lib.hid (rowIs_below HR4.out hb2); have HG6 := Lib.hid (Nat.le_trans H1.out.bl.size hg2); clear hr2 hb2 hg2)
    | (refine wpList_row_load (by kernel_rfl) 84 (.tmp 4) rfl (some 14) rfl R4 6 (geoF g) (by go_simp) HR42.out _ Try.underlying84 rfl geo_size ?_)
    | (go_at_call 40; refine (HPL.out _).mono ?_; rintro e w3 ⟨rfl, hb3⟩; have H3 := Lib.hid (H2.out.keep hb3); have HR63 := Lib.hid (rowIs_below HR6.out hb3); clear hb3))
  refine (txnGet_ok H3.out.tx p hn).mono ?_
  rintro e w4 ⟨rfl, ht4, hc4⟩
  have HT4 := Lib.hid ht4
  have HC4 := Lib.hid ((Chg.of_below (dset gd gb) H3.out.bl).trans hc4 (fun _ _ h => h))
  have HR64 := Lib.hid (hc4.row HR63.out (fun e => by have h1 := HTV.out.lt; have h2 := HG6.out; rcases e with e | e <;> omega))
  have HLT := Lib.hid HTV.out.lt
  clear ht4 hc4
  go_wp2_with (with_reducible refine wpList_stop (some 11) rfl ?_)
  refine Lib.hid ?_
  refine wpList_new_row rfl 52 rfl (some 11) rfl 64 _ page_zero ?_
  intro w5 R11 hg5 hr5 hb5
  have HT5 := Lib.hid (HT4.out.keep hb5)
  have HC5 := Lib.hid (HC4.out.next hb5)
  have HR65 := Lib.hid (rowIs_below HR64.out hb5)
  have HR11 := Lib.hid hr5
  have HG11 := Lib.hid (Nat.le_trans HC4.out.size hg5)
  have HNE := Lib.hid (show R6 ≠ R11 from Nat.ne_of_lt (Nat.lt_of_lt_of_le HR64.out.lt hg5))
  clear hr5 hb5 hg5
  obtain ⟨V, hV⟩ : ∃ V, V = viewB F D p := ⟨_, rfl⟩
  rw [← hV] at HBY ⊢
  clear hV
  refine wpList_row_store rfl 52 (.tmp 11) (.tmp 27) rfl rfl R11 64 _ (pgC V) (by go_simp) (by go_simp; rfl) HR11.out (fun _ _ => rfl) block_size ?_
  intro w6 hr6 o6
  have HT6 := Lib.hid (HT5.out.newOne o6 HG11.out HLT.out)
  have HC6 := Lib.hid (HC5.out.one o6 (.inr HG11.out))
  have HR66 := Lib.hid (rowIs_one HR65.out o6 HNE.out)
  have HP6 := Lib.hid hr6
  clear hr6 o6
  have hpc : ∀ j v, (rowArr 32 (byteF (encN M))).toList[j]? = some v → w6.cell? ⟨R11, q + j, none⟩ = some v := fun j v hv => by
    obtain ⟨hj, rfl⟩ := rowArr_get _ _ _ _ hv
    rw [HP6.out.cell (by omega)]
    unfold pgC byteF
    rw [HBY.out j hj]
  have HPC := Lib.hid hpc
  clear hpc
  have hsl := fun w => run_sliceAt_page w R11 q hq
  have har := run_array32
  go_wp2_with (first
    | (refine wpList_load_pieceTo rfl 28 (.tmp 37) rfl (some 38) rfl R11 q (by go_simp) (rowArr 32 (byteF (encN M))) _ HPC.out Try.underlying28 rfl (by rw [rowArr_size]; exact n32_size) ?_))
  refine (nodeDecode_in (encN M) (encN_le M) _).mono ?_
  rintro e w7 ⟨hb7, ⟨_, _, rfl⟩ | ⟨hno, _⟩⟩
  case inr => exact absurd ⟨tail_enc M, by rw [decN_enc HOK.out]; exact HR.out⟩ hno
  rw [decN_enc HOK.out]
  have HT7 := Lib.hid (HT6.out.keep hb7)
  have HC7 := Lib.hid (HC6.out.next hb7)
  have HR67 := Lib.hid (rowIs_below HR66.out hb7)
  clear hb7
  go_wp2_with (first
    | (refine wpList_row_store rfl 27 (.tmp 6) (.tmp 40) rfl rfl R6 12 _ (nodF M) (by go_simp) (by go_simp; rfl) HR67.out (nodF_one M) node_size ?_; intro w8 hr8 o8; have HT8 := Lib.hid (HT7.out.newOne o8 HG6.out HLT.out); have HC8 := Lib.hid (HC7.out.one o8 (.inr HG6.out)); have HR8 := Lib.hid hr8; clear hr8 o8))
  have hrun := run_load_row (P := Try.prog) HR8.out _ Try.underlying27 rfl node_size
  exact bodyPost_ret (v := .tuple #[.agg (rowArr 12 (nodF M)), .int .i64 0]) (by simp [results, Try.results41, Act.put, asAddr, hrun]) rfl ⟨rfl, HT8.out, HC8.out⟩
end
end Go.Proofs.Ytonfnlohbgbffaa
