/- Numbers of a process: of a nil set. The registered labels of a size. A nil table: Take, Get, Drop. -/
import Derived.Test.YtfnkbgcgajgppaaFdsD
set_option linter.unusedVariables false
set_option linter.unusedSimpArgs false
namespace Go.Proofs.Ytfnkbgcgajgppaa
open Go.RowKit
open Go.Maps (Keyed)

set_option maxHeartbeats 4000000 in
theorem setPut_nil (w : World) (p : Nat × Nat) : Calls Try.prog 53 #[.pointer none, markV p] w fun e w' => e = .returned (.tuple #[.int .i64 0, .int .i64 1]) ∧ Below w.heap.size w w' := by
  unfold markV
  go_enter Try.func53, Try.ntmps53
  go_wp2_with fail
  go_ret2
  exact ⟨rfl, bnew _ _⟩
set_option maxHeartbeats 4000000 in
theorem setGet_nil (w : World) (i : Int) : Calls Try.prog 56 #[.pointer none, .int .i64 i] w fun e w' => e = .returned (.tuple #[.agg #[.int .u8 0, .int .u16 0], .int .i64 1]) ∧ Below w.heap.size w w' := by
  go_enter Try.func56, Try.ntmps56
  go_wp2_with fail
  have hrun := idLoad _ w.heap.size 0 0 (heap_alloc_last w _)
  exact bodyPost_ret (v := .tuple #[.agg #[.int .u8 0, .int .u16 0], .int .i64 1]) (by simp [results, Try.results56, Act.put, asAddr, hrun]) rfl ⟨rfl, bnew _ _⟩
set_option maxHeartbeats 4000000 in
theorem setCut_nil (w : World) (i : Int) : Calls Try.prog 54 #[.pointer none, .int .i64 i] w fun e w' => e = .returned (.tuple #[.agg #[.int .u8 0, .int .u16 0], .int .i64 1]) ∧ Below w.heap.size w w' := by
  have hb := bnew w (.cells #[.int .u8 0, .int .u16 0] 69)
  have ha := heap_alloc_last w (.cells #[.int .u8 0, .int .u16 0] 69)
  have HB := Lib.hid hb
  have HA := Lib.hid ha
  clear hb ha
  go_enter Try.func54, Try.ntmps54
  go_wp2_with fail
  refine (setGet_nil _ i).mono ?_; rintro e w2 ⟨rfl, hb2⟩
  obtain ⟨G, hG⟩ : ∃ G, G = w.heap.size := ⟨_, rfl⟩
  rw [← hG] at HA ⊢
  have hb3 := bnewAfter hb2 (.cells #[.int .u8 0, .int .u16 0] 69)
  have ha3 := bkeep hb3 HA.out
  have HA3 := Lib.hid ha3
  have HB3 := Lib.hid (bnext HB.out hb3)
  have HG := Lib.hid hG
  have c1 := rowcell ha3
  have c2 := rowfree ha3
  clear hb2 hb3 ha3 hG
  go_wp2_with fail
  obtain ⟨h4, o4⟩ := set_two HA3.out (.int .u8 0) (.int .u16 0)
  generalize hw4 : ((w2.alloc (.cells #[.int .u8 0, .int .u16 0] 69)).setCell ⟨G, 0, none⟩ (.int .u8 0)).setCell ⟨G, 1, none⟩ (.int .u16 0) = w4 at *
  have hrun := idLoad w4 G 0 0 h4
  exact bodyPost_ret (v := .tuple #[.agg #[.int .u8 0, .int .u16 0], .int .i64 1]) (by simp [results, Try.results54, Act.put, asAddr, hrun]) rfl ⟨rfl, bone HB3.out o4 (by rw [HG.out]; omega) HB3.out.size⟩
set_option maxHeartbeats 4000000 in
theorem setTurn_nil (w : World) (i : Int) (p : Nat × Nat) : Calls Try.prog 55 #[.pointer none, .int .i64 i, markV p] w fun e w' => e = .returned (.int .i64 1) ∧ Below w.heap.size w w' := by
  have hb := bnew w (.cells #[.int .u8 p.1, .int .u16 p.2] 69)
  have HB := Lib.hid hb
  clear hb
  unfold markV
  go_enter Try.func55, Try.ntmps55
  go_wp2_with fail
  refine (setGet_nil _ i).mono ?_; rintro e w2 ⟨rfl, hb2⟩
  have HB2 := Lib.hid (bnext HB.out hb2)
  clear hb2
  go_wp2_with fail
  go_ret
  exact ⟨rfl, bnewAfter HB2.out _⟩
set_option maxHeartbeats 4000000 in
theorem setNumbers_nil (w : World) : Calls Try.prog 57 #[.pointer none] w fun e w' => e = .returned (.slice none 0 0) ∧ w = w' := by
  go_enter Try.func57, Try.ntmps57
  go_wp2_with fail
  go_ret
  exact ⟨rfl, rfl⟩
set_option maxHeartbeats 4000000 in
theorem setRoom_nil (w : World) : Calls Try.prog 58 #[.pointer none] w fun e w' => e = .returned (.int .i64 8) ∧ w = w' := by
  go_enter Try.func58, Try.ntmps58
  go_wp2_with fail
  refine (setNumbers_nil _).mono ?_; rintro e w2 ⟨rfl, rfl⟩
  go_wp2_with fail
  go_ret
  exact ⟨rfl, rfl⟩
set_option maxRecDepth 20000 in
set_option maxHeartbeats 4000000 in
theorem regs24_in (w : World) (v : Value) (s : SizeL) (hv : SizeV w v s) :
    Calls Try.prog 59 #[v] w fun e w' => (∃ a c, e = .returned (.slice a (sizeRegs s).length c)) ∧ Below w.heap.size w w' := by
  have HV0 := Lib.hid hv
  obtain ⟨X, tv, rfl, hX, hrest⟩ := hv
  clear hrest
  have HX := Lib.hid (show (Try.prog.info? 26).map (·.size) = some X.size by rw [hX]; kernel_rfl)
  clear hX
  have HA := Lib.hid (heap_alloc_last w (.cells X 26))
  go_enter Try.func59, Try.ntmps59
  go_wp2_with (refine wpList_load_pieceTo rfl 26 (.tmp 1) rfl (some 6) rfl w.heap.size 0 rfl X _ (fun j v hj => by rw [Nat.zero_add, rowcell HA.out]; simpa using hj) Try.underlying26 rfl HX.out ?_)
  refine (sizeRegs_in _ _ s (SizeV.keep HV0.out (bnew _ _))).mono ?_; rintro e w1 ⟨hb1, rv, mv, rfl, hr, hm⟩
  obtain ⟨A, c, hrv, _, _⟩ := (SR.of_own hr).form
  obtain ⟨A2, c2, hmv, _, _⟩ := (SR.of_own hm).form
  rw [hrv, hmv]
  have HB := Lib.hid (bnext (bnew w (.cells X 26)) hb1)
  clear hr hm hrv hmv hb1
  go_wp2_with fail
  go_ret
  exact ⟨⟨A, c, rfl⟩, HB.out⟩
section
variable {w0 w : World}
set_option maxRecDepth 20000 in
set_option maxHeartbeats 4000000 in
theorem fdsGet_nil (w : World) (p : Nat × Nat) : Calls Try.prog 50 #[.pointer none, markV p] w fun e w' => e = .returned (.tuple #[.agg #[.int .u8 0, .int .u8 0, .int .u16 0, .int .u16 0, .bool false, .int .u8 0, .int .u16 0, .int .u16 0, .int .i64 0, .int .i64 0, .bool false, .bool false, .bool false, .string ⟨#[]⟩], .bool false]) ∧ Below w.heap.size w w' := by
  have hbn := bnewAfter (bnew w (.cells #[.int .u8 p.1, .int .u16 p.2] 69)) (.cells #[.int .u8 0, .int .u8 0, .int .u16 0, .int .u16 0, .bool false, .int .u8 0, .int .u16 0, .int .u16 0, .int .i64 0, .int .i64 0, .bool false, .bool false, .bool false, .string ⟨#[]⟩] 78)
  have hl := bkeep (bnew _ (.cells #[.int .u8 0, .int .u8 0, .int .u16 0, .int .u16 0, .bool false, .int .u8 0, .int .u16 0, .int .u16 0, .int .i64 0, .int .i64 0, .bool false, .bool false, .bool false, .string ⟨#[]⟩] 78)) (heap_alloc_last w (.cells #[.int .u8 p.1, .int .u16 p.2] 69))
  have hr := heap_alloc_last (w.alloc (.cells #[.int .u8 p.1, .int .u16 p.2] 69)) (.cells #[.int .u8 0, .int .u8 0, .int .u16 0, .int .u16 0, .bool false, .int .u8 0, .int .u16 0, .int .u16 0, .int .i64 0, .int .i64 0, .bool false, .bool false, .bool false, .string ⟨#[]⟩] 78)
  rw [World.size_alloc] at hr
  have HB := Lib.hid hbn
  have HRR := Lib.hid hr
  have c1 := rowcell hl
  obtain ⟨Z, hZ⟩ : ∃ Z, Z = openZ := ⟨_, rfl⟩
  rw [show (#[.int .u8 0, .int .u8 0, .int .u16 0, .int .u16 0, .bool false, .int .u8 0, .int .u16 0, .int .u16 0, .int .i64 0, .int .i64 0, .bool false, .bool false, .bool false, .string ⟨#[]⟩] : Array Value) = openZ from rfl, ← hZ]
  have HZ := Lib.hid hZ
  have HOO := Lib.hid (show okO Z by rw [hZ]; exact openZ_ok)
  clear hZ hbn hl hr
  unfold markV
  go_enter Try.func50, Try.ntmps50
  go_wp2_with fail
  generalize hG : w.heap.size = G at *
  generalize (w.alloc (.cells #[.int .u8 p.1, .int .u16 p.2] 69)).alloc (.cells #[.int .u8 0, .int .u8 0, .int .u16 0, .int .u16 0, .bool false, .int .u8 0, .int .u16 0, .int .u16 0, .int .i64 0, .int .i64 0, .bool false, .bool false, .bool false, .string ⟨#[]⟩] 78) = w1 at *
  obtain ⟨D, hD⟩ : ∃ D, D = G + 1 := ⟨_, rfl⟩
  rw [← hD] at HRR ⊢
  have HR := Lib.hid (show w1.heap[D]? = some (.cells openZ 78 (0, 0)) from HRR.out)
  have HD := Lib.hid hD
  have HG := Lib.hid hG
  clear hG c1 hD HRR
  refine (fdsHas_nil _ p).mono ?_; rintro e w2 ⟨rfl, hb2⟩
  have HB2 := Lib.hid (HB.out.trans (hb2.mono (by have := HB.out.size; rw [HG.out] at this; exact this)))
  have HR2 := Lib.hid (bkeep hb2 HR.out)
  clear hb2
  go_wp2_with (first | (refine wpList_buildTo rfl 78 _ rfl (some 10) rfl Z ?hf ?_; case hf => (rw [HZ.out]; kernel_rfl)) | (with_reducible refine wpList_stop none rfl ?_))
  refine Lib.hid ?_
  refine wpList_store_pieceTo rfl 78 _ _ rfl rfl D 0 Z (by go_simp) (by go_simp) (by rw [HOO.out.1]; kernel_rfl) (fun j hj => by rw [Nat.zero_add, rowcell HR2.out, Array.getElem?_eq_getElem (by rw [HOO.out.1] at hj; exact hj)]; rfl) (fun j hj => rowfree HR2.out _) HOO.out.2 (fun x9 hx9 => ?_)
  obtain ⟨e9, o9⟩ := setCells_whole (cs := Z) HR2.out (by rw [HOO.out.1]; rfl)
  rw [← hx9] at e9 o9
  have hrun := openLoad x9 D Z HOO.out.1 e9
  clear hx9
  go_wp2_with fail
  exact bodyPost_ret (v := .tuple #[.agg Z, .bool false]) (by simp [results, Try.results50, Act.put, asAddr, hrun]) rfl ⟨rfl, by rw [HG.out]; exact bone HB2.out o9 (by have := HD.out; omega) (by have := HB2.out.size; rw [HG.out] at this; exact this)⟩
set_option maxRecDepth 20000 in
set_option maxHeartbeats 4000000 in
theorem fdsDrop_nil (w : World) (p : Nat × Nat) : Calls Try.prog 47 #[.pointer none, markV p] w fun e w' => e = .returned (.tuple #[.agg #[.int .u8 0, .int .u8 0, .int .u16 0, .int .u16 0, .bool false, .int .u8 0, .int .u16 0, .int .u16 0, .int .i64 0, .int .i64 0, .bool false, .bool false, .bool false, .string ⟨#[]⟩], .bool false]) ∧ Below w.heap.size w w' := by
  have hbn := bnewAfter (bnew w (.cells #[.int .u8 p.1, .int .u16 p.2] 69)) (.cells #[.int .u8 0, .int .u8 0, .int .u16 0, .int .u16 0, .bool false, .int .u8 0, .int .u16 0, .int .u16 0, .int .i64 0, .int .i64 0, .bool false, .bool false, .bool false, .string ⟨#[]⟩] 78)
  have hl := bkeep (bnew _ (.cells #[.int .u8 0, .int .u8 0, .int .u16 0, .int .u16 0, .bool false, .int .u8 0, .int .u16 0, .int .u16 0, .int .i64 0, .int .i64 0, .bool false, .bool false, .bool false, .string ⟨#[]⟩] 78)) (heap_alloc_last w (.cells #[.int .u8 p.1, .int .u16 p.2] 69))
  have hr := heap_alloc_last (w.alloc (.cells #[.int .u8 p.1, .int .u16 p.2] 69)) (.cells #[.int .u8 0, .int .u8 0, .int .u16 0, .int .u16 0, .bool false, .int .u8 0, .int .u16 0, .int .u16 0, .int .i64 0, .int .i64 0, .bool false, .bool false, .bool false, .string ⟨#[]⟩] 78)
  rw [World.size_alloc] at hr
  have HB := Lib.hid hbn
  have HRR := Lib.hid hr
  have c1 := rowcell hl
  obtain ⟨Z, hZ⟩ : ∃ Z, Z = openZ := ⟨_, rfl⟩
  rw [show (#[.int .u8 0, .int .u8 0, .int .u16 0, .int .u16 0, .bool false, .int .u8 0, .int .u16 0, .int .u16 0, .int .i64 0, .int .i64 0, .bool false, .bool false, .bool false, .string ⟨#[]⟩] : Array Value) = openZ from rfl, ← hZ]
  have HZ := Lib.hid hZ
  have HOO := Lib.hid (show okO Z by rw [hZ]; exact openZ_ok)
  clear hZ hbn hl hr
  unfold markV
  go_enter Try.func47, Try.ntmps47
  go_wp2_with fail
  generalize hG : w.heap.size = G at *
  generalize (w.alloc (.cells #[.int .u8 p.1, .int .u16 p.2] 69)).alloc (.cells #[.int .u8 0, .int .u8 0, .int .u16 0, .int .u16 0, .bool false, .int .u8 0, .int .u16 0, .int .u16 0, .int .i64 0, .int .i64 0, .bool false, .bool false, .bool false, .string ⟨#[]⟩] 78) = w1 at *
  obtain ⟨D, hD⟩ : ∃ D, D = G + 1 := ⟨_, rfl⟩
  rw [← hD] at HRR ⊢
  have HR := Lib.hid (show w1.heap[D]? = some (.cells openZ 78 (0, 0)) from HRR.out)
  have HD := Lib.hid hD
  have HG := Lib.hid hG
  clear hG c1 hD HRR
  refine (fdsHas_nil _ p).mono ?_; rintro e w2 ⟨rfl, hb2⟩
  have HB2 := Lib.hid (HB.out.trans (hb2.mono (by have := HB.out.size; rw [HG.out] at this; exact this)))
  have HR2 := Lib.hid (bkeep hb2 HR.out)
  clear hb2
  go_wp2_with (first | (refine wpList_buildTo rfl 78 _ rfl (some 11) rfl Z ?hf ?_; case hf => (rw [HZ.out]; kernel_rfl)) | (with_reducible refine wpList_stop none rfl ?_))
  refine Lib.hid ?_
  refine wpList_store_pieceTo rfl 78 _ _ rfl rfl D 0 Z (by go_simp) (by go_simp) (by rw [HOO.out.1]; kernel_rfl) (fun j hj => by rw [Nat.zero_add, rowcell HR2.out, Array.getElem?_eq_getElem (by rw [HOO.out.1] at hj; exact hj)]; rfl) (fun j hj => rowfree HR2.out _) HOO.out.2 (fun x9 hx9 => ?_)
  obtain ⟨e9, o9⟩ := setCells_whole (cs := Z) HR2.out (by rw [HOO.out.1]; rfl)
  rw [← hx9] at e9 o9
  have hrun := openLoad x9 D Z HOO.out.1 e9
  clear hx9
  go_wp2_with fail
  exact bodyPost_ret (v := .tuple #[.agg Z, .bool false]) (by simp [results, Try.results47, Act.put, asAddr, hrun]) rfl ⟨rfl, by rw [HG.out]; exact bone HB2.out o9 (by have := HD.out; omega) (by have := HB2.out.size; rw [HG.out] at this; exact this)⟩
end
end Go.Proofs.Ytfnkbgcgajgppaa
