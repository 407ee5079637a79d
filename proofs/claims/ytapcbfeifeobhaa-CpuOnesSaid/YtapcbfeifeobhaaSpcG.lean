/- Memory of a process: the walks of Load, Store, Read, Write. -/
import Derived.Test.YtapcbfeifeobhaaSpcF
set_option linter.unusedVariables false
set_option linter.unusedSimpArgs false
namespace Go.Proofs.Ytapcbfeifeobhaa
open Go.RowKit

section
variable {w w' w0 : World} {base gs g gm lab : Nat} {ps : List (Nat × Nat)} {v : Value} {a : Option Addr} {us : Nat → Nat} {F F' : Nat × Nat → Option (Nat → Nat)} {rs : List RegL}
theorem insideB_yes {n at_ : Nat} {many : Int} (h : insideB n at_ many = true) : ∃ k : Nat, many = k ∧ at_ + k ≤ 64 * n := by
  simp [insideB] at h
  exact ⟨many.toNat, by omega, by omega⟩
theorem insideB_nat {n at_ k : Nat} : insideB n at_ (k : Int) = decide (at_ + k ≤ 64 * n) := by
  simp only [insideB]
  by_cases h : at_ + k ≤ 64 * n
  · simp [h]; omega
  · simp [h]; omega
set_option maxRecDepth 100000 in
set_option maxHeartbeats 4000000 in
theorem spaceLoad_no (hs : SpV w base gs g lab ps v) (hl : ps.length ≤ 32) (at_ : Nat) (ha : at_ ≤ 4294967295) (many : Int) (hm : many ≤ 9223372036854775807) (hm2 : -9223372036854775808 ≤ many) (hi : insideB ps.length at_ many = false) :
    Calls Try.prog 37 #[.pointer (some ⟨gs, 0, none⟩), .int .u32 at_, .int .i64 many] w fun e w' => e = .returned (.tuple #[.int .u32 0, .int .i64 20]) ∧ w = w' := by
  have h := spaceInside_in hs hl at_ ha many hm hm2
  rw [hi] at h
  have H := Lib.hid h
  clear h hs hl hi
  go_enter Try.func37, Try.ntmps37
  go_wp2_with fail
  refine H.out.mono ?_; rintro e w2 ⟨rfl, rfl⟩
  go_wp2_with fail
  go_ret2
  exact ⟨rfl, rfl⟩
set_option maxRecDepth 100000 in
set_option maxHeartbeats 4000000 in
theorem spaceStore_no (hs : SpV w base gs g lab ps v) (hl : ps.length ≤ 32) (at_ : Nat) (ha : at_ ≤ 4294967295) (many : Int) (hm : many ≤ 9223372036854775807) (hm2 : -9223372036854775808 ≤ many) (n : Int) (hi : insideB ps.length at_ many = false) :
    Calls Try.prog 59 #[.pointer (some ⟨gs, 0, none⟩), .int .u32 at_, .int .i64 many, .int .u32 n] w fun e w' => e = .returned (.int .i64 20) ∧ w = w' := by
  have h := spaceInside_in hs hl at_ ha many hm hm2
  rw [hi] at h
  have H := Lib.hid h
  clear h hs hl hi
  go_enter Try.func59, Try.ntmps59
  go_wp2_with fail
  refine H.out.mono ?_; rintro e w2 ⟨rfl, rfl⟩
  go_wp2_with fail
  go_ret
  exact ⟨rfl, rfl⟩
set_option maxRecDepth 100000 in
set_option maxHeartbeats 4000000 in
theorem spaceRead_no (hs : SpV w base gs g lab ps v) (hl : ps.length ≤ 32) (at_ : Nat) (ha : at_ ≤ 4294967295) (many : Int) (hm : many ≤ 9223372036854775807) (hm2 : -9223372036854775808 ≤ many) (hi : insideB ps.length at_ many = false) :
    Calls Try.prog 16 #[.pointer (some ⟨gs, 0, none⟩), .int .u32 at_, .int .i64 many] w fun e w' => e = .returned (.tuple #[.slice none 0 0, .int .i64 20]) ∧ w = w' := by
  have h := spaceInside_in hs hl at_ ha many hm hm2
  rw [hi] at h
  have H := Lib.hid h
  clear h hs hl hi
  go_enter Try.func16, Try.ntmps16
  go_wp2_with fail
  refine H.out.mono ?_; rintro e w2 ⟨rfl, rfl⟩
  go_wp2_with fail
  go_ret2
  exact ⟨rfl, rfl⟩
set_option maxRecDepth 100000 in
set_option maxHeartbeats 4000000 in
theorem spaceWrite_no (hs : SpV w base gs g lab ps v) (hl : ps.length ≤ 32) (at_ : Nat) (ha : at_ ≤ 4294967295) (A : Option Addr) (n c : Nat) (hn : n ≤ 1000000) (hi : insideB ps.length at_ (n : Int) = false) :
    Calls Try.prog 24 #[.pointer (some ⟨gs, 0, none⟩), .int .u32 at_, .slice A n c] w fun e w' => e = .returned (.int .i64 20) ∧ w = w' := by
  have h := spaceInside_in hs hl at_ ha n (by omega) (by omega)
  rw [hi] at h
  have H := Lib.hid h
  clear h hs hl hi
  go_enter Try.func24, Try.ntmps24
  go_wp2_with fail
  refine H.out.mono ?_; rintro e w2 ⟨rfl, rfl⟩
  go_wp2_with fail
  go_ret
  exact ⟨rfl, rfl⟩
/-! ### Read -/
set_option maxRecDepth 100000 in
set_option maxHeartbeats 4000000 in
theorem spaceRead_in (ht : FP w g gm a us F) (hs : SpV w base gs g lab ps v) (ok : SpOk F ps) (at_ k : Nat) (ha : at_ ≤ 4294967295) (hi : at_ + k ≤ 64 * ps.length) :
    Calls Try.prog 16 #[.pointer (some ⟨gs, 0, none⟩), .int .u32 at_, .int .i64 k] w fun e w' => ∃ gO, e = .returned (.tuple #[.slice (some ⟨gO, 0, none⟩) k k, .int .i64 0]) ∧ w.heap.size ≤ gO ∧ w'.rowIs gO 5 k (fun j => .int .u8 (spMem F ps (at_ + j))) ∧ Below w.heap.size w w' := by
  have h := spaceInside_in hs ok.len at_ ha k (by have := ok.len; omega) (by omega)
  rw [insideB_nat, decide_eq_true hi] at h
  have H := Lib.hid h
  have hk : k ≤ 2048 := by have := ok.len; omega
  have ha2 : at_ ≤ 2048 := by have := ok.len; omega
  have HT := Lib.hid ht
  have HS := Lib.hid hs
  have HO := Lib.hid ok
  have HI := Lib.hid hi
  have hmk := fun w => run_make_row' (P := Try.prog) 32 5 (.int .u8 0) 1 Try.underlying32 (by kernel_rfl) rfl .i64 .i64 k (by omega) (by omega) w
  clear h hs ht ok hi
  go_enter Try.func16, Try.ntmps16
  go_wp2_with fail
  refine H.out.mono ?_; rintro e w2 ⟨rfl, rfl⟩
  go_wp2_with fail
  clear hmk
  have hbn := bnew w (.cells (madeCells #[.int .u8 0] k) 5)
  have hrow := World.rowIs_made w (.int .u8 0) k 5
  obtain ⟨gO, hgO⟩ : ∃ x, x = w.heap.size := ⟨_, rfl⟩
  rw [← hgO] at hrow
  try rw [← hgO]
  generalize w.alloc (.cells (madeCells #[.int .u8 0] k) 5) = w1 at *
  have HB1 := Lib.hid hbn
  have HR1 := Lib.hid hrow
  have HG := Lib.hid hgO
  clear hbn hrow hgO
  go_loopw [19] (fun r wx => ∃ j : Nat, j ≤ k ∧ r = .int .i64 j ∧ Below w.heap.size w wx ∧ wx.rowIs gO 5 k (fun q => if q < j then .int .u8 (spMem F ps (at_ + q)) else .int .u8 0)) (fun r _ => k - (intOf r).toNat)
  case atStart => exact ⟨0, by omega, rfl, HB1.out, HR1.out.congr (fun i _ => by simp)⟩
  case round =>
    obtain ⟨j, hj, rfl, hbx, hrx⟩ := hrel
    have HBX := Lib.hid hbx
    have HRX := Lib.hid hrx
    clear hbx hrx
    by_cases hjk : j < k
    · have f1 : (j : Int) < k := by omega
      have f2 : IntKind.i64.wrap (at_ : Int) = at_ := by rw [IntKind.wrap_i64]; omega
      have f3 : IntKind.i64.wrap ((at_ : Int) + j) = ((at_ + j : Nat) : Int) := by rw [IntKind.wrap_i64]; omega
      have hby := spaceByte_in (HT.out.keep HBX.out) (HS.out.keep HBX.out) HO.out (at_ + j) (by have := HI.out; omega)
      have HBY := Lib.hid hby
      clear hby
      go_wp2_with fail
      refine HBY.out.mono ?_; rintro e w3 ⟨rfl, hb3⟩
      have HB3 := Lib.hid (HBX.out.trans (hb3.mono HBX.out.size))
      have HR3 := Lib.hid (HRX.out.of_block (hb3.block gO HRX.out.lt))
      have c1 : w3.cell? ⟨gO, j, none⟩ = some (.int .u8 0) := by
        have := HR3.out.cell (i := j) hjk
        simpa using this
      have c2 := HR3.out.frozen
      obtain ⟨y, hy⟩ : ∃ y, y = spMem F ps (at_ + j) := ⟨_, rfl⟩
      rw [← hy]
      have HY := Lib.hid hy
      clear hb3 hy
      go_wp2_with fail
      go_roundw
      case rel =>
        refine ⟨j + 1, by omega, by go_num, bone HB3.out (one_setCell w3 gO j _) (by rw [HG.out]; exact Nat.le_refl _) HB3.out.size, (HR3.out.set j (.int .u8 y)).congr (fun i hi => ?_)⟩
        by_cases e : i = j
        · subst e; rw [if_pos rfl, if_pos (by omega), HY.out]
        · rw [if_neg e]
          by_cases e2 : i < j
          · rw [if_pos e2, if_pos (by omega)]
          · rw [if_neg e2, if_neg (by omega)]
      case measure => simp [intOf]; omega
    · obtain rfl : j = k := by omega
      have f1 : ¬ ((j : Int) < j) := by omega
      go_wp2_with fail
      go_ret2
      exact ⟨gO, rfl, by rw [HG.out]; exact Nat.le_refl _, HRX.out.congr (fun i hi => by rw [if_pos hi]), HBX.out⟩
end
end Go.Proofs.Ytapcbfeifeobhaa
