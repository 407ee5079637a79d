/- Contracts of package disk, and of the law's block. -/
import Derived.Test.YtcjnnonfnlemmaaPc
set_option linter.unusedVariables false
set_option linter.unusedSimpArgs false
namespace Go.Proofs.Ytcjnnonfnlemmaa
open Go.RowKit

def noughts : Array Value := rowArr 64 (fun _ => .int .u8 0)
theorem noughts_zero : (Try.prog.info? 32).bind (·.zero) = some (.agg noughts) := by kernel_rfl
theorem block_size : (Try.prog.info? 32).map (·.size) = some 64 := by kernel_rfl
theorem block_under : Try.prog.underlying 32 = some (.array 64 5) := by kernel_rfl

/-- The bytes of the block of a number. -/
def lawCell (n : Int) (i : Nat) : Value := .int .u8 ((n + i) % 256)

theorem lawCell_one (n : Int) : ∀ v ∈ (rowArr 64 (lawCell n)).toList, v.oneCell' = true := by
  intro v hv
  simp only [rowArr, List.mem_map] at hv
  obtain ⟨i, _, rfl⟩ := hv
  rfl

set_option maxRecDepth 10000 in
set_option maxHeartbeats 400000 in
theorem lawBlock_any (n : Int) (h0 : 0 ≤ n) (h1 : n ≤ 255) (w : World) : Calls Try.prog 12 #[.int .u8 n] w fun e w' => e = .returned (.agg (rowArr 64 (lawCell n))) ∧ Below w.heap.size w w' := by
  have hz := run_zero noughts_zero
  go_enter Try.func12, Try.ntmps12
  go_wp2_with (first | (refine wpList_allocTo rfl 32 rfl (some 2) rfl (.agg noughts) noughts_zero ?_) | (refine wpList_allocTo rfl 32 rfl (some 3) rfl (.agg noughts) noughts_zero ?_))
  have hB0 : Below w.heap.size w ((w.alloc (.cells noughts 32)).alloc (.cells noughts 32)) := (bnewAfter (bnew w _) _)
  have hr2 : ((w.alloc (.cells noughts 32)).alloc (.cells noughts 32)).rowIs w.heap.size 32 64 (fun _ => .int .u8 0) := (rowIs_of_arr (heap_alloc_last w _)).alloc _
  have hr3 : ((w.alloc (.cells noughts 32)).alloc (.cells noughts 32)).rowIs (w.heap.size + 1) 32 64 (fun _ => .int .u8 0) := by
    have := rowIs_of_arr (heap_alloc_last (w.alloc (.cells noughts 32)) (.cells noughts 32))
    rwa [show (w.alloc (.cells noughts 32)).heap.size = w.heap.size + 1 by simp] at this
  generalize (w.alloc (.cells noughts 32)).alloc (.cells noughts 32) = w2 at *
  go_loopw [5] (fun v5 wr => ∃ k : Nat, k ≤ 64 ∧ v5 = .int .i64 k ∧ wr.rowIs (w.heap.size + 1) 32 64 (fun i => if i < k then lawCell n i else .int .u8 0) ∧ wr.rowIs w.heap.size 32 64 (fun _ => .int .u8 0) ∧ Below w.heap.size w wr)
    (fun v5 _ => (64 - intOf v5).toNat)
  case atStart => exact ⟨0, by omega, rfl, hr3.congr (fun i _ => by rw [if_neg (by omega)]), hr2, hB0⟩
  case round =>
    obtain ⟨k, hk, rfl, hrow, hres, hB⟩ := hrel
    by_cases hlt : k < 64
    · have c1 : wr.cell? ⟨w.heap.size + 1, k, none⟩ = some (.int .u8 0) := (hrow.cell hlt).trans (by rw [if_neg (by omega)])
      have f1 := hrow.frozen
      have hset := Lib.hid (hrow.set k (lawCell n k))
      have hres' := Lib.hid hres
      clear hrow hres hr2 hr3
      go_wp2_with fail
      go_roundw
      case rel =>
        refine ⟨k + 1, by omega, by go_num, ?_, hres'.out.setOther (by simp) _, hB.setCell (by simp) _⟩
        have hv : Value.int .u8 ((n + k) % 256) = lawCell n k := rfl
        refine hset.out.congr (fun i hi => ?_)
        by_cases h1 : i = k
        · rw [if_pos h1, if_pos (by omega), h1]
        · rw [if_neg h1]
          by_cases h2 : i < k
          · rw [if_pos h2, if_pos (by omega)]
          · rw [if_neg h2, if_neg (by omega)]
      case measure => simp [intOf]; omega
    · have hrow2 := hrow.congr (g := lawCell n) (fun i hi => by rw [if_pos (by omega)])
      have hcs := fun j v (h : (rowArr 64 (lawCell n)).toList[j]? = some v) => show wr.cell? ⟨w.heap.size + 1, 0 + j, none⟩ = some v from by
        obtain ⟨h1, rfl⟩ := rowArr_get _ _ _ _ h
        rw [Nat.zero_add]; exact hrow2.cell h1
      have hcr := fun j (h : j < (rowArr 64 (lawCell n)).size) => show (wr.cell? ⟨w.heap.size, 0 + j, none⟩).isSome = true from by
        rw [rowArr_size] at h
        rw [Nat.zero_add, hres.cell h]; rfl
      have H1 := Lib.hid hcs
      have H2 := Lib.hid hcr
      have H3 := Lib.hid hres
      clear hcs hcr hrow hrow2 hres hr2 hr3
      go_wp2_with (first
        | (refine wpList_load_pieceTo rfl 32 (.tmp 3) rfl (some 15) rfl (w.heap.size + 1) 0 rfl (rowArr 64 (lawCell n)) _ H1.out block_under rfl (by rw [rowArr_size]; exact block_size) ?_)
        | (refine wpList_store_pieceTo rfl 32 (.tmp 2) (.tmp 15) rfl rfl w.heap.size 0 (rowArr 64 (lawCell n)) rfl rfl (by rw [rowArr_size]; exact block_size) H2.out (fun j _ => H3.out.frozen _) (lawCell_one n) ?_; intro wS hwS; have HS := Lib.hid hwS; clear hwS))
      have hrS := (rowIs_piece (m := 64) (off := 0) (h := lawCell n) H3.out).congr (g := lawCell n) (fun i hi => by rw [if_pos (by omega)]; rfl)
      have hBS : Below w.heap.size w (wr.setCells w.heap.size 0 (rowArr 64 (lawCell n)).toList) := below_setCells (Nat.le_refl _) _ _ _ hB
      rw [← HS.out] at hrS hBS
      have hrun : (loadVar 32 ⟨w.heap.size, 0, none⟩).run Try.prog wS = .ok (.agg (rowArr 64 (lawCell n))) wS := run_loadVar_piece wS 32 w.heap.size 0 (rowArr 64 (lawCell n)) _ (fun j v h => by
        obtain ⟨h1, rfl⟩ := rowArr_get _ _ _ _ h
        rw [Nat.zero_add]; exact hrS.cell h1) block_under rfl (by rw [rowArr_size]; exact block_size)
      exact bodyPost_ret (v := .agg (rowArr 64 (lawCell n))) (by simp [results, Try.results12, Act.put, asAddr, hrun]) rfl ⟨rfl, hBS⟩
end Go.Proofs.Ytcjnnonfnlemmaa
