/- The laws of the consoles: Awake; TtyNone. -/
import Derived.Test.YtmieioaklgdbdaaTtzB
import Derived.Lib.SlBytesConst
set_option linter.unusedVariables false
set_option linter.unusedSimpArgs false
namespace Go.Proofs.Ytmieioaklgdbdaa
open Go.RowKit

theorem SI.of_own {w : World} {base : Nat} {v : Value} {zs : List Int} (h : w.ownsRow base 5 1 v zs.length (zs.map (.int .u8))) (hw : ∀ z ∈ zs, 0 ≤ z ∧ z ≤ 255) : SI w .u8 v zs := ⟨SR.of_own h, fun z hz => u8_wf (hw z hz)⟩

theorem SI.of_row {w : World} {g : Nat} {zs : List Int} {t : TypeId} {fr : Nat × Nat} {cap : Nat} (h : w.heap[g]? = some (.cells (zs.map (Value.int .u8)).toArray t fr)) (hc : zs.length ≤ cap) (hm : cap ≤ maxLen) (hw : ∀ z ∈ zs, 0 ≤ z ∧ z ≤ 255) : SI w .u8 (.slice (some ⟨g, 0, none⟩) zs.length cap) zs := by
  refine ⟨⟨by simp, .inr ⟨_, cap, rfl, hc, hm, fun h0 => ⟨rfl, rowlt h, fun i hi => ?_⟩⟩⟩, fun z hz => u8_wf (hw z hz)⟩
  show w.cell? ⟨g, 0 + i, none⟩ = _
  rw [Nat.zero_add, rowcell h]
  simp

set_option maxRecDepth 100000 in
set_option maxHeartbeats 2000000 in
theorem ttyAwake_any (w : World) : Calls Try.prog 4 #[] w fun e w' => e = .returned (.bool true) ∧ Below w.heap.size w w' := by
  go_enter Try.func4, Try.ntmps4
  go_wp2_with fail
  go_at_call 5
  refine (ttyNew_any _).mono ?_; rintro e w1 ⟨rfl, ht, hb⟩
  have hs1 := hb.size
  have hcv := Lib.run_convert_bytes_const (P := Try.prog) w1 26 5 #[.int .u8 97, .int .u8 10, .int .u8 98] 3 3 Try.underlying26 Try.underlying5
  go_wp2_with fail
  go_at_call 9
  clear hcv
  have hlit : SI (w1.alloc (.cells #[.int .u8 97, .int .u8 10, .int .u8 98] 5 (3, 4))) .u8 (.slice (some ⟨w1.heap.size, 0, none⟩) 3 3) [97, 10, 98] :=
    SI.of_row (zs := [97, 10, 98]) (heap_alloc_last w1 _) (by simp) (by simp [maxLen]) (by simp)
  refine (ttyType_in 0 (by omega) w.heap.size w.heap.size _ _ _ _ _ [97, 10, 98] _ (ht.kept (bnew w1 _)) hlit (by simp) (by simp) (by simp; omega)).mono ?_
  rintro e w2 ⟨rfl, ⟨u, ht2, _⟩, hb2, _⟩
  clear hlit
  have hs2 := hb2.size
  go_wp2_with fail
  go_at_call 6
  have hs3 : w.heap.size ≤ w2.heap.size := by simp at hs2; omega
  have hno : ∀ j, j < 1 → ¬ ttyStop 9 (upd (fun _ => ([] : List Int)) 0 ([] ++ List.take (128 - ([] : List Int).length) [97, 10, 98]) 0) j := by
    intro j hj
    have hj0 : j = 0 := by omega
    subst hj0
    simp [upd, ttyStop]
  refine (ttyRead_line 0 (by omega) 9 (by omega) w.heap.size w.heap.size _ _ _ _ _ ht2 hs3 1 (by simp [upd]) (by simp [upd, ttyStop]) hno).mono ?_
  rintro e w3 ⟨u3, v3, rfl, hv3, ht3, hb3, _, _⟩
  have hv3 := SI.of_own hv3 (by simp [upd])
  have hts := hv3.toString (P := Try.prog) Try.underlying26 Try.underlying5 Try.underlying9
  rw [show strOfNums (List.take (1 + 1) (upd (fun _ => ([] : List Int)) 0 ([] ++ List.take (128 - ([] : List Int).length) [97, 10, 98]) 0)) = ⟨#[97, 10]⟩ from rfl] at hts
  go_wp2_with fail
  go_at_call 6
  have hno2 : ∀ j, j < (upd (upd (fun _ => ([] : List Int)) 0 ([] ++ List.take (128 - ([] : List Int).length) [97, 10, 98])) 0 (List.drop (1 + 1) (upd (fun _ => ([] : List Int)) 0 ([] ++ List.take (128 - ([] : List Int).length) [97, 10, 98]) 0)) 0).length →
      ¬ ttyStop 9 (upd (upd (fun _ => ([] : List Int)) 0 ([] ++ List.take (128 - ([] : List Int).length) [97, 10, 98])) 0 (List.drop (1 + 1) (upd (fun _ => ([] : List Int)) 0 ([] ++ List.take (128 - ([] : List Int).length) [97, 10, 98]) 0)) 0) j := by
    intro j hj
    have hj0 : j = 0 := by simp [upd] at hj; omega
    subst hj0
    simp [upd, ttyStop]
  refine (ttyRead_wait 0 (by omega) 9 (by omega) w.heap.size w.heap.size _ _ _ _ _ ht3 hno2).mono ?_
  rintro e w4 ⟨rfl, rfl⟩
  go_wp2_with fail
  go_ret
  exact ⟨rfl, ((hb.alloc hb.size _).trans hb2).trans hb3⟩

theorem SI.arg {W : World} {v : Value} (o : Arg Try.prog W 26 v) : ∃ zs, SI W .u8 v zs := SI.of_arg Try.underlying26 Try.underlying5 (by kernel_rfl) o

end Go.Proofs.Ytmieioaklgdbdaa
