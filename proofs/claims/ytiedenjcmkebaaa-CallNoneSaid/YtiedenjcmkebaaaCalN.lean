/- CallNone: its walk. -/
import Derived.Test.YtiedenjcmkebaaaSpcD
import Derived.Test.YtiedenjcmkebaaaCallA
set_option linter.unusedVariables false
set_option linter.unusedSimpArgs false
namespace Go.Proofs.Ytiedenjcmkebaaa
open Go.RowKit

def askZ : Array Value := #[.int .i64 0, .slice none 0 0, .slice none 0 0, .slice none 0 0, .int .u32 0, .int .i64 0]
theorem askLoad (w : World) (x : Nat) (h : w.heap[x]? = some (.cells askZ 113 (0, 0))) : (loadVar 113 ⟨x, 0, none⟩).run Try.prog w = .ok (.agg askZ) w :=
  run_loadVar_piece w 113 x 0 askZ _ (fun j v hv => by rw [Nat.zero_add, rowcell h]; simpa using hv) Try.underlying113 rfl (by kernel_rfl)
set_option maxRecDepth 100000 in
set_option maxHeartbeats 4000000 in
theorem callTake_none1 (w : World) (n : Int) (p : Option Addr) : Calls Try.prog 49 #[.int .i64 n, .pointer none, .pointer p] w fun e w' => e = .returned (.tuple #[.agg askZ, .int .i64 1]) ∧ Below w.heap.size w w' := by
  have hb2 := bnewAfter (bnew w (.cells #[.pointer none] 116)) (.cells askZ 113)
  have hl := heap_alloc_last (w.alloc (.cells #[.pointer none] 116)) (.cells askZ 113)
  have HB := Lib.hid hb2
  have hld := askLoad _ _ hl
  rw [World.size_alloc] at hld
  clear hb2 hl
  go_enter Try.func49, Try.ntmps49
  go_wp2_with fail
  unfold askZ at hld
  exact bodyPost_ret (v := .tuple #[.agg askZ, .int .i64 1]) (by simp [results, Try.results49, Act.put, asAddr, hld, askZ]) rfl ⟨rfl, HB.out⟩
set_option maxRecDepth 100000 in
set_option maxHeartbeats 4000000 in
theorem callTake_none2 (w : World) (n : Int) (p : Addr) : Calls Try.prog 49 #[.int .i64 n, .pointer (some p), .pointer none] w fun e w' => e = .returned (.tuple #[.agg askZ, .int .i64 1]) ∧ Below w.heap.size w w' := by
  have hb2 := bnewAfter (bnew w (.cells #[.pointer (some p)] 116)) (.cells askZ 113)
  have hl := heap_alloc_last (w.alloc (.cells #[.pointer (some p)] 116)) (.cells askZ 113)
  have HB := Lib.hid hb2
  have hld := askLoad _ _ hl
  rw [World.size_alloc] at hld
  clear hb2 hl
  go_enter Try.func49, Try.ntmps49
  go_wp2_with fail
  unfold askZ at hld
  exact bodyPost_ret (v := .tuple #[.agg askZ, .int .i64 1]) (by simp [results, Try.results49, Act.put, asAddr, hld, askZ]) rfl ⟨rfl, HB.out⟩
set_option maxRecDepth 100000 in
set_option maxHeartbeats 8000000 in
theorem callNone_walk (W : World) (v0 v1 : Value) (o0 : Arg Try.prog W 3 v0) (o1 : Arg Try.prog W 27 v1) :
    Calls Try.prog 9 #[v0, v1] W fun e w' => e = .returned (.bool true) ∧ Below W.heap.size W w' := by
  obtain ⟨n, rfl, hn⟩ := Arg.int Try.underlying3 o0
  obtain ⟨at_, rfl, ha⟩ := Arg.int Try.underlying27 o1
  go_enter Try.func9, Try.ntmps9
  go_wp2_with fail
  refine (callAwake_any _).mono ?_; rintro e w1 ⟨rfl, rfl⟩
  go_wp2_with fail
  refine (pool_in _).mono ?_; rintro e w2 ⟨g, gm, ad, w1, rfl, hnp⟩
  have HNP := Lib.hid hnp
  clear hnp
  go_wp2_with fail
  have hnew := spaceNew_up HNP.out.cp HNP.out.b2 HNP.out.fp Cont.nil HNP.out.g0 HNP.out.g1 (lab := 0) (by rw [bigS_len]; omega) (sizeLe64 _) 1 (by omega) (by rw [bigS_fr0]; omega) (by rw [bigS_fr0]; omega)
  refine hnew.mono ?_
  rintro e w3 ⟨gs, v3, rfl, hgs, hT3, hS3, hc3⟩
  clear hnew
  have hb3 := hc3.below (B := w1.heap.size) (fun k h => by
    rcases h with rfl | rfl
    · exact HNP.out.g0
    · exact HNP.out.g1) HNP.out.b2.size
  have HB3 := Lib.hid (HNP.out.b1.trans ((HNP.out.b2.trans hb3).mono HNP.out.b1.size))
  clear hT3 hS3 hc3 hb3 hgs
  go_wp2_with fail
  refine (callTake_none1 _ n (some ⟨gs, 0, none⟩)).mono ?_; rintro e w4 ⟨rfl, hb4⟩
  have HB4 := Lib.hid (HB3.out.trans (hb4.mono HB3.out.size))
  clear hb4
  unfold askZ
  go_wp2_with fail
  have hbs := bnewAfter (bnew w4 (.cells #[.int .i64 0, .slice none 0 0, .slice none 0 0, .slice none 0 0, .int .u32 0, .int .i64 0] 113)) (.cells #[.int .u32 0, .int .u32 0, .int .u32 0, .int .u32 0, .int .u32 0, .int .u32 0, .int .u32 0, .int .u32 0, .int .u32 0, .int .u32 0, .int .u32 0, .int .u32 0, .int .u32 0, .int .u32 0, .int .u32 0, .int .u32 0, .int .u32 at_] 76)
  refine (callTake_none2 _ n _).mono ?_; rintro e w5 ⟨rfl, hb5⟩
  have HB5 := Lib.hid ((HB4.out.trans (hbs.mono HB4.out.size)).trans (hb5.mono (by have := HB4.out.size; have := hbs.size; omega)))
  clear hb5 hbs
  unfold askZ
  go_wp2_with fail
  go_ret
  exact ⟨rfl, bnewAfter HB5.out _⟩
end Go.Proofs.Ytiedenjcmkebaaa
