/- Contracts of the functions of package ops on programs and files. -/
import Derived.Test.YtbdcbkmacpameaaOpsD
import Derived.Test.YtbdcbkmacpameaaSl
set_option linter.unusedVariables false
namespace Go.Proofs.Ytbdcbkmacpameaa
open Go.RowKit

/-- May so many bytes of code and pages be a program? -/
def progFits (x n : Int) : Prop := 0 < n ∧ n ≤ 2048 ∧ (n + 64 - 1) / 64 + x ≤ 32

set_option maxHeartbeats 400000 in
theorem opsPages_any (x : Int) (hx : 0 ≤ x) (hx' : x ≤ 255) (a : Option Addr) (n cap : Nat) (hn : n ≤ 1000000000) (w : World) :
    Calls Try.prog 37 #[.agg #[.int .u8 x, .slice a n cap]] w fun e w' => e = .returned (.int .i64 (((n : Int) + 64 - 1) / 64 + x)) ∧ Below w.heap.size w w' := by
  go_enter Try.func37, Try.ntmps37
  go_wp2
  go_ret
  exact ⟨rfl, bnew _ _⟩

set_option maxHeartbeats 400000 in
theorem opsFits_any (x : Int) (hx : 0 ≤ x) (hx' : x ≤ 255) (a : Option Addr) (n cap : Nat) (hn : n ≤ 1000000000) (w : World) :
    Calls Try.prog 52 #[.agg #[.int .u8 x, .slice a n cap]] w fun e w' => (∃ c : Int, e = .returned (.int .i64 c) ∧ (progFits x n ∧ c = 0 ∨ ¬ progFits x n ∧ c = 19)) ∧ Below w.heap.size w w' := by
  unfold progFits
  by_cases h0 : n = 0
  · subst h0
    go_enter Try.func52, Try.ntmps52
    go_wp2
    go_ret
    exact ⟨⟨19, rfl, .inr ⟨by omega, rfl⟩⟩, bnew _ _⟩
  · have h1 : ((n : Int) == 0) = false := by rw [beq_eq_false_iff_ne]; omega
    by_cases h2 : 2048 < (n : Int)
    · go_enter Try.func52, Try.ntmps52
      go_wp2
      go_ret
      exact ⟨⟨19, rfl, .inr ⟨by omega, rfl⟩⟩, bnew _ _⟩
    · go_enter Try.func52, Try.ntmps52
      go_wp2_with (go_at_call 37; refine (opsPages_any x hx hx' a n cap hn _).mono ?_; rintro e w1 ⟨rfl, hb⟩)
      all_goals go_ret
      · exact ⟨⟨19, rfl, .inr ⟨by omega, rfl⟩⟩, bnext (bnew _ _) hb⟩
      · exact ⟨⟨0, rfl, .inl ⟨by omega, rfl⟩⟩, bnext (bnew _ _) hb⟩

set_option maxHeartbeats 400000 in
theorem opsFile_no (x : Int) (hx : 0 ≤ x) (hx' : x ≤ 255) (a : Option Addr) (n cap : Nat) (hn : n ≤ 1000000000) (h : ¬ progFits x n) (w : World) :
    Calls Try.prog 27 #[.agg #[.int .u8 x, .slice a n cap]] w fun e w' => e = .returned (.tuple #[.slice none 0 0, .int .i64 19]) ∧ Below w.heap.size w w' := by
  go_enter Try.func27, Try.ntmps27
  go_wp2_with (go_at_call 52; refine (opsFits_any x hx hx' a n cap hn _).mono ?_; rintro e w1 ⟨⟨c, rfl, hc⟩, hb⟩; obtain rfl : c = 19 := by rcases hc with ⟨h1, _⟩ | ⟨_, h1⟩; exact absurd h1 h; exact h1)
  go_ret2
  exact ⟨rfl, bnext (bnew _ _) hb⟩

theorem u8_info : (Try.prog.info? 5).map (fun i => (i.zero, i.size, i.bytes)) = some (some (.int .u8 0), 1, 1) := by kernel_rfl

set_option maxHeartbeats 400000 in
theorem opsFile_yes (x : Int) (hx : 0 ≤ x) (hx' : x ≤ 255) (v : Value) (zs : List Int) (w : World) (hv : SI w .u8 v zs) (h : progFits x zs.length) :
    Calls Try.prog 27 #[.agg #[.int .u8 x, v]] w fun e w' => ∃ u, e = .returned (.tuple #[u, .int .i64 0]) ∧ SI w' .u8 u (71 :: 88 :: x :: 0 :: zs) ∧ Below w.heap.size w w' := by
  obtain ⟨a, cap, rfl, hl, hm⟩ := hv.sr.form
  have hn : zs.length ≤ 2048 := by unfold progFits at h; omega
  go_enter Try.func27, Try.ntmps27
  go_wp2_with fail
  go_at_call 52; refine (opsFits_any x hx hx' a zs.length cap (by omega) _).mono ?_; rintro e w1 ⟨⟨c, rfl, hc⟩, hb⟩
  obtain rfl : c = 0 := by
    rcases hc with ⟨_, h1⟩ | ⟨h1, _⟩
    · exact h1
    · exact absurd h h1
  clear hc
  have B1 := bkeep hb (heap_alloc_last _ _)
  have hB := bnext (bnew _ _) hb
  have hv1 := hv.keep hB
  have c1 := rowcell B1
  have z1 := rowlt B1
  clear hb
  go_wp2_with (first
    | (refine wpList_append_sr rfl (.tmp 12) (.tmp 14) 43 rfl (some 15) rfl w.heap.size 5 (.int .u8 0) 1 1 Try.underlying43 u8_info rfl (by omega) (.slice (some ⟨w1.heap.size, 0, none⟩) 4 4) (.slice a zs.length cap) 4 zs.length
        [.int .u8 71, .int .u8 88, .int .u8 x, .int .u8 0] (zs.map (.int .u8)) rfl (World.ownsRow_lit w1 #[.int .u8 71, .int .u8 88, .int .u8 x, .int .u8 0] 4 (by omega) (by simp [maxLen]) rfl) rfl (hv1.sr.alloc _) (ints_one _ _) (by simp [maxLen]; omega) (by omega) (by simp; omega) ?_
       intro u w2 hown hg hat))
  go_ret2
  refine ⟨u, rfl, ⟨?_, ?_⟩, (bnewAfter hB _).grown hg (by simp; omega) (fun k hk => by simp [Value.ownBlock] at hk; omega)⟩
  · have := SR.of_own hown
    rw [show (71 :: 88 :: x :: 0 :: zs).length = 4 + zs.length by simp; omega]
    exact this
  · intro z hz
    simp only [List.mem_cons] at hz
    rcases hz with rfl | rfl | rfl | rfl | hz
    · exact u8_wf (by omega)
    · exact u8_wf (by omega)
    · exact u8_wf ⟨hx, hx'⟩
    · exact u8_wf (by omega)
    · exact hv.wf z hz
end Go.Proofs.Ytbdcbkmacpameaa
