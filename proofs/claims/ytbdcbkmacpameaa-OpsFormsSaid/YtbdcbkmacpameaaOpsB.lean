/- The law OpsNames: its walk, with what it calls. -/
import Derived.Test.YtbdcbkmacpameaaOpsA
namespace Go.Proofs.Ytbdcbkmacpameaa
open Go.RowKit

set_option maxHeartbeats 400000 in
theorem opsPack_any (a b c d : Int) (w : World) :
    Calls Try.prog 21 #[.agg #[.int .u8 a, .int .u8 b, .int .u8 c, .int .u8 d]] w fun e w' =>
      e = .returned (.agg #[.int .u8 a, .int .u8 b, .int .u8 c, .int .u8 d]) ∧ Below w.heap.size w w' := by
  go_enter Try.func21, Try.ntmps21
  go_wp2
  exact bodyPost_ret (v := .agg #[.int .u8 a, .int .u8 b, .int .u8 c, .int .u8 d]) (by simp [results, Try.results21, go_sem]) rfl ⟨rfl, ((Below.refl _ _).alloc (Nat.le_refl _) _).alloc (by simp) _⟩

theorem opsName_39 (w : World) :
    Calls Try.prog 18 #[.int .u8 39] w fun e w' => e = .returned (.string ⟨#[115, 121, 115]⟩) ∧ Below w.heap.size w w' :=
  opsName_any 39 (by omega) (by omega) w

set_option maxHeartbeats 400000 in
theorem opsAwake_any (w : World) :
    Calls Try.prog 15 #[] w fun e w' => e = .returned (.bool true) ∧ Below w.heap.size w w' := by
  go_enter Try.func15, Try.ntmps15
  go_wp2_with (first
    | (go_at_call 21; refine (opsPack_any _ _ _ _ _).mono ?_; rintro e w1 ⟨rfl, hb1⟩)
    | (go_at_call 18; refine (opsName_39 _).mono ?_; rintro e w2 ⟨rfl, hb2⟩)
    | (refine wpList_by rfl (some 4) rfl (exec_eql rfl rfl rfl (by kernel_rfl) (b := true) (by kernel_rfl)) ?_))
  go_ret
  exact ⟨rfl, hb1.trans (hb2.mono hb1.size)⟩

set_option maxHeartbeats 400000 in
theorem opsNames_walk (W : World) (v0 : Value) (o0 : Arg Try.prog W 9 v0) :
    Calls Try.prog 3 #[v0] W fun e w' => e = .returned (.bool true) ∧ Below W.heap.size W w' := by
  obtain ⟨s, rfl, hs⟩ := Arg.string Try.underlying9 o0
  go_enter Try.func3, Try.ntmps3
  go_wp2_with fail
  go_at_call 15; refine (opsAwake_any _).mono ?_; rintro e w1 ⟨rfl, hb1⟩
  go_wp2_with fail
  go_at_call 16; refine (opsNamed_any s _).mono ?_; rintro e w2 ⟨k, rfl, hk, hb2⟩
  have hb12 := hb1.trans (hb2.mono hb1.size)
  rcases Nat.eq_zero_or_pos k with rfl | h0
  · go_wp2_with fail
    go_at_call 17; refine (refNamed_any s _).mono ?_; rintro e w3 ⟨l, rfl, hl, hb3⟩; obtain rfl := IsNamed.unique hk hl
    go_wp2_with fail
    go_ret
    exact ⟨rfl, hb12.trans (hb3.mono hb12.size)⟩
  · rw [show decide (0 < k) = true by simpa using h0]
    go_wp2_with fail
    go_at_call 17; refine (refNamed_any s _).mono ?_; rintro e w3 ⟨l, rfl, hl, hb3⟩; obtain rfl := IsNamed.unique hk hl
    obtain ⟨h40, hn⟩ : k < 40 ∧ opName ((k : Int).toNat) = s := by
      rcases hk with ⟨_, h1, h2, _⟩ | ⟨h1, _⟩
      · exact ⟨h1, by simpa using h2⟩
      · omega
    have hb123 := hb12.trans (hb3.mono hb12.size)
    clear hk hl
    have H := Lib.hid hn
    clear hn
    go_wp2_with fail
    go_at_call 18; refine (opsName_any _ (by omega) (by omega) _).mono ?_; rintro e w4 ⟨rfl, hb4⟩
    rw [H.out]
    go_wp2_with fail
    go_ret
    exact ⟨rfl, hb123.trans (hb4.mono hb123.size)⟩
end Go.Proofs.Ytbdcbkmacpameaa
