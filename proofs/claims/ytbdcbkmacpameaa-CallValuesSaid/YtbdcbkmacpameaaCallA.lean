/- The law CallValues: contracts of what it calls. -/
import Derived.Test.YtbdcbkmacpameaaBase
set_option linter.unusedVariables false
namespace Go.Proofs.Ytbdcbkmacpameaa
open Go.RowKit

theorem and_i32_mask (n : Int) : bits .and .i32 n 2147483647 = n % 2147483648 := by
  unfold bits
  have e : (BitVec.ofInt 32 n &&& BitVec.ofInt 32 2147483647).toNat = (n % 4294967296).toNat % 2147483648 := by
    rw [BitVec.toNat_and, BitVec.toNat_ofInt, show (BitVec.ofInt 32 2147483647).toNat = 2 ^ 31 - 1 from by decide, Nat.and_two_pow_sub_one_eq_mod]
    simp
  show IntKind.i32.wrap ((BitVec.ofInt 32 n &&& BitVec.ofInt 32 2147483647).toNat : Int) = _
  rw [e, IntKind.wrap_i32]
  omega

set_option maxHeartbeats 400000 in
theorem callValue_ok (n : Int) (h0 : -2147483648 ≤ n) (h1 : n ≤ 2147483647) (w : World) :
    Calls Try.prog 30 #[.int .i32 n, .int .i64 0] w fun e w' => e = .returned (.int .u32 (n % 2147483648)) ∧ w = w' := by
  have hm := and_i32_mask n
  go_enter Try.func30, Try.ntmps30
  go_wp2
  go_ret
  refine ⟨ret_int ?_, rfl⟩
  first | rfl | (simp [IntKind.wrap, IntKind.bits, IntKind.signed]; omega)

set_option maxHeartbeats 400000 in
theorem callValue_err (n c : Int) (h0 : -1000 ≤ c) (h1 : c ≤ 1000) (h : c ≠ 0) (w : World) :
    Calls Try.prog 30 #[.int .i32 n, .int .i64 c] w fun e w' => e = .returned (.int .u32 ((-c) % 4294967296)) ∧ w = w' := by
  have hb : (c != 0) = true := by rw [bne_iff_ne]; exact h
  go_enter Try.func30, Try.ntmps30
  go_wp2
  go_ret
  exact ⟨rfl, rfl⟩

theorem mode_bits : ∀ n : Nat, n < 32 → (bits .and .u32 n 6 != 0) = decide (2 ≤ n % 8) ∧ (bits .and .u32 n 7 == 0) = decide (n % 8 = 0) ∧ (bits .and .u32 n 24 != 0) = decide (8 ≤ n) := by decide +kernel

/-- Is it a way to open? -/
def modeOk (n : Int) : Prop := n < 32 ∧ 0 < n % 8 ∧ (n < 8 ∨ 1 < n % 8)

set_option maxHeartbeats 400000 in
theorem callMode_yes (n : Int) (h0 : 0 ≤ n) (h : modeOk n) (w : World) :
    Calls Try.prog 31 #[.int .u32 n] w fun e w' => e = .returned (.int .i64 0) ∧ w = w' := by
  obtain ⟨h1, h2, h3⟩ := h
  obtain ⟨m, rfl⟩ := Int.eq_ofNat_of_zero_le h0
  obtain ⟨b1, b2, b3⟩ := mode_bits m (by omega)
  rw [show decide (m % 8 = 0) = false by simp; omega] at b2
  rcases h3 with h3 | h3
  · rw [show decide (8 ≤ m) = false by simp; omega] at b3
    by_cases h4 : 2 ≤ m % 8
    · rw [show decide (2 ≤ m % 8) = true by simp; omega] at b1
      go_enter Try.func31, Try.ntmps31
      go_wp2
      go_ret
      exact ⟨rfl, rfl⟩
    · rw [show decide (2 ≤ m % 8) = false by simp; omega] at b1
      go_enter Try.func31, Try.ntmps31
      go_wp2
      go_ret
      exact ⟨rfl, rfl⟩
  · rw [show decide (2 ≤ m % 8) = true by simp; omega] at b1
    go_enter Try.func31, Try.ntmps31
    go_wp2
    all_goals (go_ret; exact ⟨rfl, rfl⟩)

set_option maxHeartbeats 400000 in
theorem callMode_no (n : Int) (h0 : 0 ≤ n) (hm : n ≤ 4294967295) (h : ¬ modeOk n) (w : World) :
    Calls Try.prog 31 #[.int .u32 n] w fun e w' => e = .returned (.int .i64 7) ∧ w = w' := by
  unfold modeOk at h
  by_cases h1 : 31 < n
  · go_enter Try.func31, Try.ntmps31
    go_wp2
    go_ret
    exact ⟨rfl, rfl⟩
  · obtain ⟨m, rfl⟩ := Int.eq_ofNat_of_zero_le h0
    obtain ⟨b1, b2, b3⟩ := mode_bits m (by omega)
    by_cases h2 : m % 8 = 0
    · rw [show decide (m % 8 = 0) = true by simp; omega] at b2
      clear h
      go_enter Try.func31, Try.ntmps31
      go_wp2
      all_goals (go_ret; exact ⟨rfl, rfl⟩)
    · rw [show decide (m % 8 = 0) = false by simp; omega] at b2
      rw [show decide (2 ≤ m % 8) = false by simp; omega] at b1
      rw [show decide (8 ≤ m) = true by simp; omega] at b3
      clear h
      go_enter Try.func31, Try.ntmps31
      go_wp2
      all_goals (go_ret; exact ⟨rfl, rfl⟩)

set_option maxHeartbeats 400000 in
theorem callAwake_any (w : World) :
    Calls Try.prog 28 #[] w fun e w' => e = .returned (.bool true) ∧ w = w' := by
  have h1 : ∀ w, Calls Try.prog 30 #[.int .i32 0, .int .i64 13] w fun e w' => e = .returned (.int .u32 4294967283) ∧ w = w' := fun w => callValue_err 0 13 (by omega) (by omega) (by omega) w
  have H := Lib.hid h1
  clear h1
  go_enter Try.func28, Try.ntmps28
  go_wp2_with fail
  refine (H.out _).mono ?_; rintro e w1 ⟨rfl, rfl⟩
  go_wp2_with fail
  go_ret
  exact ⟨rfl, rfl⟩

set_option maxHeartbeats 1000000 in
theorem callStat_any (l n g k s z : Int) (hl : 0 ≤ l ∧ l ≤ 255) (hn : 0 ≤ n ∧ n ≤ 65535) (hg : 0 ≤ g ∧ g ≤ 65535) (hk : 0 ≤ k ∧ k ≤ 255) (hs : 0 ≤ s ∧ s ≤ 255) (hz : 0 ≤ z ∧ z ≤ 4294967295) (w : World) :
    Calls Try.prog 29 #[.agg #[.int .u8 l, .int .u16 n, .int .u16 g, .int .u8 k, .int .u8 s, .int .u32 z]] w fun e w' =>
      e = .returned (.agg #[.int .u8 l, .int .u8 k, .int .u8 s, .int .u8 0, .int .u8 (n % 256), .int .u8 (n / 256), .int .u8 (g % 256), .int .u8 (g / 256), .int .u8 (z % 256), .int .u8 (z / 256 % 256), .int .u8 (z / 65536 % 256), .int .u8 (z / 16777216)]) ∧ Below w.heap.size w w' := by
  obtain ⟨hl, hl'⟩ := hl
  obtain ⟨hn, hn'⟩ := hn
  obtain ⟨hg, hg'⟩ := hg
  obtain ⟨hk, hk'⟩ := hk
  obtain ⟨hs, hs'⟩ := hs
  obtain ⟨hz, hz'⟩ := hz
  go_enter Try.func29, Try.ntmps29
  go_wp2
  exact bodyPost_ret (v := .agg #[.int .u8 l, .int .u8 k, .int .u8 s, .int .u8 0, .int .u8 (n % 256), .int .u8 (n / 256), .int .u8 (g % 256), .int .u8 (g / 256), .int .u8 (z % 256), .int .u8 (z / 256 % 256), .int .u8 (z / 65536 % 256), .int .u8 (z / 16777216)])
    (by simp [results, Try.results29, go_sem]) rfl ⟨rfl, bnewAfter (bnewAfter (bnew _ _) _) _⟩
end Go.Proofs.Ytbdcbkmacpameaa
