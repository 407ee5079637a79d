/- Contracts of the functions of package ops on bytes and numbers. -/
import Derived.Test.YtapcbfeifeobhaaOpsB
namespace Go.Proofs.Ytapcbfeifeobhaa
open Go.RowKit

/-- A byte as a signed number. -/
def near (d : Int) : Int := if d ≤ 127 then d else d - 256
/-- A number of sixteen bits as a signed one. -/
def jump (d : Int) : Int := if d ≤ 32767 then d else d - 65536

set_option maxHeartbeats 400000 in
theorem opsUnpack_any (a b c d : Int) (w : World) :
    Calls Try.prog 38 #[.agg #[.int .u8 a, .int .u8 b, .int .u8 c, .int .u8 d]] w fun e w' =>
      e = .returned (.agg #[.int .u8 a, .int .u8 b, .int .u8 c, .int .u8 d]) ∧ Below w.heap.size w w' := by
  go_enter Try.func38, Try.ntmps38
  go_wp2
  exact bodyPost_ret (v := .agg #[.int .u8 a, .int .u8 b, .int .u8 c, .int .u8 d]) (by simp [results, Try.results38, go_sem]) rfl ⟨rfl, ((Below.refl _ _).alloc (Nat.le_refl _) _).alloc (by simp) _⟩

set_option maxHeartbeats 400000 in
theorem opsBytes_any (n : Int) (h0 : 0 ≤ n) (h1 : n ≤ 4294967295) (w : World) :
    Calls Try.prog 39 #[.int .u32 n] w fun e w' =>
      e = .returned (.agg #[.int .u8 (n % 256), .int .u8 (n / 256 % 256), .int .u8 (n / 65536 % 256), .int .u8 (n / 16777216 % 256)]) ∧ Below w.heap.size w w' := by
  go_enter Try.func39, Try.ntmps39
  go_wp2
  exact bodyPost_ret (v := .agg #[.int .u8 (n % 256), .int .u8 (n / 256 % 256), .int .u8 (n / 65536 % 256), .int .u8 (n / 16777216)]) (by simp [results, Try.results39, go_sem]) rfl
    ⟨by rw [show n / 16777216 % 256 = n / 16777216 by omega], (Below.refl _ _).alloc (Nat.le_refl _) _⟩

set_option maxHeartbeats 400000 in
theorem opsWide_any (a b c d : Int) (hc : 0 ≤ c) (hc' : c ≤ 255) (hd : 0 ≤ d) (hd' : d ≤ 255) (w : World) :
    Calls Try.prog 61 #[.agg #[.int .u8 a, .int .u8 b, .int .u8 c, .int .u8 d]] w fun e w' =>
      e = .returned (.int .u16 (c + 256 * d)) ∧ Below w.heap.size w w' := by
  go_enter Try.func61, Try.ntmps61
  go_wp2
  go_ret
  refine ⟨ret_int ?_, (Below.refl _ _).alloc (Nat.le_refl _) _⟩
  rw [u16_or8 c (d * 256) (by omega) (by omega) (by omega) (by omega) (by omega)]
  omega

set_option maxHeartbeats 400000 in
theorem opsSetWide_any (a b c d n : Int) (h0 : 0 ≤ n) (h1 : n ≤ 65535) (w : World) :
    Calls Try.prog 30 #[.agg #[.int .u8 a, .int .u8 b, .int .u8 c, .int .u8 d], .int .u16 n] w fun e w' =>
      e = .returned (.agg #[.int .u8 a, .int .u8 b, .int .u8 (n % 256), .int .u8 (n / 256)]) ∧ Below w.heap.size w w' := by
  go_enter Try.func30, Try.ntmps30
  go_wp2
  exact bodyPost_ret (v := .agg #[.int .u8 a, .int .u8 b, .int .u8 (n % 256), .int .u8 (n / 256)]) (by simp [results, Try.results30, go_sem]) rfl
    ⟨rfl, ((Below.refl _ _).alloc (Nat.le_refl _) _).alloc (by simp) _⟩

set_option maxHeartbeats 400000 in
theorem opsNear_any (a b c d : Int) (hd : 0 ≤ d) (hd' : d ≤ 255) (w : World) :
    Calls Try.prog 44 #[.agg #[.int .u8 a, .int .u8 b, .int .u8 c, .int .u8 d]] w fun e w' =>
      e = .returned (.int .i32 (near d)) ∧ Below w.heap.size w w' := by
  go_enter Try.func44, Try.ntmps44
  go_wp2
  go_ret
  refine ⟨ret_int ?_, (Below.refl _ _).alloc (Nat.le_refl _) _⟩
  unfold near
  simp [IntKind.wrap, IntKind.bits, IntKind.signed, wrap32]
  split <;> split <;> omega

set_option maxHeartbeats 400000 in
theorem opsJump_any (a b c d : Int) (hc : 0 ≤ c) (hc' : c ≤ 255) (hd : 0 ≤ d) (hd' : d ≤ 255) (w : World) :
    Calls Try.prog 60 #[.agg #[.int .u8 a, .int .u8 b, .int .u8 c, .int .u8 d]] w fun e w' =>
      e = .returned (.int .i64 (jump (c + 256 * d))) ∧ Below w.heap.size w w' := by
  go_enter Try.func60, Try.ntmps60
  go_wp2_with (go_at_call 61; refine (opsWide_any _ _ _ _ hc hc' hd hd' _).mono ?_; rintro e w1 ⟨rfl, hb1⟩)
  go_ret
  refine ⟨ret_int ?_, bnext (bnew _ _) hb1⟩
  unfold jump
  simp [IntKind.wrap, IntKind.bits, IntKind.signed, wrap64]
  split <;> split <;> omega
end Go.Proofs.Ytapcbfeifeobhaa
