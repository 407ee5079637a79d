/- The laws NodeSpreads and NodeAll: their walks, with what they call. -/
import Derived.Test.YtbdcbkmacpameaaBase
namespace Go.Proofs.Ytbdcbkmacpameaa
open Go.RowKit

/-- How many blocks of data a length takes. -/
def spreadD (n : Int) : Int := (max n 0 + 63) / 64
/-- How many blocks of pointers so many blocks of data take. -/
def spreadP (d : Int) : Int := if d ≤ 6 then 0 else if d ≤ 38 then 1 else 2 + (d - 38 + 31) / 32

theorem spreadP_lo {d : Int} (h : d ≤ 6) : spreadP d = 0 := if_pos h
theorem spreadP_mid {d : Int} (h : 6 < d) (h' : d ≤ 38) : spreadP d = 1 := by unfold spreadP; rw [if_neg (by omega), if_pos h']
theorem spreadP_hi {d : Int} (h : 38 < d) : spreadP d = 2 + (d - 38 + 31) / 32 := by unfold spreadP; rw [if_neg (by omega), if_neg (by omega)]

set_option maxHeartbeats 400000 in
theorem nodeSpread_any (n : Int) (h1 : n ≤ 1000000) (w : World) :
    Calls Try.prog 33 #[.int .i64 n] w fun e w' => e = .returned (.tuple #[.int .i64 (spreadD n), .int .i64 (spreadP (spreadD n))]) ∧ w = w' := by
  by_cases hn : n < 0
  · go_enter Try.func33, Try.ntmps33
    go_wp2
    (go_ret2; refine ⟨ret_pair (val_int ?_) (val_int ?_), rfl⟩)
    · unfold spreadD; omega
    · rw [spreadP_lo (by unfold spreadD; omega)]
  · have hd : spreadD n = (n + 64 - 1) / 64 := by unfold spreadD; omega
    have H := Lib.hid hd
    clear hd
    go_enter Try.func33, Try.ntmps33
    go_wp2
    all_goals (go_ret2; refine ⟨ret_pair (val_int H.out.symm) (val_int ?_), rfl⟩)
    all_goals rw [H.out]
    · rw [spreadP_hi (by omega)]; omega
    · rw [spreadP_mid (by omega) (by omega)]
    · rw [spreadP_lo (by omega)]

set_option maxHeartbeats 400000 in
theorem nodeCheck_awake (w : World) :
    Calls Try.prog 53 #[.agg #[.int .u8 1, .int .u8 1, .int .u16 0, .int .u32 0, .int .u16 0, .int .u16 0, .int .u16 0, .int .u16 0, .int .u16 0, .int .u16 0, .int .u16 0, .int .u16 0]] w
      fun e w' => e = .returned (.int .i64 0) ∧ Below w.heap.size w w' := by
  go_enter Try.func53, Try.ntmps53
  go_wp2
  go_ret
  exact ⟨rfl, bnew _ _⟩

set_option maxHeartbeats 400000 in
theorem refSpread_any (n : Int) (h1 : n ≤ 100000) (w : World) :
    Calls Try.prog 34 #[.int .i64 n] w fun e w' => e = .returned (.tuple #[.int .i64 (spreadD n), .int .i64 (spreadP (spreadD n))]) ∧ w = w' := by
  go_enter Try.func34, Try.ntmps34
  go_wp2
  go_loop [4] (fun v => ∃ k : Nat, ((k : Int) - 1) * 64 < max n 0 ∧ v = .int .i64 k) (fun v => (spreadD n - intOf v).toNat)
  case atStart => exact ⟨0, by omega, rfl⟩
  case round =>
    obtain ⟨k, hk, rfl⟩ := hrel
    by_cases hlt : (k : Int) * 64 < n
    · go_wp2
      go_round
      case rel => exact ⟨k + 1, by omega, by go_num⟩
      case measure => simp [intOf]; unfold spreadD; omega
    · have hd : spreadD n = k := by unfold spreadD; omega
      have H := Lib.hid hd
      clear hd
      go_wp2
      · (go_ret2; refine ⟨ret_pair (val_int H.out.symm) (val_int ?_), rfl⟩)
        rw [H.out, spreadP_lo (by omega)]
      · (go_ret2; refine ⟨ret_pair (val_int H.out.symm) (val_int ?_), rfl⟩)
        rw [H.out, spreadP_mid (by omega) (by omega)]
      · have h38 : 38 < (k : Int) := by assumption
        go_loop [5] (fun v => ∃ m : Nat, ((m : Int) - 1) * 32 < (k : Int) - 38 ∧ v = .int .i64 m) (fun v => ((k : Int) - intOf v).toNat)
        case atStart => exact ⟨0, by omega, rfl⟩
        case round =>
          obtain ⟨m, hm, rfl⟩ := hrel
          by_cases hlt2 : (m : Int) * 32 < (k : Int) - 38
          · go_wp2
            go_round
            case rel => exact ⟨m + 1, by omega, by go_num⟩
            case measure => simp [intOf]; omega
          · go_wp2
            (go_ret2; refine ⟨ret_pair (val_int H.out.symm) (val_int ?_), rfl⟩)
            rw [H.out, spreadP_hi (by omega)]
            omega
end Go.Proofs.Ytbdcbkmacpameaa
