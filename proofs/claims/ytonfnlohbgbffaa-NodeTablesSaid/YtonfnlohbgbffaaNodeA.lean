/- The laws NodeSpreads and NodeAll: their walks, with what they call. -/
import Derived.Test.YtonfnlohbgbffaaBase
namespace Go.Proofs.Ytonfnlohbgbffaa
open Go.RowKit

/-- How many blocks of data a length takes. -/
def spreadD (n : Int) : Int := (max n 0 + 63) / 64
/-- How many blocks of pointers so many blocks of data take. -/
def spreadP (d : Int) : Int := if d ≤ 6 then 0 else if d ≤ 38 then 1 else 2 + (d - 38 + 31) / 32

theorem spreadP_lo {d : Int} (h : d ≤ 6) : spreadP d = 0 := if_pos h
theorem spreadP_mid {d : Int} (h : 6 < d) (h' : d ≤ 38) : spreadP d = 1 := by unfold spreadP; rw [if_neg (by omega), if_pos h']
theorem spreadP_hi {d : Int} (h : 38 < d) : spreadP d = 2 + (d - 38 + 31) / 32 := by unfold spreadP; rw [if_neg (by omega), if_neg (by omega)]

set_option maxHeartbeats 400000 in
theorem nodeSpread_any (n : Int) (h1 : n ≤ 1000000) (w : World) :
    Calls Try.prog 64 #[.int .i64 n] w fun e w' => e = .returned (.tuple #[.int .i64 (spreadD n), .int .i64 (spreadP (spreadD n))]) ∧ w = w' := by
  by_cases hn : n < 0
  · go_enter Try.func64, Try.ntmps64
    go_wp2
    (go_ret2; refine ⟨ret_pair (val_int ?_) (val_int ?_), rfl⟩)
    · unfold spreadD; omega
    · rw [spreadP_lo (by unfold spreadD; omega)]
  · have hd : spreadD n = (n + 64 - 1) / 64 := by unfold spreadD; omega
    have H := Lib.hid hd
    clear hd
    go_enter Try.func64, Try.ntmps64
    go_wp2
    all_goals (go_ret2; refine ⟨ret_pair (val_int H.out.symm) (val_int ?_), rfl⟩)
    all_goals rw [H.out]
    · rw [spreadP_hi (by omega)]; omega
    · rw [spreadP_mid (by omega) (by omega)]
    · rw [spreadP_lo (by omega)]

set_option maxHeartbeats 400000 in
theorem nodeCheck_awake (w : World) :
    Calls Try.prog 20 #[.agg #[.int .u8 1, .int .u8 1, .int .u16 0, .int .u32 0, .int .u16 0, .int .u16 0, .int .u16 0, .int .u16 0, .int .u16 0, .int .u16 0, .int .u16 0, .int .u16 0]] w
      fun e w' => e = .returned (.int .i64 0) ∧ Below w.heap.size w w' := by
  go_enter Try.func20, Try.ntmps20
  go_wp2
  go_ret
  exact ⟨rfl, bnew _ _⟩

end Go.Proofs.Ytonfnlohbgbffaa
