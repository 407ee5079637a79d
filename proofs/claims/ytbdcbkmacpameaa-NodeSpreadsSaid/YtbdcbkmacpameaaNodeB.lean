/- The laws NodeSpreads and NodeAll: their walks. -/
import Derived.Test.YtbdcbkmacpameaaNodeA
namespace Go.Proofs.Ytbdcbkmacpameaa
open Go.RowKit

set_option maxHeartbeats 400000 in
theorem nodeAwake_any (w : World) :
    Calls Try.prog 32 #[] w fun e w' => e = .returned (.bool true) ∧ Below w.heap.size w w' := by
  have h1 : ∀ w, Calls Try.prog 33 #[.int .i64 1000] w fun e w' => e = .returned (.tuple #[.int .i64 16, .int .i64 1]) ∧ w = w' := fun w => nodeSpread_any 1000 (by omega) w
  have h2 : ∀ w, Calls Try.prog 33 #[.int .i64 3000] w fun e w' => e = .returned (.tuple #[.int .i64 47, .int .i64 3]) ∧ w = w' := fun w => nodeSpread_any 3000 (by omega) w
  have H1 := Lib.hid h1
  have H2 := Lib.hid h2
  clear h1 h2
  go_enter Try.func32, Try.ntmps32
  go_wp2_with fail
  refine (H1.out _).mono ?_; rintro e w1 ⟨rfl, rfl⟩
  go_wp2_with fail
  refine (H2.out _).mono ?_; rintro e w1 ⟨rfl, rfl⟩
  go_wp2_with fail
  refine (nodeCheck_awake _).mono ?_; rintro e w1 ⟨rfl, hb⟩
  go_wp2_with fail
  go_ret
  exact ⟨rfl, hb⟩

set_option maxHeartbeats 400000 in
theorem nodeSpreads_walk (W : World) (v0 : Value) (o0 : Arg Try.prog W 3 v0) :
    Calls Try.prog 7 #[v0] W fun e w' => e = .returned (.bool true) ∧ Below W.heap.size W w' := by
  obtain ⟨n, rfl, hn⟩ := Arg.int Try.underlying3 o0
  clear o0 hn
  by_cases hbig : 100000 < n
  · go_enter Try.func7, Try.ntmps7
    go_wp2_with fail
    refine (nodeAwake_any _).mono ?_; rintro e w1 ⟨rfl, hb⟩
    go_wp2_with fail
    go_ret
    exact ⟨rfl, hb⟩
  · have c1 := nodeSpread_any n (by omega)
    have c2 := refSpread_any n (by omega)
    have c3 := nodeSpread_any (max n 0 + 64) (by omega)
    have hD : 0 ≤ spreadD n ∧ spreadD n ≤ 2000 := by unfold spreadD; omega
    rw [show spreadD (max n 0 + 64) = spreadD n + 1 by unfold spreadD; omega] at c3
    have hP : 0 ≤ spreadP (spreadD n) ∧ spreadP (spreadD n) ≤ 2000 ∧ spreadP (spreadD n) ≤ spreadP (spreadD n + 1) ∧ spreadP (spreadD n + 1) ≤ spreadP (spreadD n) + 2 := by
      unfold spreadP; omega
    generalize spreadP (spreadD n + 1) = q at *
    generalize spreadP (spreadD n) = p at *
    generalize spreadD n = d at *
    obtain ⟨hD0, hD1⟩ := hD
    obtain ⟨hP0, hP1, hP2, hP3⟩ := hP
    have C1 := Lib.hid c1
    have C2 := Lib.hid c2
    have C3 := Lib.hid c3
    clear c1 c2 c3
    go_enter Try.func7, Try.ntmps7
    go_wp2_with fail
    refine (nodeAwake_any _).mono ?_; rintro e w1 ⟨rfl, hb⟩
    go_wp2_with fail
    refine (C1.out _).mono ?_; rintro e w2 ⟨rfl, rfl⟩
    go_wp2_with fail
    refine (C2.out _).mono ?_; rintro e w2 ⟨rfl, rfl⟩
    go_wp2_with fail
    · rw [show (64 : Int) = max n 0 + 64 by omega]
      refine (C3.out _).mono ?_; rintro e w2 ⟨rfl, rfl⟩
      go_wp2_with fail
      go_ret
      exact ⟨rfl, hb⟩
    · rw [show n + 64 = max n 0 + 64 by omega]
      refine (C3.out _).mono ?_; rintro e w2 ⟨rfl, rfl⟩
      go_wp2_with fail
      go_ret
      exact ⟨rfl, hb⟩

set_option maxHeartbeats 400000 in
theorem nodeAll_walk (W : World) (v0 : Value) (o0 : Arg Try.prog W 31 v0) :
    Calls Try.prog 8 #[v0] W fun e w' => e = .returned (.bool true) ∧ Below W.heap.size W w' := by
  obtain ⟨n, rfl, hn⟩ := Arg.int Try.underlying31 o0
  have h0 : 0 ≤ n ∧ n ≤ 65535 := by simp [Lit.wf, IntKind.min, IntKind.max, IntKind.bits, IntKind.signed] at hn; omega
  obtain ⟨h0, h1⟩ := h0
  clear o0 hn
  obtain ⟨m, hm⟩ : ∃ m : Int, n % 16385 = m := ⟨_, rfl⟩
  have hm0 : 0 ≤ m ∧ m ≤ 16384 := by omega
  have c1 := nodeSpread_any m (by omega)
  have hd : (0 ≤ spreadD m ∧ spreadD m ≤ 256 ∧ m ≤ spreadD m * 64 ∧ (spreadD m - 1) * 64 < max m 1) := by unfold spreadD; omega
  generalize spreadD m = d at *
  obtain ⟨hd0, hd1, hd2, hd3⟩ := hd
  have hp : spreadP d = 0 ∧ d ≤ 6 ∨ spreadP d = 1 ∧ 6 < d ∧ d ≤ 38 ∨ (3 ≤ spreadP d ∧ spreadP d ≤ 20 ∧ 38 < d ∧ d ≤ 38 + (spreadP d - 2) * 32 ∧ 38 + (spreadP d - 2) * 32 < d + 32) := by
    unfold spreadP; omega
  generalize spreadP d = p at *
  have C1 := Lib.hid c1
  have M := Lib.hid hm
  clear c1 hm
  obtain ⟨hm0, hm1⟩ := hm0
  rcases hp with ⟨rfl, hp⟩ | ⟨rfl, hp, hp'⟩ | ⟨hp, hp', h3, h4, h5⟩
  all_goals
    go_enter Try.func8, Try.ntmps8
    go_wp2_with fail
    refine (nodeAwake_any _).mono ?_; rintro e w1 ⟨rfl, hb⟩
    go_wp2_with fail
    rw [M.out]
    refine (C1.out _).mono ?_; rintro e w2 ⟨rfl, rfl⟩
    go_wp2_with fail
  all_goals (first | (go_ret; exact ⟨rfl, hb⟩) | (go_ret; refine ⟨ret_bool ?_, hb⟩; simp; omega))
end Go.Proofs.Ytbdcbkmacpameaa
