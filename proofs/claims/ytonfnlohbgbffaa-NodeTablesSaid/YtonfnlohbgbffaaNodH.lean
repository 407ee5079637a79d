/- Nodes: the document's Check, two. -/
import Derived.Test.YtonfnlohbgbffaaNodG
set_option linter.unusedVariables false
set_option linter.unusedSimpArgs false
namespace Go.Proofs.Ytonfnlohbgbffaa
open Go.RowKit

set_option maxRecDepth 20000 in
theorem eqDirs (d0 d1 d2 d3 d4 d5 : Nat) (h0 : d0 ≤ 65535) (h1 : d1 ≤ 65535) (h2 : d2 ≤ 65535) (h3 : d3 ≤ 65535) (h4 : d4 ≤ 65535) (h5 : d5 ≤ 65535) (w : World) :
    (Op.equalIn 10000 25 (.agg #[.int .u16 d0, .int .u16 d1, .int .u16 d2, .int .u16 d3, .int .u16 d4, .int .u16 d5]) (.agg #[.int .u16 0, .int .u16 0, .int .u16 0, .int .u16 0, .int .u16 0, .int .u16 0])).run Try.prog w =
      .ok (decide (d0 = 0 ∧ d1 = 0 ∧ d2 = 0 ∧ d3 = 0 ∧ d4 = 0 ∧ d5 = 0)) w := by
  have wf : ∀ x : Nat, x ≤ 65535 → (Lit.int .u16 (x : Int)).wf = true := fun x hx => by simp [Lit.wf, IntKind.min, IntKind.max, IntKind.bits, IntKind.signed]; omega
  have e := equal_ints (P := Try.prog) (w := w) Try.underlying25 Try.underlying23 (by kernel_rfl) (by kernel_rfl) (xs := [(d0 : Int), d1, d2, d3, d4, d5]) (ys := [0, 0, 0, 0, 0, 0]) rfl rfl
    (fun z hz => by
      simp only [List.mem_cons, List.not_mem_nil, or_false] at hz
      rcases hz with rfl | rfl | rfl | rfl | rfl | rfl
      · exact wf _ h0
      · exact wf _ h1
      · exact wf _ h2
      · exact wf _ h3
      · exact wf _ h4
      · exact wf _ h5)
    (fun z hz => by
      simp only [List.mem_cons, List.not_mem_nil, or_false, or_self] at hz
      subst hz
      exact wf 0 (by omega))
  have hd : decide ([(d0 : Int), d1, d2, d3, d4, d5] = [0, 0, 0, 0, 0, 0]) = decide (d0 = 0 ∧ d1 = 0 ∧ d2 = 0 ∧ d3 = 0 ∧ d4 = 0 ∧ d5 = 0) := by
    rw [decide_eq_decide]
    simp only [List.cons.injEq, and_true]
    omega
  rw [hd] at e
  simp only [List.map_cons, List.map_nil] at e
  exact e

set_option maxRecDepth 20000 in
set_option maxHeartbeats 8000000 in
theorem refCheck_in (n : NodL) (ho : n.ok) (w : World) : Calls Try.prog 18 #[.agg (nodA n)] w fun e w' => e = .returned (.int .i64 (if n.right then 0 else 28)) ∧ Below w.heap.size w w' := by
  have HEQ := Lib.hid (eqDirs n.d0 n.d1 n.d2 n.d3 n.d4 n.d5 ho.d0 ho.d1 ho.d2 ho.d3 ho.d4 ho.d5)
  have hb1 := bnew w (.cells (nodA n) 27)
  have cc := rowcell (heap_alloc_last w (.cells (nodA n) 27))
  clear ho
  obtain ⟨kd, lk, gn, sz, d0, d1, d2, d3, d4, d5, sg, db⟩ := n
  unfold nodA at *
  simp only at HEQ cc
  have HB := Lib.hid hb1
  clear hb1
  obtain ⟨r, hr⟩ : ∃ r, r = sz % 16 := ⟨_, rfl⟩
  have f4 : (sz : Int) % 16 = r := by omega
  have f5 : (sz : Int).tmod 16 = r := by rw [Int.tmod_eq_emod_of_nonneg (by omega)]; omega
  go_enter Try.func18, Try.ntmps18
  rcases (show 5 < kd ∨ kd = 0 ∨ kd = 1 ∨ kd = 2 ∨ kd = 3 ∨ kd = 4 ∨ kd = 5 by omega) with hk | rfl | rfl | rfl | rfl | rfl | rfl
  · have a0 : ((kd : Int) == 0) = false := by rw [beq_eq_false_iff_ne]; omega
    have a1 : ((kd : Int) == 1) = false := by rw [beq_eq_false_iff_ne]; omega
    have a2 : ((kd : Int) == 2) = false := by rw [beq_eq_false_iff_ne]; omega
    have a3 : ((kd : Int) == 3) = false := by rw [beq_eq_false_iff_ne]; omega
    have a4 : ((kd : Int) == 4) = false := by rw [beq_eq_false_iff_ne]; omega
    have a5 : ((kd : Int) == 5) = false := by rw [beq_eq_false_iff_ne]; omega
    have hv : NodL.right ⟨kd, lk, gn, sz, d0, d1, d2, d3, d4, d5, sg, db⟩ = false := by
      unfold NodL.right
      simp only
      rw [if_neg (by omega), if_neg (by omega), if_neg (by omega), if_neg (by omega), if_neg (by omega), if_neg (by omega), Bool.and_false]
    rw [hv]
    clear hv hr f4 f5
    go_wp2_with fail
    go_ret
    exact ⟨rfl, HB.out⟩
  --ARMS
  · -- kind 0
    by_cases hN : lk = 0
    · have cN : ((lk : Int) != 0) = false := by rw [bne_eq_false_iff_eq]; omega
      by_cases hY : sz = 0
      · have cY : ((sz : Int) != 0) = false := by rw [bne_eq_false_iff_eq]; omega
        by_cases hG : sg = 0
        · have cG : ((sg : Int) != 0) = false := by rw [bne_eq_false_iff_eq]; omega
          by_cases hB : db = 0
          · have cB : ((db : Int) != 0) = false := by rw [bne_eq_false_iff_eq]; omega
            by_cases hD : d0 = 0 ∧ d1 = 0 ∧ d2 = 0 ∧ d3 = 0 ∧ d4 = 0 ∧ d5 = 0
            · have heq := fun w => (HEQ.out w).trans (show _ = Result.ok true w by rw [decide_eq_true hD])
              have hv : NodL.right ⟨0, lk, gn, sz, d0, d1, d2, d3, d4, d5, sg, db⟩ = true := by unfold NodL.right; rw [if_pos rfl]; exact decide_eq_true (by simp only [NodL.blank, NodL.mk.injEq, true_and, and_true]; omega)
              rw [hv]
              clear hv hr hN hY hG hB hD
              go_wp2_with fail
              go_ret
              exact ⟨rfl, HB.out⟩
            · have heq := fun w => (HEQ.out w).trans (show _ = Result.ok false w by rw [decide_eq_false hD])
              have hv : NodL.right ⟨0, lk, gn, sz, d0, d1, d2, d3, d4, d5, sg, db⟩ = false := by unfold NodL.right; rw [if_pos rfl]; exact decide_eq_false (by simp only [NodL.blank, NodL.mk.injEq, true_and, and_true]; omega)
              rw [hv]
              clear hv hr hN hY hG hB hD
              go_wp2_with fail
              go_ret
              exact ⟨rfl, HB.out⟩
          · have cB : ((db : Int) != 0) = true := by rw [bne_iff_ne]; omega
            have hv : NodL.right ⟨0, lk, gn, sz, d0, d1, d2, d3, d4, d5, sg, db⟩ = false := by unfold NodL.right; rw [if_pos rfl]; exact decide_eq_false (by simp only [NodL.blank, NodL.mk.injEq, true_and, and_true]; omega)
            rw [hv]
            clear hv hr hN hY hG hB
            go_wp2_with fail
            go_ret
            exact ⟨rfl, HB.out⟩
        · have cG : ((sg : Int) != 0) = true := by rw [bne_iff_ne]; omega
          have hv : NodL.right ⟨0, lk, gn, sz, d0, d1, d2, d3, d4, d5, sg, db⟩ = false := by unfold NodL.right; rw [if_pos rfl]; exact decide_eq_false (by simp only [NodL.blank, NodL.mk.injEq, true_and, and_true]; omega)
          rw [hv]
          clear hv hr hN hY hG
          go_wp2_with fail
          go_ret
          exact ⟨rfl, HB.out⟩
      · have cY : ((sz : Int) != 0) = true := by rw [bne_iff_ne]; omega
        have hv : NodL.right ⟨0, lk, gn, sz, d0, d1, d2, d3, d4, d5, sg, db⟩ = false := by unfold NodL.right; rw [if_pos rfl]; exact decide_eq_false (by simp only [NodL.blank, NodL.mk.injEq, true_and, and_true]; omega)
        rw [hv]
        clear hv hr hN hY
        go_wp2_with fail
        go_ret
        exact ⟨rfl, HB.out⟩
    · have cN : ((lk : Int) != 0) = true := by rw [bne_iff_ne]; omega
      have hv : NodL.right ⟨0, lk, gn, sz, d0, d1, d2, d3, d4, d5, sg, db⟩ = false := by unfold NodL.right; rw [if_pos rfl]; exact decide_eq_false (by simp only [NodL.blank, NodL.mk.injEq, true_and, and_true]; omega)
      rw [hv]
      clear hv hr hN
      go_wp2_with fail
      go_ret
      exact ⟨rfl, HB.out⟩
  · -- kind 1
    by_cases hL : lk = 0
    · have a1 : ((lk : Int) == 0) = true := by rw [beq_iff_eq]; omega
      have hv : NodL.right ⟨1, lk, gn, sz, d0, d1, d2, d3, d4, d5, sg, db⟩ = false := by simp [NodL.right]; omega
      rw [hv]
      clear hv hr hL
      go_wp2_with fail
      go_ret
      exact ⟨rfl, HB.out⟩
    · have a1 : ((lk : Int) == 0) = false := by rw [beq_eq_false_iff_ne]; omega
      by_cases hS : 16384 < sz
      · have bS : ((16384 : Int) < sz) := by omega
        have dS : decide ((16384 : Int) < sz) = true := decide_eq_true bS
        have hv : NodL.right ⟨1, lk, gn, sz, d0, d1, d2, d3, d4, d5, sg, db⟩ = false := by simp [NodL.right]; omega
        rw [hv]
        clear hv hr hL hS
        go_wp2_with fail
        go_ret
        exact ⟨rfl, HB.out⟩
      · have bS : ¬ ((16384 : Int) < sz) := by omega
        have dS : decide ((16384 : Int) < sz) = false := decide_eq_false bS
        have hv : NodL.right ⟨1, lk, gn, sz, d0, d1, d2, d3, d4, d5, sg, db⟩ = true := by simp [NodL.right]; omega
        rw [hv]
        clear hv hr hL hS
        go_wp2_with fail
        go_ret
        exact ⟨rfl, HB.out⟩
  · -- kind 2
    by_cases hM : ¬ r = 0
    · have a5 : ((r : Int) != 0) = true := by rw [bne_iff_ne]; omega
      have hv : NodL.right ⟨2, lk, gn, sz, d0, d1, d2, d3, d4, d5, sg, db⟩ = false := by simp only [NodL.right]; rw [if_neg (by omega), if_neg (by omega), if_pos trivial]; have e2 : decide (sz % 16 = 0) = false := decide_eq_false (by omega); rw [e2, Bool.and_false]
      rw [hv]
      clear hv hr hM
      go_wp2_with fail
      go_ret
      exact ⟨rfl, HB.out⟩
    · have a5 : ((r : Int) != 0) = false := by rw [bne_eq_false_iff_eq]; omega
      by_cases hL : lk = 0
      · have a1 : ((lk : Int) == 0) = true := by rw [beq_iff_eq]; omega
        have hv : NodL.right ⟨2, lk, gn, sz, d0, d1, d2, d3, d4, d5, sg, db⟩ = false := by simp only [NodL.right]; rw [if_neg (by omega)]; have e1 : decide (lk ≠ 0) = false := decide_eq_false (by omega); rw [e1]; rfl
        rw [hv]
        clear hv hr hM hL
        go_wp2_with fail
        go_ret
        exact ⟨rfl, HB.out⟩
      · have a1 : ((lk : Int) == 0) = false := by rw [beq_eq_false_iff_ne]; omega
        by_cases hS : 16384 < sz
        · have bS : ((16384 : Int) < sz) := by omega
          have dS : decide ((16384 : Int) < sz) = true := decide_eq_true bS
          have hv : NodL.right ⟨2, lk, gn, sz, d0, d1, d2, d3, d4, d5, sg, db⟩ = false := by simp only [NodL.right]; rw [if_neg (by omega), if_neg (by omega), if_pos trivial]; have e1 : decide (lk ≠ 0) = true := decide_eq_true (by omega); have e2 : decide (sz % 16 = 0) = true := decide_eq_true (by omega); rw [e1, e2]; have e3 : decide (sz ≤ 16384) = false := decide_eq_false (by omega); rw [e3]; rfl
          rw [hv]
          clear hv hr hM hL hS
          go_wp2_with fail
          go_ret
          exact ⟨rfl, HB.out⟩
        · have bS : ¬ ((16384 : Int) < sz) := by omega
          have dS : decide ((16384 : Int) < sz) = false := decide_eq_false bS
          have hv : NodL.right ⟨2, lk, gn, sz, d0, d1, d2, d3, d4, d5, sg, db⟩ = true := by simp only [NodL.right]; rw [if_neg (by omega), if_neg (by omega), if_pos trivial]; have e1 : decide (lk ≠ 0) = true := decide_eq_true (by omega); have e2 : decide (sz % 16 = 0) = true := decide_eq_true (by omega); rw [e1, e2]; have e3 : decide (sz ≤ 16384) = true := decide_eq_true (by omega); rw [e3]; rfl
          rw [hv]
          clear hv hr hM hL hS
          go_wp2_with fail
          go_ret
          exact ⟨rfl, HB.out⟩
  · -- kind 3
    by_cases hZ : sz = 0
    · have a2 : ((sz : Int) == 0) = true := by rw [beq_iff_eq]; omega
      have a3 : ((sz : Int) != 0) = false := by rw [bne_eq_false_iff_eq]; omega
      have bZ : ((sz : Int) < 1) := by omega
      have dZ : decide ((sz : Int) < 1) = true := decide_eq_true bZ
      have bS : ¬ ((16384 : Int) < sz) := by omega
      have dS : decide ((16384 : Int) < sz) = false := decide_eq_false bS
      by_cases hL : lk = 0
      · have a1 : ((lk : Int) == 0) = true := by rw [beq_iff_eq]; omega
        have hv : NodL.right ⟨3, lk, gn, sz, d0, d1, d2, d3, d4, d5, sg, db⟩ = false := by simp [NodL.right]; omega
        rw [hv]
        clear hv hr hZ hL
        go_wp2_with fail
        go_ret
        exact ⟨rfl, HB.out⟩
      · have a1 : ((lk : Int) == 0) = false := by rw [beq_eq_false_iff_ne]; omega
        have hv : NodL.right ⟨3, lk, gn, sz, d0, d1, d2, d3, d4, d5, sg, db⟩ = true := by simp [NodL.right]; omega
        rw [hv]
        clear hv hr hZ hL
        go_wp2_with fail
        go_ret
        exact ⟨rfl, HB.out⟩
    · have a2 : ((sz : Int) == 0) = false := by rw [beq_eq_false_iff_ne]; omega
      have a3 : ((sz : Int) != 0) = true := by rw [bne_iff_ne]; omega
      have bZ : ¬ ((sz : Int) < 1) := by omega
      have dZ : decide ((sz : Int) < 1) = false := decide_eq_false bZ
      have hv : NodL.right ⟨3, lk, gn, sz, d0, d1, d2, d3, d4, d5, sg, db⟩ = false := by simp [NodL.right]; omega
      rw [hv]
      clear hv hr hZ
      go_wp2_with fail
      go_ret
      exact ⟨rfl, HB.out⟩
  · -- kind 4
    by_cases hZ : sz = 0
    · have a2 : ((sz : Int) == 0) = true := by rw [beq_iff_eq]; omega
      have a3 : ((sz : Int) != 0) = false := by rw [bne_eq_false_iff_eq]; omega
      have bZ : ((sz : Int) < 1) := by omega
      have dZ : decide ((sz : Int) < 1) = true := decide_eq_true bZ
      have hv : NodL.right ⟨4, lk, gn, sz, d0, d1, d2, d3, d4, d5, sg, db⟩ = false := by simp [NodL.right]; omega
      rw [hv]
      clear hv hr hZ
      go_wp2_with fail
      go_ret
      exact ⟨rfl, HB.out⟩
    · have a2 : ((sz : Int) == 0) = false := by rw [beq_eq_false_iff_ne]; omega
      have a3 : ((sz : Int) != 0) = true := by rw [bne_iff_ne]; omega
      have bZ : ¬ ((sz : Int) < 1) := by omega
      have dZ : decide ((sz : Int) < 1) = false := decide_eq_false bZ
      by_cases hX : 60 < sz
      · have bX : ((60 : Int) < sz) := by omega
        have dX : decide ((60 : Int) < sz) = true := decide_eq_true bX
        have hv : NodL.right ⟨4, lk, gn, sz, d0, d1, d2, d3, d4, d5, sg, db⟩ = false := by simp [NodL.right]; omega
        rw [hv]
        clear hv hr hZ hX
        go_wp2_with fail
        go_ret
        exact ⟨rfl, HB.out⟩
      · have bX : ¬ ((60 : Int) < sz) := by omega
        have dX : decide ((60 : Int) < sz) = false := decide_eq_false bX
        have bS : ¬ ((16384 : Int) < sz) := by omega
        have dS : decide ((16384 : Int) < sz) = false := decide_eq_false bS
        by_cases hL : lk = 0
        · have a1 : ((lk : Int) == 0) = true := by rw [beq_iff_eq]; omega
          have hv : NodL.right ⟨4, lk, gn, sz, d0, d1, d2, d3, d4, d5, sg, db⟩ = false := by simp [NodL.right]; omega
          rw [hv]
          clear hv hr hZ hX hL
          go_wp2_with fail
          go_ret
          exact ⟨rfl, HB.out⟩
        · have a1 : ((lk : Int) == 0) = false := by rw [beq_eq_false_iff_ne]; omega
          have hv : NodL.right ⟨4, lk, gn, sz, d0, d1, d2, d3, d4, d5, sg, db⟩ = true := by simp [NodL.right]; omega
          rw [hv]
          clear hv hr hZ hX hL
          go_wp2_with fail
          go_ret
          exact ⟨rfl, HB.out⟩
  · -- kind 5
    by_cases hZ : sz = 0
    · have a2 : ((sz : Int) == 0) = true := by rw [beq_iff_eq]; omega
      have a3 : ((sz : Int) != 0) = false := by rw [bne_eq_false_iff_eq]; omega
      have bZ : ((sz : Int) < 1) := by omega
      have dZ : decide ((sz : Int) < 1) = true := decide_eq_true bZ
      have bS : ¬ ((16384 : Int) < sz) := by omega
      have dS : decide ((16384 : Int) < sz) = false := decide_eq_false bS
      by_cases hL : lk = 0
      · have a1 : ((lk : Int) == 0) = true := by rw [beq_iff_eq]; omega
        have hv : NodL.right ⟨5, lk, gn, sz, d0, d1, d2, d3, d4, d5, sg, db⟩ = false := by simp [NodL.right]; omega
        rw [hv]
        clear hv hr hZ hL
        go_wp2_with fail
        go_ret
        exact ⟨rfl, HB.out⟩
      · have a1 : ((lk : Int) == 0) = false := by rw [beq_eq_false_iff_ne]; omega
        have hv : NodL.right ⟨5, lk, gn, sz, d0, d1, d2, d3, d4, d5, sg, db⟩ = true := by simp [NodL.right]; omega
        rw [hv]
        clear hv hr hZ hL
        go_wp2_with fail
        go_ret
        exact ⟨rfl, HB.out⟩
    · have a2 : ((sz : Int) == 0) = false := by rw [beq_eq_false_iff_ne]; omega
      have a3 : ((sz : Int) != 0) = true := by rw [bne_iff_ne]; omega
      have bZ : ¬ ((sz : Int) < 1) := by omega
      have dZ : decide ((sz : Int) < 1) = false := decide_eq_false bZ
      have hv : NodL.right ⟨5, lk, gn, sz, d0, d1, d2, d3, d4, d5, sg, db⟩ = false := by simp [NodL.right]; omega
      rw [hv]
      clear hv hr hZ
      go_wp2_with fail
      go_ret
      exact ⟨rfl, HB.out⟩
  --ENDARMS
end Go.Proofs.Ytonfnlohbgbffaa
