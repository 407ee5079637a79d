/- Operations in whatever order: each has a fact of its value that stands while memory grows. -/
import Derived.Test.YtapcbfeifeobhaaMapG
set_option linter.unusedVariables false
set_option linter.unusedSimpArgs false
namespace Go.Proofs.Ytapcbfeifeobhaa
open Go.RowKit

section
variable {P : Program} {ops : Array Oper} {Q : Exit → Act → World → Prop} {md : Region.Mode} {S : Array Bool → World → Prop}
theorem mixF (n : Nat) (D : List (Nat × Tmp)) (l : Array Bool) (full : Nat) (need : Nat → Nat) (masks : List Nat) (hchk : mixCheck md ops D l full need masks = true) (hD1 : (D.map (·.1)).Nodup) (hD2 : (D.map (·.2)).Nodup)
    (h0 : masks.contains 0 = true) (hn : leftF D 0 = n) (a : Act) (rest : Nat) (S0 : World → Prop) (F : Nat → Value → World → Prop) (hS : ∀ l w, S0 w → S l w) (hF : ∀ i x w w', F i x w → S0 w → Below w.heap.size w w' → F i x w')
    (step : ∀ d ∈ D, ∀ (m : Nat) (v : Nat → Value) (w : World), (need d.1 &&& m) = need d.1 → m.testBit d.1 = false → S0 w → (∀ e ∈ D, m.testBit e.1 = true → F e.1 (v e.1) w) → ∀ K : Act → World → Prop,
      (∀ x w', Below w.heap.size w w' → S0 w' → F d.1 x w' → K ((fillF D m v a).put (some d.2) x) w') → wpOp P ops Q d.1 K (fillF D m v a) w)
    (hend : ∀ (v : Nat → Value) (w : World), S0 w → (∀ e ∈ D, F e.1 (v e.1) w) → wpAnyG P md ops Q S rest (listF D full l) (fillF D full v a) w)
    (w : World) (hw : S0 w) : wpAnyG P md ops Q S (rest + n) l a w := by
  have hfull : ∀ e ∈ D, full.testBit e.1 = true := by
    unfold mixCheck at hchk
    simp only [Bool.and_eq_true, List.all_eq_true] at hchk
    exact hchk.1.2
  refine mixG0 n D l full need masks hchk hD1 hD2 h0 hn a rest (fun m v w => S0 w ∧ ∀ e ∈ D, m.testBit e.1 = true → F e.1 (v e.1) w) (fun m v w h => hS _ w h.1) ?_ ?_ w ⟨hw, fun e he hb => ?_⟩
  · intro d hd m v w hneed hno hI K hK
    refine step d hd m v w hneed hno hI.1 hI.2 K (fun x w' hb hs hf => hK x w' ⟨hs, fun e he hbit => ?_⟩)
    by_cases hed : e.1 = d.1
    · rw [hed, updN_same]; exact hf
    · rw [updN_other v x hed]
      rw [bit_other m hed] at hbit
      exact hF _ _ _ _ (hI.2 e he hbit) hI.1 hb
  · intro v w hI
    exact hend v w hI.1 (fun e he => hI.2 e he (hfull e he))
  · rw [Nat.zero_testBit] at hb; cases hb

/-- The value in a slot that has been filled, that has not. -/
theorem fillF_done {D : List (Nat × Tmp)} {m : Nat} {v : Nat → Value} {a : Act} (d : Nat × Tmp) (hd : d ∈ D) (hD : (D.map (·.2)).Nodup) (need : Nat) (hbit : (2 ^ d.1 &&& need) = 2 ^ d.1) (hneed : (need &&& m) = need) (hs : d.2 < a.tmps.size) {x : Value} (hx : v d.1 = x) :
    (fillF D m v a).tmps.getD d.2 undef = x := by
  rw [← hx]
  refine fill_get D a hD d hd ?_ hs
  have h1 : need.testBit d.1 = true := bit_need hbit
  rw [← hneed] at h1
  rw [Nat.testBit_and] at h1
  exact (Bool.and_eq_true _ _ ▸ h1).2
theorem bit_done {m need i : Nat} (hbit : (2 ^ i &&& need) = 2 ^ i) (hneed : (need &&& m) = need) : m.testBit i = true := by
  have h1 : need.testBit i = true := bit_need hbit
  rw [← hneed] at h1
  rw [Nat.testBit_and] at h1
  exact (Bool.and_eq_true _ _ ▸ h1).2
end
end Go.Proofs.Ytapcbfeifeobhaa
