/- Labels: Awake. -/
import Derived.Test.YtmieioaklgdbdaaDoorLabH
set_option linter.unusedVariables false
set_option linter.unusedSimpArgs false
namespace Go.Proofs.YtmieioaklgdbdaaDoor
open Go.RowKit

theorem text_ex : textL (3, 4097) = [51, 58, 48, 44, 49, 50] := by
  have h : catsL 4097 = [0, 12] := by decide
  unfold textL
  rw [h]
  simp [catsText, signL, digL]

set_option maxHeartbeats 2000000 in
theorem labAwake_any (w : World) (hT : Tab w) : Calls Tryd.prog 4 #[] w fun e w' => e = .returned (.bool true) ∧ Below w.heap.size w w' := by
  go_enter Tryd.func4, Tryd.ntmps4
  go_wp2_with fail
  go_at_call 9
  have hsi : SI (w.alloc (.cells #[.int .i64 0, .int .i64 12] 3)) .i64 (.slice (some ⟨w.heap.size, 0, none⟩) 2 2) [0, 12] :=
    ⟨SR.of_own (World.ownsRow_lit w #[.int .i64 0, .int .i64 12] 2 (Nat.le_refl _) (by simp [maxLen]) rfl), by simp; exact ⟨i64_wf (by omega), i64_wf (by omega)⟩⟩
  refine (labMake_any 3 _ [0, 12] _ hsi (by simp)).mono ?_
  have hok : makeOk 3 [0, 12] := ⟨by omega, by intro c hc; simp at hc; rcases hc with rfl | rfl <;> exact ⟨by omega, by omega⟩⟩
  rintro e w1 ⟨⟨_, he⟩ | ⟨hno, _⟩, hb1⟩
  case inr => exact absurd hok hno
  subst he
  have hB1 := bnext (bnew _ _) hb1
  rw [show labV ((3 : Int).toNat, orAll [0, 12]) = labV (3, 4097) from by rw [show orAll [0, 12] = 4097 by decide]; rfl]
  unfold labV
  clear hsi hb1 hok
  go_wp2_with fail
  have hB2 := hB1.alloc hB1.size (.cells #[.int .u8 3, .int .u16 4097] 24)
  refine (labText_any (3, 4097) ⟨by simp, by simp⟩ _ (hT.keep hB2)).mono ?_
  rintro e w2 ⟨he, hb2⟩; subst he
  have hB3 := hB2.trans (hb2.mono hB2.size)
  rw [text_ex]
  go_wp2_with fail
  refine (labLeq_any (1, 4) (3, 20) ⟨by simp, by simp⟩ ⟨by simp, by simp⟩ _).mono ?_
  rintro e w3 ⟨he, hb3⟩; subst he
  have hB4 := hB3.trans (hb3.mono hB3.size)
  rw [show leqL (1, 4) (3, 20) = true by decide]
  go_wp2_with fail
  refine (labLeq_any (1, 4) (3, 16) ⟨by simp, by simp⟩ ⟨by simp, by simp⟩ _).mono ?_
  rintro e w4 ⟨he, hb4⟩; subst he
  have hB5 := hB4.trans (hb4.mono hB4.size)
  rw [show leqL (1, 4) (3, 16) = false by decide]
  go_wp2_with fail
  go_ret
  exact ⟨rfl, hB5⟩
end Go.Proofs.YtmieioaklgdbdaaDoor
