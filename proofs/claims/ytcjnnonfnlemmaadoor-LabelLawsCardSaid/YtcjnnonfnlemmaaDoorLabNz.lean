/- The law LabelLaws: its walk. -/
import Derived.Test.YtcjnnonfnlemmaaDoorLabN1
import Derived.Test.YtcjnnonfnlemmaaDoorLabN2
import Derived.Test.YtcjnnonfnlemmaaDoorLabN3
import Derived.Test.YtcjnnonfnlemmaaDoorLabN4
import Derived.Test.YtcjnnonfnlemmaaDoorLabN5
set_option linter.unusedVariables false
set_option linter.unusedSimpArgs false
namespace Go.Proofs.YtcjnnonfnlemmaaDoor
open Go.RowKit

theorem labelLaws_walk (W : World) (hT : Tab W) (v0 v1 v2 : Value) (o0 : Arg Tryd.prog W 25 v0) (o1 : Arg Tryd.prog W 25 v1) (o2 : Arg Tryd.prog W 25 v2) :
    Calls Tryd.prog 6 #[v0, v1, v2] W fun e w' => e = .returned (.bool true) ∧ Below W.heap.size W w' := by
  obtain ⟨p, rfl, hp⟩ := lab_of_arg ⟨_, Tryd.underlying25⟩ (by kernel_rfl) o0
  obtain ⟨q, rfl, hq⟩ := lab_of_arg ⟨_, Tryd.underlying25⟩ (by kernel_rfl) o1
  obtain ⟨r, rfl, hr⟩ := lab_of_arg ⟨_, Tryd.underlying25⟩ (by kernel_rfl) o2
  clear o0 o1 o2
  cases hab : leqL p q
  · exact labelLaws_1 W hT p q r hp hq hr hab
  · cases hba : leqL q p <;> cases hbc : leqL q r
    · exact labelLaws_2 W hT p q r hp hq hr ⟨hab, hba, hbc⟩
    · exact labelLaws_3 W hT p q r hp hq hr ⟨hab, hba, hbc⟩
    · exact labelLaws_4 W hT p q r hp hq hr ⟨hab, hba, hbc⟩
    · exact labelLaws_5 W hT p q r hp hq hr ⟨hab, hba, hbc⟩
end Go.Proofs.YtcjnnonfnlemmaaDoor
