/- The law RuleKeeps: its walk. -/
import Derived.Test.YtlclainjefchlaaRuleHA
import Derived.Test.YtlclainjefchlaaRuleHB
import Derived.Test.YtlclainjefchlaaRuleHC
import Derived.Test.YtlclainjefchlaaRuleHD
set_option linter.unusedVariables false
namespace Go.Proofs.Ytlclainjefchlaa
open Go.RowKit

theorem ruleKeeps_walk (W : World) (v0 v1 v2 v3 v4 : Value) (o0 : Arg Try.prog W 26 v0) (o1 : Arg Try.prog W 3 v1) (o2 : Arg Try.prog W 3 v2) (o3 : Arg Try.prog W 5 v3) (o4 : Arg Try.prog W 4 v4) :
    Calls Try.prog 5 #[v0, v1, v2, v3, v4] W fun e w' => e = .returned (.bool true) ∧ Below W.heap.size W w' := by
  obtain ⟨sz, hsz⟩ := SizeV.of_arg o0
  obtain ⟨a, rfl, hwa⟩ := Arg.int Try.underlying3 o1
  obtain ⟨b, rfl, hwb⟩ := Arg.int Try.underlying3 o2
  obtain ⟨n, rfl, hwn⟩ := Arg.int Try.underlying5 o3
  obtain ⟨raw, rfl⟩ := Arg.bool Try.underlying4 o4
  have hn8 := wf_u8 hwn
  cases raw
  · exact ruleKeeps_A W v0 sz hsz a b n hn8 trivial
  · by_cases ha : inB a (sizeRegs sz).length = true
    · by_cases hb : inB b (sizeRegs sz).length = true
      · exact ruleKeeps_B W v0 sz hsz a b n hn8 ⟨ha, hb⟩
      · exact ruleKeeps_D W v0 sz hsz a b n hn8 ⟨ha, hb⟩
    · exact ruleKeeps_C W v0 sz hsz a b n hn8 ha
end Go.Proofs.Ytlclainjefchlaa
