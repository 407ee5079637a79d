/- A region that draws its order: a call and the making of a block come up at once. -/
import Derived.Test.YtapcbfeifeobhaaMapG
import Derived.Test.YtapcbfeifeobhaaHeld
set_option linter.unusedVariables false
set_option linter.unusedSimpArgs false
namespace Go.Proofs.Ytapcbfeifeobhaa
open Go.RowKit

section
variable {P : Program} {ops : Array Oper} {Q : Exit → Act → World → Prop} {md : Region.Mode} {oi ok : Oper} {fuel : Nat} {listed : Array Bool} {a : Act} {w : World} {S : World → Prop}
theorem exec_alloc' {ρ : Operand → Value} {o : Oper} (t : TypeId) (ho : o.op = .alloc t) (z : Value) (hz : ((P.info? t).bind (·.zero)) = some z) (w : World) :
    (execOp ρ o).run P w = .ok (.value (.pointer (some ⟨w.heap.size, 0, none⟩))) (w.alloc (.cells z.cells t)) := by
  cases hi : P.info? t with
  | none => simp [hi] at hz
  | some i =>
    simp only [hi, Option.bind_some] at hz
    unfold execOp
    simp [ho, Instr.alloc, zeroValue, typeInfo, hi, hz, newVar, newRow]

/-- A call (i) and the making of a block (k) come up at once: the call first, or the block first. -/
theorem callAlloc (i k : Nat) (hi : ops[i]? = some oi) (hk : ops[k]? = some ok) (gi : oi.guard = none) (gk : ok.guard = none) (hr : Region.ready md ops listed = [i, k]) (hr2 : Region.ready md ops (listed.setIfInBounds k true) = [i])
    (d dk : Tmp) (hd : oi.dst = some d) (hdk : ok.dst = some dk) (f : FuncId) (args : Array Value) (t : TypeId) (hop : ok.op = .alloc t) (z : Value) (hz : ((P.info? t).bind (·.zero)) = some z)
    (hrun : (execOp a.eval oi).run P w = .ok (.enter f args) w) (hrun2 : ∀ (M : Nat) w', (execOp (a.put (some dk) (.pointer (some ⟨M, 0, none⟩))).eval oi).run P w' = .ok (.enter f args) w')
    (hA : Calls P f args w (fun e w' => ∃ v, e = .returned v ∧ S w' ∧ wpAnyH P md ops Q S fuel (listed.setIfInBounds i true) (a.put (some d) v) w'))
    (hSB : S (w.alloc (.cells z.cells t)))
    (hB : ∀ M, M = w.heap.size → Calls P f args (w.alloc (.cells z.cells t)) (fun e w' => ∃ v, e = .returned v ∧ S w' ∧ ∀ fl, fl + 1 = fuel → wpAnyH P md ops Q S fl ((listed.setIfInBounds k true).setIfInBounds i true) ((a.put (some d) v).put (some dk) (.pointer (some ⟨M, 0, none⟩))) w'))
    (hfu : 0 < fuel) (hne : dk ≠ d) :
    wpAnyH P md ops Q S (fuel + 1) listed a w := by
  obtain ⟨fl, rfl⟩ : ∃ fl, fuel = fl + 1 := ⟨fuel - 1, by omega⟩
  refine wpAnyH_two i k hr ?_ ?_
  · exact callK i hi (wanted_none gi) (some d) hd f args hrun hA
  · refine loudK k hk (wanted_none gk) (some dk) hdk _ _ (exec_alloc' t hop z hz w) ⟨hSB, ?_⟩
    refine callH i hi (wanted_none gi) hr2 (some d) hd f args (hrun2 _ _) ((hB _ rfl).mono ?_)
    rintro e w' ⟨v, he, hS, h⟩
    refine ⟨v, he, hS, ?_⟩
    rw [put_comm _ dk d _ _ hne]
    exact h fl rfl
end
end Go.Proofs.Ytapcbfeifeobhaa
