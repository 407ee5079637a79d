/- Memory of a process: Load, Store, Read, Write. -/
import Derived.Test.YtapcbfeifeobhaaSpcE
set_option linter.unusedVariables false
set_option linter.unusedSimpArgs false
namespace Go.Proofs.Ytapcbfeifeobhaa
open Go.RowKit

section
variable {w w' w0 : World} {base gs g gm lab : Nat} {ps : List (Nat × Nat)} {v : Value} {a : Option Addr} {us : Nat → Nat} {F F' : Nat × Nat → Option (Nat → Nat)} {rs : List RegL}
/-- The pages' bytes turn: the same pages are taken, others keep their bytes. -/
structure SpUpd (F F' : Nat × Nat → Option (Nat → Nat)) (ps : List (Nat × Nat)) (m : Nat → Nat) : Prop where
  same : ∀ p, (F' p).isSome = (F p).isSome
  out : ∀ p, p ∉ ps → F' p = F p
  mem : ∀ i, i < 64 * ps.length → spMem F' ps i = m i
theorem SpUpd.refl (F : Nat × Nat → Option (Nat → Nat)) (ps : List (Nat × Nat)) : SpUpd F F ps (spMem F ps) := ⟨fun _ => rfl, fun _ _ => rfl, fun _ _ => rfl⟩
theorem SpUpd.ok {m : Nat → Nat} (h : SpUpd F F' ps m) (ok : SpOk F ps) : SpOk F' ps := ⟨ok.p1, fun p hp => by rw [h.same]; exact ok.is p hp, ok.nd, ok.len⟩
theorem SpUpd.cont {m : Nat → Nat} (h : SpUpd F F' ps m) (hc : Cont us F) : Cont us F' := fun l n => by
  have e := h.same (l, n)
  have c := hc l n
  cases h1 : F (l, n) with
  | none => rw [h1] at e; cases h2 : F' (l, n) with
    | none => simpa [h1] using c
    | some y => rw [h2] at e; cases e
  | some x => rw [h1] at e; cases h2 : F' (l, n) with
    | none => rw [h2] at e; cases e
    | some y => simpa [h1] using c
theorem getD_inj (h : ps.Nodup) {i j : Nat} (hi : i < ps.length) (hj : j < ps.length) (e : ps.getD i (0, 0) = ps.getD j (0, 0)) : i = j := by
  rw [List.getD_eq_getElem?_getD, List.getD_eq_getElem?_getD, List.getElem?_eq_getElem hi, List.getElem?_eq_getElem hj] at e
  exact (List.getElem_inj h).1 e
theorem spPut_mem (ok : SpOk F ps) {i j c : Nat} (hi : i < 64 * ps.length) (hj : j < 64 * ps.length) : spMem (spPut F ps i c) ps j = if j = i then c else spMem F ps j := by
  unfold spMem spPut putF
  by_cases e : ps.getD (j / 64) (0, 0) = ps.getD (i / 64) (0, 0)
  · have hq := getD_inj ok.nd (by omega) (by omega) e
    rw [if_pos e, e]
    simp only [Option.getD_some, setB]
    by_cases e2 : j % 64 = i % 64
    · rw [if_pos e2, if_pos (by omega)]
    · rw [if_neg e2, if_neg (by omega)]
  · rw [if_neg e, if_neg (fun h => e (by rw [h]))]
theorem SpUpd.put {m : Nat → Nat} (h : SpUpd F F' ps m) (ok : SpOk F ps) {i : Nat} (hi : i < 64 * ps.length) (c : Nat) : SpUpd F (spPut F' ps i c) ps fun j => if j = i then c else m j where
  same := fun p => by
    have hm := (h.ok ok).is _ ((h.ok ok).at (k := i / 64) (by omega))
    unfold spPut putF
    split
    · rename_i e; rw [e, ← h.same, hm]; rfl
    · exact h.same p
  out := fun p hp => by
    unfold spPut putF
    rw [if_neg (fun e => hp (by rw [e]; exact ok.at (by omega)))]
    exact h.out p hp
  mem := fun j hj => by
    rw [spPut_mem (h.ok ok) hi hj]
    split
    · rfl
    · exact h.mem j hj
end
end Go.Proofs.Ytapcbfeifeobhaa
