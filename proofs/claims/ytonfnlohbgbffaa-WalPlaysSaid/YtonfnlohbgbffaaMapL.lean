/- How many entries a map has; clear. -/
import Derived.Test.YtonfnlohbgbffaaRow
set_option linter.unusedVariables false
set_option linter.unusedSimpArgs false
namespace Go.Proofs.Ytonfnlohbgbffaa
open Go.RowKit
open Go.Maps (Keyed)

/-- How many entries. -/
def mapN (w : World) (g : Nat) : Nat := match w.heap[g]? with | some (.map E _) => E.size | _ => 0
theorem nodup_len {α : Type} : ∀ (l m : List α), l.Nodup → (∀ x ∈ l, x ∈ m) → l.length ≤ m.length
  | [], _, _, _ => by simp
  | a :: l, m, hn, hs => by
    obtain ⟨m1, m2, rfl⟩ := List.append_of_mem (hs a (by simp))
    rw [List.nodup_cons] at hn
    have := nodup_len l (m1 ++ m2) hn.2 (fun x hx => by
      have h1 := hs x (by simp [hx])
      simp only [List.mem_append, List.mem_cons] at h1 ⊢
      rcases h1 with h1 | h1 | h1
      · exact .inl h1
      · subst h1; exact absurd hx hn.1
      · exact .inr h1)
    simp at this ⊢
    omega

section
variable {κ α : Type} [DecidableEq κ] {P : Program} {k t e : TypeId} {w w' : World} {g : Nat} {kv : κ → Value} {vv : α → Value} {F : κ → Option α}
theorem mapN_keep (hk : w'.heap[g]? = w.heap[g]?) : mapN w' g = mapN w g := by unfold mapN; rw [hk]
omit [DecidableEq κ] in
theorem MK.nodup (h : MK w P k g kv vv F) : ∃ E c, w.heap[g]? = some (.map E c) ∧ mapN w g = E.size ∧ (E.toList.map (·.key)).Nodup := by
  obtain ⟨E, c, h1, h2, _⟩ := h
  refine ⟨E, c, h1, by unfold mapN; rw [h1], ?_⟩
  unfold List.Nodup
  rw [List.pairwise_map]
  exact h2
omit [DecidableEq κ] in
theorem MK.len_le (h : MK w P k g kv vv F) (L : List κ) (hL : ∀ a, F a ≠ none → a ∈ L) : mapN w g ≤ L.length := by
  obtain ⟨E, c, h1, h2, h3⟩ := h.nodup
  obtain ⟨E', c', h1', _, _, h4, _⟩ := h
  rw [h1] at h1'
  cases h1'
  have := nodup_len _ (L.map kv) h3 (fun x hx => by
    obtain ⟨y, hy, rfl⟩ := List.mem_map.1 hx
    obtain ⟨a, b, e1, e2, _⟩ := h4 y hy
    rw [e2]
    exact List.mem_map_of_mem (hL a (by rw [e1]; simp)))
  simp at this
  omega
omit [DecidableEq κ] in
theorem MK.len_ge (h : MK w P k g kv vv F) (hi : ∀ a b, kv a = kv b → a = b) (L : List κ) (hn : L.Nodup) (hL : ∀ a ∈ L, F a ≠ none) : L.length ≤ mapN w g := by
  obtain ⟨E, c, h1, h2, h3⟩ := h.nodup
  obtain ⟨E', c', h1', _, _, _, h5, _⟩ := h
  rw [h1] at h1'
  cases h1'
  have := nodup_len (L.map kv) (E.toList.map (·.key)) (by
    unfold List.Nodup
    rw [List.pairwise_map]
    exact hn.imp (fun h e => h (hi _ _ e))) (fun x hx => by
    obtain ⟨a, ha, rfl⟩ := List.mem_map.1 hx
    cases hf : F a with
    | none => exact absurd hf (hL a ha)
    | some b =>
      obtain ⟨x, hx, e2, _⟩ := h5 a b hf
      rw [← e2]
      exact List.mem_map_of_mem hx)
  simp at this
  omega
omit [DecidableEq κ] in
theorem MK.run_len (h : MK w P k g kv vv F) (ht : P.underlying t = some (.map k e)) (ty : TypeId) : (Builtin.len_ #[t] ty #[.map (some g)]).run P w = .ok (.int .i64 (mapN w g)) w := by
  obtain ⟨E, c, h1, h2, h3⟩ := h.nodup
  rw [h2]
  simp [Builtin.len_, run_underlying ht, MapKept.run_getObj_map h1, goInt]
omit [DecidableEq κ] in
theorem MK.exec_len {ρ : Operand → Value} {o : Oper} (h : MK w P k g kv vv F) (ht : P.underlying t = some (.map k e)) (m : Operand) (ho : o.op = .call { callee := .builtin .len, args := #[m], argTypes := #[t] }) (hm : ρ m = .map (some g)) :
    (execOp ρ o).run P w = .ok (.value (.int .i64 (mapN w g))) w := by
  unfold execOp
  simp only [ho, resolve, invoke, builtin, Sem.run_bind, Sem.run_pure, List.map_toArray, List.map_cons, List.map_nil, hm, h.run_len ht, Result.andThen_ok]
omit [DecidableEq κ] in
theorem MB.exec_clear {ρ : Operand → Value} {o : Oper} (h : MB w P k g kv vv F) (ht : P.underlying t = some (.map k e)) (m : Operand) (ho : o.op = .call { callee := .builtin .clear, args := #[m], argTypes := #[t] }) (hm : ρ m = .map (some g)) :
    ∃ w', (execOp ρ o).run P w = .ok (.value (.tuple #[])) w' ∧ MB w' P k g kv vv (fun _ : κ => none) ∧ One w w' (some g) := by
  obtain ⟨E, c, h1, h2, h3⟩ := h.mp.nodup
  refine ⟨Go.ChangeMaps.setBlock w g (.map #[] c), ?_, ⟨⟨#[], c, Go.ChangeMaps.heap_setBlock_same h1 _, by simp, by simp, by simp, fun a b h => (by cases h), by simp⟩, ⟨#[], c, Go.ChangeMaps.heap_setBlock_same h1 _, by simp, by simp⟩⟩, one_setBlock h1⟩
  unfold execOp
  have hr : (Builtin.clear_ #[t] o.type #[.map (some g)]).run P w = .ok (.tuple #[]) (Go.ChangeMaps.setBlock w g (.map #[] c)) := by
    simp [Builtin.clear_, run_underlying ht, MapKept.run_getObj_map h1, MapKept.run_setObj_map _ h1, Result.andThen, Go.ChangeMaps.setBlock]
  simp only [ho, resolve, invoke, builtin, Sem.run_bind, Sem.run_pure, List.map_toArray, List.map_cons, List.map_nil, hm, hr, Result.andThen_ok]
end
end Go.Proofs.Ytonfnlohbgbffaa
