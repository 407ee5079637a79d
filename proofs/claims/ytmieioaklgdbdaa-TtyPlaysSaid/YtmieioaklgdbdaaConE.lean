/- Configurations: one is made (conf.New). -/
import Derived.Test.YtmieioaklgdbdaaConD
set_option linter.unusedVariables false
set_option linter.unusedSimpArgs false
namespace Go.Proofs.Ytmieioaklgdbdaa
open Go.RowKit

/-- Labels and marks that make a configuration. -/
structure okConf (rs : List RegL) (ms : List (Nat × Nat)) : Prop where
  n1 : 1 ≤ rs.length
  n2 : rs.length ≤ 64
  each : ∀ r ∈ rs, okR rs.length r
  names : (rs.map (·.name)).Nodup
  labs : (rs.map (·.lab)).Nodup
  low : ∀ h : 0 < rs.length, rs[0].lab = (0, 0)
  up : ∀ i (h : i < rs.length) (h2 : rs[i].cl < rs.length), leqL rs[i].lab rs[rs[i].cl].lab = true
  m1 : ms.length ≤ 1000
  marks : ∀ m ∈ ms, ∃ h : m.1 < rs.length, 1 ≤ m.2 ∧ m.2 ≤ rs[m.1].no
  mnd : ms.Nodup

theorem geosOf_le : ∀ (rs : List RegL) (many : Nat), (∀ r ∈ rs, okR many r) → (geosOf rs).2 ≤ 32 + 577 * rs.length := by
  intro rs many h
  have key : ∀ (l : List RegL) (s : List GeoL × Nat), (∀ r ∈ l, okR many r) → (l.foldl geoStep s).2 ≤ s.2 + 577 * l.length := by
    intro l
    induction l with
    | nil => intro s _; simp
    | cons r l ih =>
      intro s hs
      rw [List.foldl_cons]
      have h1 := ih (geoStep s r) (fun q hq => hs q (by simp [hq]))
      have h2 := hs r (by simp)
      have b1 := h2.bl2
      have b2 := h2.no2
      have h3 : (geoStep s r).2 ≤ s.2 + 577 := by
        show (geoOf s.2 r).data + r.bl ≤ _
        unfold geoOf
        simp only
        omega
      simp only [List.length_cons]
      omega
  exact key rs ([], 32) h
theorem take_next {α : Type} (l : List α) (k : Nat) (hk : k < l.length) : l.take (k + 1) = l.take k ++ [l[k]] := by
  rw [List.take_add_one, List.getElem?_eq_getElem hk]
  rfl
theorem nodup_take {α β : Type} {f : α → β} {l : List α} (h : (l.map f).Nodup) (k : Nat) (hk : k < l.length) : ∀ q ∈ l.take k, f q ≠ f l[k] := by
  intro q hq he
  obtain ⟨i, hi, rfl⟩ := List.getElem_of_mem hq
  simp only [List.length_take] at hi
  rw [List.getElem_take] at he
  have := (List.pairwise_iff_getElem.1 h) i k (by simp; omega) (by simpa using hk) (by omega)
  simp at this
  exact this he
theorem markF_snoc (ms : List (Nat × Nat)) (p a : Nat × Nat) : putF (markF ms) p true a = markF (ms ++ [p]) a := by
  unfold putF markF
  by_cases h : a = p
  · simp [h]
  · simp [h]
end Go.Proofs.Ytmieioaklgdbdaa
