/- Configurations: one label more (conf.add). -/
import Derived.Test.YtmieioaklgdbdaaConB
set_option linter.unusedVariables false
set_option linter.unusedSimpArgs false
namespace Go.Proofs.Ytmieioaklgdbdaa
open Go.RowKit

theorem nameF_none {rs : List RegL} {s : ByteArray} (h : ∀ q ∈ rs, q.name ≠ s) : nameF rs s = none := by
  unfold nameF
  rw [List.findIdx?_eq_none_iff]
  intro q hq
  simpa using h q hq
theorem labF_none {rs : List RegL} {p : Nat × Nat} (h : ∀ q ∈ rs, q.lab ≠ p) : labF rs p = none := by
  unfold labF
  rw [List.findIdx?_eq_none_iff]
  intro q hq
  simpa using h q hq
theorem nameF_snoc {rs : List RegL} {r : RegL} (h : ∀ q ∈ rs, q.name ≠ r.name) (s : ByteArray) : putF (nameF rs) r.name rs.length s = nameF (rs ++ [r]) s := by
  unfold putF
  by_cases hs : s = r.name
  · rw [if_pos hs, hs]
    have := nameF_none h
    unfold nameF at this ⊢
    rw [List.findIdx?_append, this]
    simp
  · rw [if_neg hs]
    unfold nameF
    rw [List.findIdx?_append]
    have : ¬ r.name = s := fun e => hs e.symm
    simp [this]
theorem labF_snoc {rs : List RegL} {r : RegL} (h : ∀ q ∈ rs, q.lab ≠ r.lab) (s : Nat × Nat) : putF (labF rs) r.lab rs.length s = labF (rs ++ [r]) s := by
  unfold putF
  by_cases hs : s = r.lab
  · rw [if_pos hs, hs]
    have := labF_none h
    unfold labF at this ⊢
    rw [List.findIdx?_append, this]
    simp
  · rw [if_neg hs]
    unfold labF
    rw [List.findIdx?_append]
    have : ¬ r.lab = s := fun e => hs e.symm
    simp [this]

/-! ### Region 14: two literals, an append: what holds whatever has come up -/
def addD : List (Nat × Tmp) := [(8, 112), (15, 119), (9, 113)]
def addNeed (i : Nat) : Nat := if i = 9 then 2 ^ 8 else 0
def addMasks : List Nat := [0, 256, 32768, 33024, 768, 33536]
section
variable {B : Nat} {w w' w'' : World} {g gT gN gL : Nat} {v m u : Value} {rs : List RegL} {gs : List GeoL} {nf : ByteArray → Option Nat} {lf : Nat × Nat → Option Nat} {tf : Nat × Nat → Option Bool} {ms : List (Nat × Nat)} {r : RegL} {x9 H0 : Nat} {bC bR bG : Obj} {mask : Nat} {vv : Nat → Value}
end
theorem regCells_snoc (rs : List RegL) (r : RegL) : regCells (rs ++ [r]) = regCells rs ++ (regArr r).toList := by simp [regCells]
theorem geoCells_snoc (gs : List GeoL) (g : GeoL) : geoCells (gs ++ [g]) = geoCells gs ++ (geoArr g).toList := by simp [geoCells]
/-- A literal of one struct as a slice. -/
theorem SR.lit {w : World} {g n : Nat} {cs : Array Value} {t : TypeId} {fr : Nat × Nat} (h : w.heap[g]? = some (.cells cs t fr)) (hn : cs.size = n) : SR w (.slice (some ⟨g, 0, none⟩) 1 1) 1 n cs.toList := by
  refine ⟨by simp [hn], .inr ⟨_, 1, rfl, Nat.le_refl _, by simp [maxLen], fun _ => ⟨rfl, rowlt h, fun i hi => ?_⟩⟩⟩
  show w.cell? ⟨g, 0 + i, none⟩ = _
  rw [Nat.zero_add, rowcell h]
  simp
/-- What owns a row is one cell. -/
theorem own_oneCell {w : World} {B : Nat} {e : TypeId} {size : Nat} {v : Value} {n : Nat} {xs : List Value} (h : w.ownsRow B e size v n xs) : v.oneCell' = true := by
  rcases h.2 with ⟨rfl, _⟩ | ⟨g0, c0, cur, rfl, _⟩ <;> rfl
theorem Stage.late1 {F0 F1 : World → Prop} {g : Nat} {w : World} (h : F0 w) : ∀ l : Array Bool, l.getD g true = true → Stage F0 [(g, F1)] l w := fun l hl => Stage.late h hl
theorem geo_snoc (rs : List RegL) (r : RegL) (n3 n7 n9 : Nat) (Z3 : n3 = (r.bl + 511) / 512) (Z7 : n7 = (r.no * 32 + 63) / 64) (Z9 : n9 = (geosOf rs).2 + n3 + n7 + r.bl) :
    geoArr (geoOf (geosOf rs).2 r) = #[.int .i64 (geosOf rs).2, .int .i64 (n3 : Nat), .int .i64 (n7 : Nat), .int .i64 ((geosOf rs).2 + (n3 : Nat) + (n7 : Nat)), .int .i64 r.bl, .int .i64 r.no] ∧ (geosOf (rs ++ [r])).2 = n9 := by
  rw [geosOf_snoc]
  subst Z3 Z7 Z9
  unfold geoArr geoOf
  refine ⟨?_, rfl⟩
  simp only [Int.natCast_add]

end Go.Proofs.Ytmieioaklgdbdaa
