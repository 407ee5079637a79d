/- FdsPlays: what holds between two rounds, and each turn of it (no program in sight). -/
import Derived.Test.YtfnkbgcgajgppaaPlyB
set_option linter.unusedVariables false
set_option linter.unusedSimpArgs false
namespace Go.Proofs.Ytfnkbgcgajgppaa
open Go.RowKit

def refN (x : Option (OpenL × Nat)) : Nat := match x with | none => 0 | some x => x.2
/-- The table's view, the map's view of one and the same. -/
def tabOf (G : Nat × Nat → Option (OpenL × Nat)) : Nat × Nat → Option (Array Value × Nat) := fun p => (G p).map fun x => (openA x.1, x.2)
def mapOf (G : Nat × Nat → Option (OpenL × Nat)) : Nat × Nat → Option OpenL := fun p => (G p).map fun x => x.1
theorem tabOf_put (G) (p : Nat × Nat) (x : OpenL × Nat) : tabOf (putF G p x) = putF (tabOf G) p (openA x.1, x.2) := by
  funext q; unfold tabOf putF; by_cases h : q = p <;> simp [h]
theorem mapOf_put (G) (p : Nat × Nat) (x : OpenL × Nat) : mapOf (putF G p x) = putF (mapOf G) p x.1 := by
  funext q; unfold mapOf putF; by_cases h : q = p <;> simp [h]
theorem tabOf_del (G) (p : Nat × Nat) : tabOf (delF G p) = delF (tabOf G) p := by
  funext q; unfold tabOf delF; by_cases h : q = p <;> simp [h]
theorem mapOf_del (G) (p : Nat × Nat) : mapOf (delF G p) = delF (mapOf G) p := by
  funext q; unfold mapOf delF; by_cases h : q = p <;> simp [h]
theorem mapOf_same (G) (p : Nat × Nat) (o : OpenL) (r r' : Nat) (h : G p = some (o, r)) : mapOf (putF G p (o, r')) = mapOf G := by
  funext q; unfold mapOf putF; by_cases hq : q = p
  · subst hq; simp [h]
  · simp [hq]
theorem tabOf_ok (G) : OkF (tabOf G) := fun p x h => by
  unfold tabOf at h
  cases hG : G p with
  | none => rw [hG] at h; cases h
  | some y => rw [hG] at h; cases h; exact openA_ok y.1

/-- Between two rounds: B bounds the numbers. -/
structure PInv (n B : Nat) (G : Nat × Nat → Option (OpenL × Nat)) (L : Nat → List Nat) (us : Nat → Nat) : Prop where
  dat : ∀ l, l < n → ∀ k (h : k < (L l).length), (L l)[k] = refN (G (l, k))
  out : ∀ l k, (n ≤ l ∨ (L l).length ≤ k) → G (l, k) = none
  pos : ∀ p o r, G p = some (o, r) → 0 < r ∧ r ≤ B ∧ okOpen o
  len : ∀ l, l < n → (L l).length ≤ B
  us : ∀ l, l < n → us l = posCount (L l)
section
variable {n B : Nat} {G : Nat × Nat → Option (OpenL × Nat)} {L : Nat → List Nat} {us : Nat → Nat}
theorem PInv.nil (n : Nat) : PInv n 0 (fun _ => none) (fun _ => []) (fun _ => 0) :=
  ⟨fun l _ k h => absurd h (Nat.not_lt_zero _), fun _ _ _ => rfl, fun _ _ _ h => (by cases h), fun _ _ => Nat.le_refl _, fun _ _ => rfl⟩
theorem PInv.up (h : PInv n B G L us) : PInv n (B + 1) G L us :=
  ⟨h.dat, h.out, fun p o r e => by have := h.pos p o r e; exact ⟨this.1, by omega, this.2.2⟩, fun l hl => by have := h.len l hl; omega, h.us⟩
theorem posCount_set (l : List Nat) (k x : Nat) (hk : k < l.length) : posCount (l.set k x) + (if 0 < l[k] then 1 else 0) = posCount l + if 0 < x then 1 else 0 := by
  induction l generalizing k with
  | nil => exact absurd hk (Nat.not_lt_zero _)
  | cons y t ih =>
    cases k with
    | zero => simp only [posCount, List.set_cons_zero, List.countP_cons, List.getElem_cons_zero, decide_eq_true_eq]; omega
    | succ k =>
      have := ih k (by simpa using hk)
      simp only [posCount, List.set_cons_succ, List.countP_cons, List.getElem_cons_succ] at this ⊢
      omega
theorem posCount_app (l : List Nat) (x : Nat) : posCount (l ++ [x]) = posCount l + if 0 < x then 1 else 0 := by
  simp [posCount, List.countP_append, List.countP_cons]
/-- The reference number of a cell of the list. -/
theorem PInv.lt (h : PInv n B G L us) {l k : Nat} {o : OpenL} {r : Nat} (e : G (l, k) = some (o, r)) : l < n ∧ k < (L l).length := by
  refine ⟨Nat.lt_of_not_le fun x => ?_, Nat.lt_of_not_le fun x => ?_⟩
  · rw [h.out l k (.inl x)] at e; cases e
  · rw [h.out l k (.inr x)] at e; cases e
theorem PInv.get (h : PInv n B G L us) {l k : Nat} {o : OpenL} {r : Nat} (e : G (l, k) = some (o, r)) : (L l)[k]? = some r := by
  have := h.lt e
  rw [List.getElem?_eq_getElem this.2, h.dat l this.1 k this.2, e]; rfl
/-- One cell of a list set. -/
theorem PInv.set (h : PInv n B G L us) {l k : Nat} (hl : l < n) (hk : k < (L l).length) (o : OpenL) (ok : okOpen o) (r : Nat) (h0 : 0 < r) (hr : r ≤ B) (u : Nat) (hu : u + (if 0 < (L l)[k] then 1 else 0) = us l + 1) :
    PInv n B (putF G (l, k) (o, r)) (setL L l ((L l).set k r)) (setN us l u) where
  dat := by
    intro m hm j hj
    by_cases hml : m = l
    · subst hml
      simp only [setL, if_pos] at hj ⊢
      rw [List.length_set] at hj
      rw [List.getElem_set]
      by_cases hjk : k = j
      · subst hjk; simp [putF, refN]
      · rw [if_neg hjk, h.dat m hm j hj]; simp [putF, Ne.symm hjk]
    · simp only [setL, if_neg hml] at hj ⊢
      rw [h.dat m hm j hj]; simp [putF, hml]
  out := by
    intro m j hj
    by_cases hp : (m, j) = (l, k)
    · cases hp
      simp only [setL, if_pos, List.length_set] at hj
      omega
    · simp only [putF, if_neg hp]
      refine h.out m j ?_
      by_cases hml : m = l
      · subst hml; simpa [setL] using hj
      · simpa [setL, hml] using hj
  pos := by
    intro p x y e
    unfold putF at e
    split at e
    · cases e; exact ⟨h0, hr, ok⟩
    · exact h.pos p x y e
  len := by
    intro m hm
    by_cases hml : m = l
    · subst hml; simpa [setL] using h.len m hm
    · simpa [setL, hml] using h.len m hm
  us := by
    intro m hm
    by_cases hml : m = l
    · subst hml
      have := posCount_set (L m) k r hk
      have h2 := h.us m hm
      rw [if_pos h0] at this
      simp only [setL, setN, if_pos]; omega
    · simpa [setL, setN, hml] using h.us m hm
/-- One cell of a list set to nought. -/
theorem PInv.del (h : PInv n B G L us) {l k : Nat} (hl : l < n) (hk : k < (L l).length) (h0 : 0 < (L l)[k]) :
    PInv n B (delF G (l, k)) (setL L l ((L l).set k 0)) (setN us l (us l - 1)) where
  dat := by
    intro m hm j hj
    by_cases hml : m = l
    · subst hml
      simp only [setL, if_pos] at hj ⊢
      rw [List.length_set] at hj
      rw [List.getElem_set]
      by_cases hjk : k = j
      · subst hjk; simp [delF, refN]
      · rw [if_neg hjk, h.dat m hm j hj]; simp [delF, Ne.symm hjk]
    · simp only [setL, if_neg hml] at hj ⊢
      rw [h.dat m hm j hj]; simp [delF, hml]
  out := by
    intro m j hj
    unfold delF
    split
    · rfl
    · refine h.out m j ?_
      by_cases hml : m = l
      · subst hml; simpa [setL] using hj
      · simpa [setL, hml] using hj
  pos := by
    intro p x y e
    unfold delF at e
    split at e
    · cases e
    · exact h.pos p x y e
  len := by
    intro m hm
    by_cases hml : m = l
    · subst hml; simpa [setL] using h.len m hm
    · simpa [setL, hml] using h.len m hm
  us := by
    intro m hm
    by_cases hml : m = l
    · subst hml
      have := posCount_set (L m) k 0 hk
      have h2 := h.us m hm
      rw [if_pos h0] at this
      simp only [Nat.lt_irrefl, if_false] at this
      simp only [setL, setN, if_pos]; omega
    · simpa [setL, setN, hml] using h.us m hm
/-- One appended. -/
theorem PInv.app (h : PInv n B G L us) {l : Nat} (hl : l < n) (o : OpenL) (ok : okOpen o) (hB : 1 ≤ B) (hL : (L l).length < B) :
    PInv n B (putF G (l, (L l).length) (o, 1)) (setL L l (L l ++ [1])) (setN us l (us l + 1)) where
  dat := by
    intro m hm j hj
    by_cases hml : m = l
    · subst hml
      simp only [setL, if_pos] at hj ⊢
      rw [List.length_append, List.length_singleton] at hj
      by_cases hjk : j = (L m).length
      · subst hjk; simp [putF, refN]
      · rw [List.getElem_append_left (by omega), h.dat m hm j (by omega)]; simp [putF, hjk]
    · simp only [setL, if_neg hml] at hj ⊢
      rw [h.dat m hm j hj]; simp [putF, hml]
  out := by
    intro m j hj
    by_cases hp : (m, j) = (l, (L l).length)
    · cases hp
      simp only [setL, if_pos, List.length_append, List.length_singleton] at hj
      omega
    · simp only [putF, if_neg hp]
      refine h.out m j ?_
      by_cases hml : m = l
      · subst hml
        simp only [setL, if_pos, List.length_append, List.length_singleton] at hj
        omega
      · simpa [setL, hml] using hj
  pos := by
    intro p x y e
    unfold putF at e
    split at e
    · cases e; exact ⟨Nat.one_pos, hB, ok⟩
    · exact h.pos p x y e
  len := by
    intro m hm
    by_cases hml : m = l
    · subst hml; simp only [setL, if_pos, List.length_append, List.length_singleton]; omega
    · simpa [setL, hml] using h.len m hm
  us := by
    intro m hm
    by_cases hml : m = l
    · subst hml
      have := posCount_app (L m) 1
      have h2 := h.us m hm
      simp only [setL, setN, if_pos]; simp at this; omega
    · simpa [setL, setN, hml] using h.us m hm
/-- What is open only turns. -/
theorem PInv.turn (h : PInv n B G L us) {l k : Nat} {o o' : OpenL} {r : Nat} (e : G (l, k) = some (o, r)) (ok : okOpen o') : PInv n B (putF G (l, k) (o', r)) L us where
  dat := by
    intro m hm j hj
    rw [h.dat m hm j hj]
    by_cases hp : (m, j) = (l, k)
    · rw [hp, e]; simp [putF, refN]
    · simp only [putF, if_neg hp]
  out := by
    intro m j hj
    by_cases hp : (m, j) = (l, k)
    · cases hp; rw [h.out _ _ hj] at e; cases e
    · simp only [putF, if_neg hp]; exact h.out m j hj
  pos := by
    intro p x y e2
    unfold putF at e2
    split at e2
    · cases e2; have := h.pos _ _ _ e; exact ⟨this.1, this.2.1, ok⟩
    · exact h.pos p x y e2
  len := h.len
  us := h.us
end
end Go.Proofs.Ytfnkbgcgajgppaa
