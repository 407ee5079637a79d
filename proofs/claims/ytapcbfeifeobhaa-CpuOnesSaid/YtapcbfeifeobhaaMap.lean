/- Maps as functions from keys to elements: look-ups, stores, deletes. -/
import Derived.Test.YtapcbfeifeobhaaRun
import Derived.Maps.OwnSet
set_option linter.unusedVariables false
set_option linter.unusedSimpArgs false
namespace Go.Proofs.Ytapcbfeifeobhaa
open Go.RowKit
open Go.Maps (Keyed)

section
variable {κ α : Type} [DecidableEq κ] {P : Program} {k t e : TypeId} {w w' : World} {g : Nat} {kv : κ → Value} {vv : α → Value} {F : κ → Option α}

/-- Block g is a map that holds, at the key kv a, the element vv b, just where F a = some b. -/
def MK (w : World) (P : Program) (k : TypeId) (g : Nat) (kv : κ → Value) (vv : α → Value) (F : κ → Option α) : Prop :=
  ∃ E clock, w.heap[g]? = some (.map E clock) ∧ E.toList.Pairwise (fun x y => x.key ≠ y.key) ∧ (∀ x ∈ E.toList, ∃ l, keyOf P k x.key = some l) ∧
    (∀ x ∈ E.toList, ∃ a b, F a = some b ∧ x.key = kv a ∧ x.val = vv b) ∧ (∀ a b, F a = some b → ∃ x ∈ E.toList, x.key = kv a ∧ x.val = vv b) ∧ ∀ x ∈ E.toList, x.born < clock

omit [DecidableEq κ] in
theorem MK.lt (h : MK w P k g kv vv F) : g < w.heap.size := by obtain ⟨E, c, h, _⟩ := h; exact rowlt h
omit [DecidableEq κ] in
theorem MK.made (w : World) : MK (w.alloc (.map #[] 0)) P k w.heap.size kv vv (fun _ : κ => none) :=
  ⟨#[], 0, heap_alloc_last w _, by simp, by simp, by simp, fun a b h => (by cases h), by simp⟩
omit [DecidableEq κ] in
theorem MK.keepAt (h : MK w P k g kv vv F) (hk : w'.heap[g]? = w.heap[g]?) : MK w' P k g kv vv F := by
  obtain ⟨E, c, h, r⟩ := h
  exact ⟨E, c, by rw [hk]; exact h, r⟩
omit [DecidableEq κ] in
theorem MK.keep (h : MK w P k g kv vv F) (hb : Below w.heap.size w w') : MK w' P k g kv vv F := h.keepAt (hb.block g h.lt)
omit [DecidableEq κ] in
theorem MK.one {r : Option Nat} (h : MK w P k g kv vv F) (o : One w w' r) (hr : r ≠ some g) : MK w' P k g kv vv F := h.keepAt (o.block g h.lt hr)
omit [DecidableEq κ] in
theorem MK.congr {G : κ → Option α} (h : MK w P k g kv vv F) (he : ∀ a, F a = G a) : MK w P k g kv vv G := by rw [← funext he]; exact h

/-- What a look-up gives. -/
def lkV (vv : α → Value) (z : Value) : Bool → Option α → Value
  | true, some b => .tuple #[vv b, .bool true]
  | true, none => .tuple #[z, .bool false]
  | false, some b => vv b
  | false, none => z

omit [DecidableEq κ] in
theorem MK.find (h : MK w P k g kv vv F) (K : Keyed P k) (hi : ∀ a b, kv a = kv b → a = b) (a : κ) {l : Lit} (hl : keyOf P k (kv a) = some l) (w2 : World) :
    ∃ E clock, w.heap[g]? = some (.map E clock) ∧ E.toList.Pairwise (fun x y => x.key ≠ y.key) ∧ (∀ x ∈ E.toList, ∃ l, keyOf P k x.key = some l) ∧
    (∀ x ∈ E.toList, ∃ a b, F a = some b ∧ x.key = kv a ∧ x.val = vv b) ∧ (∀ a b, F a = some b → ∃ x ∈ E.toList, x.key = kv a ∧ x.val = vv b) ∧ (∀ x ∈ E.toList, x.born < clock) ∧
    ((F a = none ∧ (Instr.findKey k (kv a) E.toList).run P w2 = .ok none w2 ∧ ∀ x ∈ E.toList, x.key ≠ kv a) ∨
      ∃ b j x, F a = some b ∧ (Instr.findKey k (kv a) E.toList).run P w2 = .ok (some (j, x.val)) w2 ∧ E.toList[j]? = some x ∧ x.key = kv a ∧ x.val = vv b) := by
  obtain ⟨E, clock, h1, h2, h3, h4, h5, h6⟩ := h
  refine ⟨E, clock, h1, h2, h3, h4, h5, h6, ?_⟩
  rcases K.find w2 hl E.toList h3 with ⟨hn, hne⟩ | ⟨j, x, hr, hx, hk⟩
  · refine .inl ⟨?_, hn, hne⟩
    cases hf : F a with
    | none => rfl
    | some b =>
      obtain ⟨x, hx, hk, _⟩ := h5 a b hf
      exact absurd hk (hne x hx)
  · obtain ⟨a', b, hf, hk', hv⟩ := h4 x (List.mem_of_getElem? hx)
    obtain rfl := hi a' a (by rw [← hk', hk])
    exact .inr ⟨b, j, x, hf, hr, hx, hk, hv⟩

omit [DecidableEq κ] in
theorem MK.lookup (h : MK w P k g kv vv F) (K : Keyed P k) (hi : ∀ a b, kv a = kv b → a = b) (ht : P.underlying t = some (.map k e)) {z : Value} (hz : (P.info? e).bind (·.zero) = some z)
    (a : κ) {l : Lit} (hl : keyOf P k (kv a) = some l) (c : Bool) : (Instr.lookup t (.map (some g)) (kv a) c).run P w = .ok (lkV vv z c (F a)) w := by
  obtain ⟨E, clock, h1, _, _, _, _, _, h⟩ := h.find K hi a hl w
  have hz' := run_zero (P := P) hz w
  rcases h with ⟨hf, hr, _⟩ | ⟨b, j, x, hf, hr, _, _, hv⟩
  · cases c <;> simp [Instr.lookup, run_underlying ht, MapKept.run_getObj_map h1, K.check w _ hl, hr, hz', hf, lkV, Result.andThen]
  · cases c <;> simp [Instr.lookup, run_underlying ht, MapKept.run_getObj_map h1, K.check w _ hl, hr, hv, hf, lkV, Result.andThen]

/-- The key holds another element, or one. -/
def putF (F : κ → Option α) (a : κ) (b : α) : κ → Option α := fun x => if x = a then some b else F x
def delF (F : κ → Option α) (a : κ) : κ → Option α := fun x => if x = a then none else F x

theorem one_setBlock {E E' : Array MapEntry} {c c' : Nat} (h : w.heap[g]? = some (.map E c)) : One w (Go.ChangeMaps.setBlock w g (.map E' c')) (some g) :=
  ⟨rfl, rfl, rfl, by simp [Go.ChangeMaps.setBlock], fun i _ hi => Go.ChangeMaps.heap_setBlock_other h _ (fun e => hi (by rw [e]))⟩

theorem mem_set {es : List MapEntry} {j : Nat} {x x' y : MapEntry} (hx : es[j]? = some x) (hd : es.Pairwise (fun x y => x.key ≠ y.key)) : y ∈ es.set j x' ↔ y = x' ∨ (y ∈ es ∧ y.key ≠ x.key) := by
  obtain ⟨hj, rfl⟩ := List.getElem?_eq_some_iff.1 hx
  have hp := List.pairwise_iff_getElem.1 hd
  constructor
  · intro h
    obtain ⟨i, hi, rfl⟩ := List.getElem_of_mem h
    rw [List.getElem_set]
    split
    · exact .inl rfl
    · rename_i hne
      simp only [List.length_set] at hi
      refine .inr ⟨List.getElem_mem _, fun he => ?_⟩
      rcases Nat.lt_trichotomy i j with h1 | h1 | h1
      · exact hp i j hi hj h1 he
      · exact hne h1.symm
      · exact hp j i hj hi h1 he.symm
  · rintro (rfl | ⟨hy, hne⟩)
    · exact List.mem_set hj _
    · obtain ⟨i, hi, rfl⟩ := List.getElem_of_mem hy
      have hij : j ≠ i := fun h => hne (by subst h; rfl)
      have : (es.set j x')[i]'(by simpa using hi) = es[i] := by rw [List.getElem_set]; simp [hij]
      rw [← this]
      exact List.getElem_mem _

theorem mem_erase {es : List MapEntry} {j : Nat} {x y : MapEntry} (hx : es[j]? = some x) (hd : es.Pairwise (fun x y => x.key ≠ y.key)) : y ∈ es.eraseIdx j ↔ y ∈ es ∧ y.key ≠ x.key := by
  obtain ⟨hj, rfl⟩ := List.getElem?_eq_some_iff.1 hx
  have hp := List.pairwise_iff_getElem.1 hd
  rw [List.mem_eraseIdx_iff_getElem]
  constructor
  · rintro ⟨i, hi, hne, rfl⟩
    refine ⟨List.getElem_mem _, fun he => ?_⟩
    rcases Nat.lt_trichotomy i j with h1 | h1 | h1
    · exact hp i j hi hj h1 he
    · exact hne h1
    · exact hp j i hj hi h1 he.symm
  · rintro ⟨hy, hne⟩
    obtain ⟨i, hi, rfl⟩ := List.getElem_of_mem hy
    exact ⟨i, hi, fun h => hne (by subst h; rfl), rfl⟩

theorem MK.update (h : MK w P k g kv vv F) (K : Keyed P k) (hi : ∀ a b, kv a = kv b → a = b) (ht : P.underlying t = some (.map k e)) (a : κ) {l : Lit} (hl : keyOf P k (kv a) = some l) (b : α) :
    ∃ w', (Instr.mapUpdate t (.map (some g)) (kv a) (vv b)).run P w = .ok () w' ∧ MK w' P k g kv vv (putF F a b) ∧ One w w' (some g) := by
  obtain ⟨E, clock, h1, hd, h3, h4, h5, h6, h⟩ := h.find K hi a hl w
  rcases h with ⟨hf, hr, hne⟩ | ⟨b0, j, x, hf, hr, hx, hk, hv⟩
  · refine ⟨Go.ChangeMaps.setBlock w g (.map (E.push ⟨kv a, vv b, clock⟩) (clock + 1)), ?_, ⟨_, _, Go.ChangeMaps.heap_setBlock_same h1 _, ?_, ?_, ?_, ?_, ?_⟩, one_setBlock h1⟩
    rotate_right
    · intro x hx
      simp only [Array.toList_push, List.mem_append, List.mem_singleton] at hx
      rcases hx with hx | rfl
      · have := h6 x hx; omega
      · show clock < clock + 1; omega
    · simp [Instr.mapUpdate, run_underlying ht, MapKept.run_getObj_map h1, K.check w false hl, hr, MapKept.run_setObj_map _ h1, Result.andThen, Go.ChangeMaps.setBlock]
    · rw [Array.toList_push, List.pairwise_append]
      exact ⟨hd, by simp, fun x hx y hy => by simp only [List.mem_singleton] at hy; subst hy; exact hne x hx⟩
    · intro x hx
      simp only [Array.toList_push, List.mem_append, List.mem_singleton] at hx
      rcases hx with hx | rfl
      · exact h3 x hx
      · exact ⟨l, hl⟩
    · intro x hx
      simp only [Array.toList_push, List.mem_append, List.mem_singleton] at hx
      rcases hx with hx | rfl
      · obtain ⟨a', b', e1, e2, e3⟩ := h4 x hx
        refine ⟨a', b', ?_, e2, e3⟩
        unfold putF
        rw [if_neg (fun he => hne x hx (by rw [e2, he]))]
        exact e1
      · exact ⟨a, b, by simp [putF], rfl, rfl⟩
    · intro a' b' hab
      unfold putF at hab
      split at hab
      · rename_i he
        cases hab
        exact ⟨⟨kv a, vv b, clock⟩, by simp, by rw [he], rfl⟩
      · obtain ⟨x, hx, e2, e3⟩ := h5 a' b' hab
        exact ⟨x, by simp [hx], e2, e3⟩
  · have hjE : E[j]? = some x := by simpa using hx
    have hset : (E.modify j fun e => { e with key := kv a, val := vv b }).toList = E.toList.set j { x with key := kv a, val := vv b } := by
      rw [Array.toList_modify, ChangeMaps.modify_eq_set _ _ _ _ hx]
    have hxk : (((E[j]?).map (·.key)).getD (kv a)) = kv a := by rw [hjE]; exact hk
    refine ⟨Go.ChangeMaps.setBlock w g (.map (E.modify j fun e => { e with key := kv a, val := vv b }) clock), ?_, ⟨_, _, Go.ChangeMaps.heap_setBlock_same h1 _, ?_, ?_, ?_, ?_, ?_⟩, one_setBlock h1⟩
    rotate_right
    · intro y hy
      rw [hset, mem_set hx hd] at hy
      rcases hy with rfl | ⟨hy, _⟩
      · exact h6 x (List.mem_of_getElem? hx)
      · exact h6 y hy
    · simp [Instr.mapUpdate, run_underlying ht, MapKept.run_getObj_map h1, K.check w false hl, hr, hxk, K.stays w hl, MapKept.run_setObj_map _ h1, Result.andThen, Go.ChangeMaps.setBlock]
    · rw [hset]
      refine List.pairwise_iff_getElem.2 (fun i1 i2 hi1 hi2 hlt => ?_)
      have hp := List.pairwise_iff_getElem.1 hd
      simp only [List.length_set] at hi1 hi2
      obtain ⟨hj, hxx⟩ := List.getElem?_eq_some_iff.1 hx
      have hself : ∀ i (hi : i < E.toList.length), ((E.toList.set j { x with key := kv a, val := vv b })[i]'(by simpa using hi)).key = (E.toList[i]).key := by
        intro i hi
        rw [List.getElem_set]
        split
        · rename_i he
          subst he
          show kv a = _
          rw [hxx, hk]
        · rfl
      rw [hself i1 hi1, hself i2 hi2]
      exact hp i1 i2 hi1 hi2 hlt
    · intro y hy
      rw [hset, mem_set hx hd] at hy
      rcases hy with rfl | ⟨hy, _⟩
      · exact ⟨l, hl⟩
      · exact h3 y hy
    · intro y hy
      rw [hset, mem_set hx hd] at hy
      rcases hy with rfl | ⟨hy, hne⟩
      · exact ⟨a, b, by simp [putF], rfl, rfl⟩
      · obtain ⟨a', b', e1, e2, e3⟩ := h4 y hy
        refine ⟨a', b', ?_, e2, e3⟩
        unfold putF
        rw [if_neg (fun he => hne (by rw [e2, he, hk]))]
        exact e1
    · intro a' b' hab
      unfold putF at hab
      split at hab
      · rename_i he
        cases hab
        exact ⟨_, by rw [hset, mem_set hx hd]; exact .inl rfl, by rw [he], rfl⟩
      · rename_i hne
        obtain ⟨y, hy, e2, e3⟩ := h5 a' b' hab
        exact ⟨y, by rw [hset, mem_set hx hd]; exact .inr ⟨hy, fun he => hne (hi _ _ (by rw [← e2, he, hk]))⟩, e2, e3⟩

theorem MK.delete (h : MK w P k g kv vv F) (K : Keyed P k) (hi : ∀ a b, kv a = kv b → a = b) (ht : P.underlying t = some (.map k e)) (a : κ) {l : Lit} (hl : keyOf P k (kv a) = some l) (ty : TypeId) :
    ∃ w', (Builtin.delete_ #[t, k] ty #[.map (some g), kv a]).run P w = .ok (.tuple #[]) w' ∧ MK w' P k g kv vv (delF F a) ∧ One w w' (some g) := by
  obtain ⟨E, clock, h1, hd, h3, h4, h5, h6, h⟩ := h.find K hi a hl w
  rcases h with ⟨hf, hr, hne⟩ | ⟨b0, j, x, hf, hr, hx, hk, hv⟩
  · refine ⟨Go.ChangeMaps.setBlock w g (.map E clock), ?_, ⟨_, _, Go.ChangeMaps.heap_setBlock_same h1 _, hd, h3, ?_, ?_, h6⟩, one_setBlock h1⟩
    · simp [Builtin.delete_, run_underlying ht, MapKept.run_getObj_map h1, K.check w _ hl, hr, MapKept.run_setObj_map _ h1, Result.andThen, Go.ChangeMaps.setBlock]
    · intro x hx
      obtain ⟨a', b', e1, e2, e3⟩ := h4 x hx
      refine ⟨a', b', ?_, e2, e3⟩
      unfold delF
      rw [if_neg (fun he => hne x hx (by rw [e2, he]))]
      exact e1
    · intro a' b' hab
      unfold delF at hab
      split at hab
      · cases hab
      · exact h5 a' b' hab
  · have hers : (E.eraseIdxIfInBounds j).toList = E.toList.eraseIdx j := by simp
    refine ⟨Go.ChangeMaps.setBlock w g (.map (E.eraseIdxIfInBounds j) clock), ?_, ⟨_, _, Go.ChangeMaps.heap_setBlock_same h1 _, ?_, ?_, ?_, ?_, ?_⟩, one_setBlock h1⟩
    rotate_right
    · intro y hy
      rw [hers, mem_erase hx hd] at hy
      exact h6 y hy.1
    · simp [Builtin.delete_, run_underlying ht, MapKept.run_getObj_map h1, K.check w _ hl, hr, MapKept.run_setObj_map _ h1, Result.andThen, Go.ChangeMaps.setBlock]
    · rw [hers]
      exact hd.sublist (List.eraseIdx_sublist _ _)
    · intro y hy
      rw [hers, mem_erase hx hd] at hy
      exact h3 y hy.1
    · intro y hy
      rw [hers, mem_erase hx hd] at hy
      obtain ⟨a', b', e1, e2, e3⟩ := h4 y hy.1
      refine ⟨a', b', ?_, e2, e3⟩
      unfold delF
      rw [if_neg (fun he => hy.2 (by rw [e2, he, hk]))]
      exact e1
    · intro a' b' hab
      unfold delF at hab
      split at hab
      · cases hab
      · rename_i hne
        obtain ⟨y, hy, e2, e3⟩ := h5 a' b' hab
        exact ⟨y, by rw [hers, mem_erase hx hd]; exact ⟨hy, fun he => hne (hi _ _ (by rw [← e2, he, hk]))⟩, e2, e3⟩

/-- A new key has come in, its element not yet. -/
def Half (w : World) (P : Program) (k : TypeId) (g : Nat) (kv : κ → Value) (vv : α → Value) (F : κ → Option α) (a : κ) (z : Value) (c : Nat) : Prop :=
  ∃ E : Array MapEntry, w.heap[g]? = some (.map (E.push ⟨kv a, z, c⟩) (c + 1)) ∧ E.toList.Pairwise (fun x y => x.key ≠ y.key) ∧ (∀ x ∈ E.toList, ∃ l, keyOf P k x.key = some l) ∧
    (∀ x ∈ E.toList, ∃ a b, F a = some b ∧ x.key = kv a ∧ x.val = vv b) ∧ (∀ a b, F a = some b → ∃ x ∈ E.toList, x.key = kv a ∧ x.val = vv b) ∧ (∀ x ∈ E.toList, x.born < c) ∧
    (∀ x ∈ E.toList, x.key ≠ kv a) ∧ ∃ l, keyOf P k (kv a) = some l
omit [DecidableEq κ] in
theorem Half.lt {a : κ} {z : Value} {c : Nat} (h : Half w P k g kv vv F a z c) : g < w.heap.size := by obtain ⟨E, h, _⟩ := h; exact rowlt h
omit [DecidableEq κ] in
theorem Half.keepAt {a : κ} {z : Value} {c : Nat} (h : Half w P k g kv vv F a z c) (hk : w'.heap[g]? = w.heap[g]?) : Half w' P k g kv vv F a z c := by
  obtain ⟨E, h, r⟩ := h
  exact ⟨E, by rw [hk]; exact h, r⟩
omit [DecidableEq κ] in
theorem MK.entry (h : MK w P k g kv vv F) (K : Keyed P k) (hi : ∀ a b, kv a = kv b → a = b) (ht : P.underlying t = some (.map k e)) {z : Value} (hz : (P.info? e).bind (·.zero) = some z)
    (a : κ) {l : Lit} (hl : keyOf P k (kv a) = some l) (hF : F a = none) : ∃ w' c, (Instr.mapEntry t (.map (some g)) (kv a)).run P w = .ok (.tuple #[z, goInt (c : Nat)]) w' ∧ Half w' P k g kv vv F a z c ∧ One w w' (some g) := by
  obtain ⟨E, clock, h1, hd, h3, h4, h5, h6, h⟩ := h.find K hi a hl w
  have hz' := run_zero (P := P) hz w
  rcases h with ⟨hf, hr, hne⟩ | ⟨b0, j, x, hf, hr, hx, hk, hv⟩
  · refine ⟨Go.ChangeMaps.setBlock w g (.map (E.push ⟨kv a, z, clock⟩) (clock + 1)), clock, ?_, ⟨E, Go.ChangeMaps.heap_setBlock_same h1 _, hd, h3, h4, h5, h6, hne, l, hl⟩, one_setBlock h1⟩
    simp [Instr.mapEntry, run_underlying ht, MapKept.run_getObj_map h1, K.check w false hl, hr, hz', MapKept.run_setObj_map _ h1, Result.andThen, Go.ChangeMaps.setBlock]
  · rw [hF] at hf; cases hf

theorem find_last {E : Array MapEntry} {x : MapEntry} (h : ∀ y ∈ E.toList, y.born < x.born) : (E.push x).findIdx? (fun e => (e.born : Int) == ((x.born : Nat) : Int)) = some E.size := by
  rw [Array.findIdx?_eq_some_iff_getElem]
  refine ⟨by simp, by simp, fun j hj => ?_⟩
  rw [Array.getElem_push_lt hj]
  have := h E[j] (by simp)
  simp
  omega
theorem modify_last {E : Array MapEntry} {x : MapEntry} (f : MapEntry → MapEntry) : (E.push x).modify E.size f = E.push (f x) := by
  apply Array.ext
  · simp
  · intro i h1 h2
    rw [Array.getElem_modify]
    split
    · rename_i he; subst he; simp
    · rename_i he
      have : i < E.size := by simp at h2; omega
      rw [Array.getElem_push_lt this, Array.getElem_push_lt this]

theorem Half.store {a : κ} {z : Value} {c : Nat} (h : Half w P k g kv vv F a z c) (hi : ∀ a b, kv a = kv b → a = b) (b : α) :
    ∃ w', (Instr.entryStore t (.map (some g)) (goInt (c : Nat)) (vv b)).run P w = .ok () w' ∧ MK w' P k g kv vv (putF F a b) ∧ One w w' (some g) := by
  obtain ⟨E, h1, hd, h3, h4, h5, h6, hne, l, hl⟩ := h
  have hfi := find_last (E := E) (x := ⟨kv a, z, c⟩) h6
  have hmo := modify_last (E := E) (x := ⟨kv a, z, c⟩) (fun e => { e with val := vv b })
  refine ⟨Go.ChangeMaps.setBlock w g (.map (E.push ⟨kv a, vv b, c⟩) (c + 1)), ?_, ⟨_, _, Go.ChangeMaps.heap_setBlock_same h1 _, ?_, ?_, ?_, ?_, ?_⟩, one_setBlock h1⟩
  · simp only at hfi hmo
    simp [Instr.entryStore, MapKept.run_getObj_map h1, goInt, asInt, asIntOf, hfi, hmo, MapKept.run_setObj_map _ h1, Result.andThen, Go.ChangeMaps.setBlock]
  · rw [Array.toList_push, List.pairwise_append]
    exact ⟨hd, by simp, fun x hx y hy => by simp only [List.mem_singleton] at hy; subst hy; exact hne x hx⟩
  · intro x hx
    simp only [Array.toList_push, List.mem_append, List.mem_singleton] at hx
    rcases hx with hx | rfl
    · exact h3 x hx
    · exact ⟨l, hl⟩
  · intro x hx
    simp only [Array.toList_push, List.mem_append, List.mem_singleton] at hx
    rcases hx with hx | rfl
    · obtain ⟨a', b', e1, e2, e3⟩ := h4 x hx
      refine ⟨a', b', ?_, e2, e3⟩
      unfold putF
      rw [if_neg (fun he => hne x hx (by rw [e2, he]))]
      exact e1
    · exact ⟨a, b, by simp [putF], rfl, rfl⟩
  · intro a' b' hab
    unfold putF at hab
    split at hab
    · rename_i he
      cases hab
      exact ⟨⟨kv a, vv b, c⟩, by simp, by rw [he], rfl⟩
    · obtain ⟨x, hx, e2, e3⟩ := h5 a' b' hab
      exact ⟨x, by simp [hx], e2, e3⟩
  · intro x hx
    simp only [Array.toList_push, List.mem_append, List.mem_singleton] at hx
    rcases hx with hx | rfl
    · have := h6 x hx; omega
    · show c < c + 1; omega

section
variable {ρ : Operand → Value} {o : Oper}
omit [DecidableEq κ] in
theorem MK.exec_lookup (h : MK w P k g kv vv F) (K : Keyed P k) (hi : ∀ a b, kv a = kv b → a = b) (ht : P.underlying t = some (.map k e)) {z : Value} (hz : (P.info? e).bind (·.zero) = some z)
    (m x : Operand) (c : Bool) (ho : o.op = .lookup t m x c) (hm : ρ m = .map (some g)) (a : κ) (hx : ρ x = kv a) {l : Lit} (hl : keyOf P k (kv a) = some l) : (execOp ρ o).run P w = .ok (.value (lkV vv z c (F a))) w := by
  unfold execOp
  simp only [ho, hm, hx, Sem.run_bind, h.lookup K hi ht hz a hl c, Result.andThen_ok]
  rfl
theorem MK.exec_update (h : MK w P k g kv vv F) (K : Keyed P k) (hi : ∀ a b, kv a = kv b → a = b) (ht : P.underlying t = some (.map k e))
    (m x v : Operand) (ho : o.op = .mapUpdate t m x v) (hm : ρ m = .map (some g)) (a : κ) (hx : ρ x = kv a) {l : Lit} (hl : keyOf P k (kv a) = some l) (b : α) (hv : ρ v = vv b) :
    ∃ w', (execOp ρ o).run P w = .ok .skip w' ∧ MK w' P k g kv vv (putF F a b) ∧ One w w' (some g) := by
  obtain ⟨w', hr, h1, h2⟩ := h.update K hi ht a hl b
  refine ⟨w', ?_, h1, h2⟩
  unfold execOp
  simp only [ho, hm, hx, hv, Sem.run_bind, hr, Result.andThen_ok]
  rfl
omit [DecidableEq κ] in
theorem MK.exec_entry (h : MK w P k g kv vv F) (K : Keyed P k) (hi : ∀ a b, kv a = kv b → a = b) (ht : P.underlying t = some (.map k e)) {z : Value} (hz : (P.info? e).bind (·.zero) = some z)
    (m x : Operand) (ho : o.op = .mapEntry t m x) (hm : ρ m = .map (some g)) (a : κ) (hx : ρ x = kv a) {l : Lit} (hl : keyOf P k (kv a) = some l) (hF : F a = none) :
    ∃ w' c, (execOp ρ o).run P w = .ok (.value (.tuple #[z, goInt (c : Nat)])) w' ∧ Half w' P k g kv vv F a z c ∧ One w w' (some g) := by
  obtain ⟨w', c, hr, h1, h2⟩ := h.entry K hi ht hz a hl hF
  refine ⟨w', c, ?_, h1, h2⟩
  unfold execOp
  simp only [ho, hm, hx, Sem.run_bind, hr, Result.andThen_ok]
  rfl
theorem Half.exec_store {a : κ} {z : Value} {c : Nat} (h : Half w P k g kv vv F a z c) (hi : ∀ a b, kv a = kv b → a = b) (b : α)
    (m x v : Operand) (ho : o.op = .entryStore t m x v) (hm : ρ m = .map (some g)) (hx : ρ x = goInt (c : Nat)) (hv : ρ v = vv b) :
    ∃ w', (execOp ρ o).run P w = .ok .skip w' ∧ MK w' P k g kv vv (putF F a b) ∧ One w w' (some g) := by
  obtain ⟨w', hr, h1, h2⟩ := h.store (t := t) hi b
  refine ⟨w', ?_, h1, h2⟩
  unfold execOp
  simp only [ho, hm, hx, hv, Sem.run_bind, hr, Result.andThen_ok]
  rfl
theorem MK.exec_delete (h : MK w P k g kv vv F) (K : Keyed P k) (hi : ∀ a b, kv a = kv b → a = b) (ht : P.underlying t = some (.map k e))
    (m x : Operand) (ho : o.op = .call { callee := .builtin .delete, args := #[m, x], argTypes := #[t, k] }) (hm : ρ m = .map (some g)) (a : κ) (hx : ρ x = kv a) {l : Lit} (hl : keyOf P k (kv a) = some l) :
    ∃ w', (execOp ρ o).run P w = .ok (.value (.tuple #[])) w' ∧ MK w' P k g kv vv (delF F a) ∧ One w w' (some g) := by
  obtain ⟨w', hr, h1, h2⟩ := h.delete K hi ht a hl o.type
  refine ⟨w', ?_, h1, h2⟩
  unfold execOp
  simp only [ho, resolve, invoke, builtin, Sem.run_bind, Sem.run_pure, List.map_toArray, List.map_cons, List.map_nil, hm, hx, hr, Result.andThen_ok]
end

section
variable {ops : Array Oper} {Q : Exit → Act → World → Prop} {a : Act} {rest : List Oper} {o : Oper}
omit [DecidableEq κ] in
theorem wpList_lookup_mk (hw : Region.wanted o (yielded ops a.tmps) = true) (d : Option Tmp) (hd : o.dst = d) (h : MK w P k g kv vv F) (K : Keyed P k) (hi : ∀ a b, kv a = kv b → a = b) (ht : P.underlying t = some (.map k e)) {z : Value} (hz : (P.info? e).bind (·.zero) = some z)
    (m x : Operand) (c : Bool) (ho : o.op = .lookup t m x c) (hm : a.eval m = .map (some g)) (y : κ) (hx : a.eval x = kv y) {l : Lit} (hl : keyOf P k (kv y) = some l)
    (v : Value) (hv : lkV vv z c (F y) = v) (hk : wpList P ops Q rest (a.put d v) w) : wpList P ops Q (o :: rest) a w :=
  wpList_by hw d hd (by rw [← hv]; exact h.exec_lookup K hi ht hz m x c ho hm y hx hl) hk
theorem wpList_update_mk (hw : Region.wanted o (yielded ops a.tmps) = true) (hd : o.dst = none) (h : MK w P k g kv vv F) (K : Keyed P k) (hi : ∀ a b, kv a = kv b → a = b) (ht : P.underlying t = some (.map k e))
    (m x v : Operand) (ho : o.op = .mapUpdate t m x v) (hm : a.eval m = .map (some g)) (y : κ) (hx : a.eval x = kv y) {l : Lit} (hl : keyOf P k (kv y) = some l) (b : α) (hv : a.eval v = vv b)
    (hk : ∀ w', MK w' P k g kv vv (putF F y b) → One w w' (some g) → wpList P ops Q rest a w') : wpList P ops Q (o :: rest) a w := by
  obtain ⟨w', hr, h1, h2⟩ := h.exec_update K hi ht m x v ho hm y hx hl b hv
  exact wpList_skip hw hd hr (hk w' h1 h2)
theorem wpList_delete_mk (hw : Region.wanted o (yielded ops a.tmps) = true) (d : Option Tmp) (hd : o.dst = d) (h : MK w P k g kv vv F) (K : Keyed P k) (hi : ∀ a b, kv a = kv b → a = b) (ht : P.underlying t = some (.map k e))
    (m x : Operand) (ho : o.op = .call { callee := .builtin .delete, args := #[m, x], argTypes := #[t, k] }) (hm : a.eval m = .map (some g)) (y : κ) (hx : a.eval x = kv y) {l : Lit} (hl : keyOf P k (kv y) = some l)
    (hk : ∀ w', MK w' P k g kv vv (delF F y) → One w w' (some g) → wpList P ops Q rest (a.put d (.tuple #[])) w') : wpList P ops Q (o :: rest) a w := by
  obtain ⟨w', hr, h1, h2⟩ := h.exec_delete K hi ht m x ho hm y hx hl
  exact wpList_by hw d hd hr (hk w' h1 h2)
end
end
end Go.Proofs.Ytapcbfeifeobhaa
