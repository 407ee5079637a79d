/- A parent and its children: the plain law of TaskFamilies. -/
import Derived.Test.YtiedenjcmkebaaaTskM
import Derived.Test.YtiedenjcmkebaaaTskK
set_option linter.unusedVariables false
set_option linter.unusedSimpArgs false
namespace Go.Proofs.Ytiedenjcmkebaaa
open Go.RowKit
open Go.Maps (Keyed)

/-- A label has a parent, number 1, and its children. -/
structure FamI (pb : Nat) (L : List TE) (D : Nat → Option Bool) (h many : Nat) : Prop where
  asc : L.Pairwise fun a b => a.pr.num < b.pr.num
  pos : ∀ t ∈ L, 1 ≤ t.pr.num
  par : ∃ t ∈ L, t.pr.num = 1
  one : ∀ t ∈ L, t.pr.num = 1 → t.blk = pb ∧ t.pr.st = 1 ∧ t.pr.par = 0
  kid : ∀ t ∈ L, t.pr.num ≠ 1 → t.pr.par = 1 ∧ t.pr.mem = none ∧ (t.pr.st = 1 ∨ t.pr.st = 3)
  dg : ∀ t ∈ L, t.pr.num ≠ 1 → (t.pr.st = 3 ↔ D t.pr.num ≠ none)
  din : ∀ k, D k ≠ none → ∃ t ∈ L, t.pr.num = k ∧ k ≠ 1
  len : L.length + h = many + 1

section
variable {pb h many : Nat} {L : List TE} {D : Nat → Option Bool}
theorem FamI.start (b c : Nat) : FamI b [⟨b, newP 0 1 0 c⟩] (fun _ => none) 0 0 where
  asc := by simp
  pos := fun t ht => by simp only [List.mem_singleton] at ht; subst ht; exact Nat.le_refl 1
  par := ⟨_, List.mem_singleton.2 rfl, rfl⟩
  one := fun t ht _ => by simp only [List.mem_singleton] at ht; subst ht; exact ⟨rfl, rfl, rfl⟩
  kid := fun t ht hn => by simp only [List.mem_singleton] at ht; subst ht; exact absurd rfl hn
  dg := fun t ht hn => by simp only [List.mem_singleton] at ht; subst ht; exact absurd rfl hn
  din := fun k hk => absurd rfl hk
  len := rfl
theorem FamI.add (f : FamI pb L D h many) {b n c : Nat} (hn : ∀ x ∈ L, x.pr.num ≠ n) (h1 : 1 ≤ n) : FamI pb (insE L ⟨b, newP 0 n 1 c⟩) D h (many + 1) where
  asc := asc_insE L _ f.asc hn
  pos := fun t ht => by
    rcases mem_insE.1 ht with rfl | ht
    · exact h1
    · exact f.pos t ht
  par := by
    obtain ⟨t, ht, e⟩ := f.par
    exact ⟨t, mem_insE.2 (.inr ht), e⟩
  one := fun t ht e => by
    rcases mem_insE.1 ht with rfl | ht
    · obtain ⟨t, ht, e'⟩ := f.par
      exact absurd (e'.trans e.symm) (hn t ht)
    · exact f.one t ht e
  kid := fun t ht e => by
    rcases mem_insE.1 ht with rfl | ht
    · exact ⟨rfl, rfl, .inl rfl⟩
    · exact f.kid t ht e
  dg := fun t ht e => by
    rcases mem_insE.1 ht with rfl | ht
    · constructor
      · intro h3; exact absurd (show (1 : Nat) = 3 from h3) (by omega)
      · intro h3
        obtain ⟨t, ht, e', _⟩ := f.din _ h3
        exact absurd e' (hn t ht)
    · exact f.dg t ht e
  din := fun k hk => by
    obtain ⟨t, ht, e⟩ := f.din k hk
    exact ⟨t, mem_insE.2 (.inr ht), e⟩
  len := by rw [len_insE]; have := f.len; omega
theorem FamI.fin (f : FamI pb L D h many) {j : Nat} (hj : j < L.length) {t : TE} (ht : L[j] = t) (hn : t.pr.num ≠ 1) (sta : Int) : FamI pb (L.set j ⟨t.blk, endP sta t.pr⟩) (putF D t.pr.num true) h many := by
  have hmem : t ∈ L := by rw [← ht]; exact List.getElem_mem hj
  have hk : (L.set j ⟨t.blk, endP sta t.pr⟩).map keyE = L.map keyE := by
    rw [List.map_set]
    apply List.ext_getElem (by simp)
    intro i h1 h2
    rw [List.getElem_set]
    split
    · rename_i e; subst e; rw [List.getElem_map, ht]; rfl
    · rfl
  have hin : ∀ x ∈ L.set j ⟨t.blk, endP sta t.pr⟩, x = ⟨t.blk, endP sta t.pr⟩ ∨ (x ∈ L ∧ x.pr.num ≠ t.pr.num) := fun x hx => by
    by_cases e : x.pr.num = t.pr.num
    · left
      have h1 := keys_asc hk f.asc
      exact asc_inj h1 hx (List.mem_set hj _) e
    · rcases List.mem_or_eq_of_mem_set hx with h1 | h1
      · exact .inr ⟨h1, e⟩
      · exact .inl h1
  have hto : ∀ x ∈ L, x.pr.num ≠ t.pr.num → x ∈ L.set j ⟨t.blk, endP sta t.pr⟩ := fun x hx e => by
    obtain ⟨i, hi, rfl⟩ := List.getElem_of_mem hx
    rw [List.mem_iff_getElem]
    refine ⟨i, by simpa using hi, ?_⟩
    rw [List.getElem_set, if_neg]
    rintro rfl
    exact e (by rw [ht])
  refine ⟨keys_asc hk f.asc, fun x hx => ?_, ?_, fun x hx e => ?_, fun x hx e => ?_, fun x hx e => ?_, fun k hk => ?_, ?_⟩
  · rcases hin x hx with rfl | ⟨h1, _⟩
    · exact f.pos t hmem
    · exact f.pos x h1
  · obtain ⟨x, hx, e⟩ := f.par
    exact ⟨x, hto x hx (by rw [e]; exact fun e => hn e.symm), e⟩
  · rcases hin x hx with rfl | ⟨h1, _⟩
    · exact absurd e hn
    · exact f.one x h1 e
  · rcases hin x hx with rfl | ⟨h1, _⟩
    · exact ⟨(f.kid t hmem hn).1, rfl, .inr rfl⟩
    · exact f.kid x h1 e
  · rcases hin x hx with rfl | ⟨h1, h2⟩
    · exact ⟨fun _ => by show putF D t.pr.num true t.pr.num ≠ none; simp [putF], fun _ => rfl⟩
    · rw [f.dg x h1 e]
      unfold putF
      rw [if_neg h2]
  · unfold putF at hk
    by_cases e : k = t.pr.num
    · exact ⟨_, List.mem_set hj _, e.symm, by rw [e]; exact hn⟩
    · rw [if_neg e] at hk
      obtain ⟨x, hx, h1, h2⟩ := f.din k hk
      exact ⟨x, hto x hx (by rw [h1]; exact e), h1, h2⟩
  · rw [List.length_set]; exact f.len
theorem FamI.kidsE (f : FamI pb L D h many) : kidsL L 1 = dropE L 1 := by
  unfold kidsL dropE
  apply List.filter_congr
  intro t ht
  by_cases e : t.pr.num = 1
  · have := (f.one t ht e).2.2
    simp [kidB, e, this]
  · have := (f.kid t ht e).1
    simp [kidB, e, this]
theorem FamI.kidsLen (f : FamI pb L D h many) : (kidsL L 1).length + h = many := by
  obtain ⟨t, ht, e⟩ := f.par
  have h1 := len_dropE L f.asc t ht
  rw [e] at h1
  rw [f.kidsE]
  have := f.len
  omega
theorem FamI.nokid (f : FamI pb L D h many) {n : Nat} (hn : n ≠ 1) : kidsL L n = [] := by
  unfold kidsL
  rw [List.filter_eq_nil_iff]
  intro t ht
  by_cases e : t.pr.num = 1
  · have := (f.one t ht e).2.2
    simp [kidB, this]
    omega
  · have := (f.kid t ht e).1
    simp [kidB, this]
    omega
theorem find_least : ∀ {L : List TE} {p : TE → Bool} {t : TE}, (L.Pairwise fun a b => a.pr.num < b.pr.num) → L.find? p = some t → ∀ x ∈ L, p x = true → t.pr.num ≤ x.pr.num
  | [], p, t, _, h, x, hx, _ => absurd hx List.not_mem_nil
  | y :: L, p, t, hp, h, x, hx, hpx => by
    rw [List.pairwise_cons] at hp
    by_cases hy : p y = true
    · rw [List.find?_cons_of_pos hy] at h
      injection h with h
      subst h
      rcases List.mem_cons.1 hx with rfl | hx
      · exact Nat.le_refl _
      · exact Nat.le_of_lt (hp.1 x hx)
    · rw [List.find?_cons_of_neg (by simpa using hy)] at h
      rcases List.mem_cons.1 hx with rfl | hx
      · exact absurd hpx hy
      · exact find_least hp.2 h x hx hpx
theorem FamI.hno (f : FamI pb L D h many) (hh : hearL L 1 = none) : ∀ k, D k = none := fun k => by
  by_cases e : D k = none
  · exact e
  · obtain ⟨t, ht, h1, h2⟩ := f.din k e
    have h3 : t.pr.num ≠ 1 := by rw [h1]; exact h2
    have h4 := (f.dg t ht h3).2 (by rw [h1]; exact e)
    unfold hearL at hh
    have := List.find?_eq_none.1 hh t (by rw [f.kidsE, mem_dropE]; exact ⟨ht, h3⟩)
    exact absurd (decide_eq_true h4) this
theorem FamI.hsome (f : FamI pb L D h many) {t : TE} (hh : hearL L 1 = some t) : t ∈ L ∧ t.pr.num ≠ 1 ∧ D t.pr.num ≠ none ∧ (∀ k, D k ≠ none → t.pr.num ≤ k) ∧ h < many := by
  unfold hearL at hh
  have h0 := List.mem_of_find?_eq_some hh
  have h1 : goneE t = true := List.find?_some hh
  have h2 := h0
  rw [f.kidsE, mem_dropE] at h2
  refine ⟨h2.1, h2.2, (f.dg t h2.1 h2.2).1 (of_decide_eq_true h1), fun k hk => ?_, ?_⟩
  · obtain ⟨x, hx, h3, h4⟩ := f.din k hk
    have h5 : x.pr.num ≠ 1 := by rw [h3]; exact h4
    have h6 := (f.dg x hx h5).2 (by rw [h3]; exact hk)
    rw [← h3]
    refine find_least ?_ hh x (by rw [f.kidsE, mem_dropE]; exact ⟨hx, h5⟩) (decide_eq_true h6)
    rw [f.kidsE]
    exact asc_dropE 1 f.asc
  · have h3 := f.kidsLen
    have h4 := List.length_pos_of_mem h0
    omega
theorem FamI.hear (f : FamI pb L D h many) {t : TE} (ht : t ∈ L) (hn : t.pr.num ≠ 1) : FamI pb (dropE L t.pr.num) (delF D t.pr.num) (h + 1) many where
  asc := asc_dropE _ f.asc
  pos := fun x hx => f.pos x (mem_dropE.1 hx).1
  par := by
    obtain ⟨x, hx, e⟩ := f.par
    exact ⟨x, mem_dropE.2 ⟨hx, by rw [e]; exact fun e => hn e.symm⟩, e⟩
  one := fun x hx => f.one x (mem_dropE.1 hx).1
  kid := fun x hx => f.kid x (mem_dropE.1 hx).1
  dg := fun x hx e => by
    have h1 := mem_dropE.1 hx
    rw [f.dg x h1.1 e]
    unfold delF
    rw [if_neg h1.2]
  din := fun k hk => by
    unfold delF at hk
    by_cases e : k = t.pr.num
    · rw [if_pos e] at hk; exact absurd rfl hk
    · rw [if_neg e] at hk
      obtain ⟨x, hx, h1, h2⟩ := f.din k hk
      exact ⟨x, mem_dropE.2 ⟨hx, by rw [h1]; exact e⟩, h1, h2⟩
  len := by
    have h1 := len_dropE L f.asc t ht
    have h2 := f.len
    omega
theorem FamI.ppos (f : FamI pb L D h many) : ∀ k, D k ≠ none → 1 ≤ k := fun k hk => by
  obtain ⟨t, ht, h1, _⟩ := f.din k hk
  rw [← h1]; exact f.pos t ht
/-- The least of those that came. -/
def LeastI (D : Nat → Option Bool) (done : Nat → Bool) (l : Nat) : Prop := (l = 0 ∧ ∀ k, D k ≠ none → done k = false) ∨ (D l ≠ none ∧ 0 < l ∧ ∀ k, D k ≠ none → done k = true → l ≤ k)
theorem LeastI.start : LeastI D (fun _ => false) 0 := .inl ⟨rfl, fun _ _ => rfl⟩
theorem LeastI.take {done : Nat → Bool} {l x : Nat} (h : LeastI D done l) (hx : D x ≠ none) (h1 : 1 ≤ x) (hc : l = 0 ∨ x < l) : LeastI D (fun z => decide (z = x) || done z) x := by
  refine .inr ⟨hx, h1, fun k hk hd => ?_⟩
  by_cases e : k = x
  · omega
  · replace hd : (decide (k = x) || done k) = true := hd
    rw [decide_eq_false e, Bool.false_or] at hd
    rcases h with ⟨h2, h3⟩ | ⟨h2, h3, h4⟩
    · rw [h3 k hk] at hd; exact absurd hd (by simp)
    · have := h4 k hk hd; omega
theorem LeastI.skip {done : Nat → Bool} {l x : Nat} (h : LeastI D done l) (hc : ¬ l = 0) (hc2 : ¬ x < l) : LeastI D (fun z => decide (z = x) || done z) l := by
  rcases h with ⟨h2, h3⟩ | ⟨h2, h3, h4⟩
  · exact absurd h2 hc
  · refine .inr ⟨h2, h3, fun k hk hd => ?_⟩
    by_cases e : k = x
    · omega
    · replace hd : (decide (k = x) || done k) = true := hd
      rw [decide_eq_false e, Bool.false_or] at hd
      exact h4 k hk hd
theorem LeastI.fin {done : Nat → Bool} {l : Nat} (h : LeastI D done l) (hd : ∀ k, D k ≠ none → done k = true) : (l = 0 ∧ ∀ k, D k = none) ∨ (D l ≠ none ∧ 0 < l ∧ ∀ k, D k ≠ none → l ≤ k) := by
  rcases h with ⟨h2, h3⟩ | ⟨h2, h3, h4⟩
  · refine .inl ⟨h2, fun k => ?_⟩
    by_cases e : D k = none
    · exact e
    · have := h3 k e; rw [hd k e] at this; exact absurd this (by simp)
  · exact .inr ⟨h2, h3, fun k hk => h4 k hk (hd k hk)⟩
end
end Go.Proofs.Ytiedenjcmkebaaa
