/- Processes: one of a table is changed; wake. -/
import Derived.Test.YtpjfnmmgfmfcfaaTskB
set_option linter.unusedVariables false
set_option linter.unusedSimpArgs false
namespace Go.Proofs.Ytpjfnmmgfmfcfaa
open Go.RowKit
open Go.Maps (Keyed)

def wakeP (p : PrL) : PrL := { p with st := 1, cau := 0, nmd := false, n0 := 0, n1 := 0, n2 := 0, til := 0 }
theorem prF_set (p : PrL) (j : Nat) : prF (wakeP p) j = if j = 11 then .int .u64 0 else if j = 10 then .int .u16 0 else if j = 9 then .int .u16 0 else if j = 8 then .int .u8 0 else if j = 7 then .bool false else if j = 6 then .int .u8 0 else if j = 5 then .int .u8 1 else prF p j := by
  by_cases h5 : j = 5
  · subst h5; rfl
  by_cases h6 : j = 6
  · subst h6; rfl
  by_cases h7 : j = 7
  · subst h7; rfl
  by_cases h8 : j = 8
  · subst h8; rfl
  by_cases h9 : j = 9
  · subst h9; rfl
  by_cases h10 : j = 10
  · subst h10; rfl
  by_cases h11 : j = 11
  · subst h11; rfl
  simp only [h5, h6, h7, h8, h9, h10, h11, if_false]
  simp only [prF, wakeP, h5, h6, h7, h8, h9, h10, h11, if_false]
section
variable {B : Nat} {w0 w w' : World} {g gm : Nat} {a : Option Addr} {rs : List RegL} {T : Nat → List TE}
set_option maxRecDepth 20000 in
set_option maxHeartbeats 4000000 in
theorem procWake_in {x : Nat} {p : PrL} (h : w.rowIs x 63 57 (prF p)) :
    Calls Try.prog 40 #[.pointer (some ⟨x, 0, none⟩)] w fun e w' => e = .returned (.tuple #[]) ∧ w'.rowIs x 63 57 (prF (wakeP p)) ∧ One w w' (some x) := by
  have c5 : w.cell? ⟨x, 5, none⟩ = some (.int .u8 p.st) := h.cell (i := 5) (by omega)
  have c6 : w.cell? ⟨x, 6, none⟩ = some (.int .u8 p.cau) := h.cell (i := 6) (by omega)
  have c7 : w.cell? ⟨x, 7, none⟩ = some (.bool p.nmd) := h.cell (i := 7) (by omega)
  have c8 : w.cell? ⟨x, 8, none⟩ = some (.int .u8 p.n0) := h.cell (i := 8) (by omega)
  have c9 : w.cell? ⟨x, 9, none⟩ = some (.int .u16 p.n1) := h.cell (i := 9) (by omega)
  have c10 : w.cell? ⟨x, 10, none⟩ = some (.int .u16 p.n2) := h.cell (i := 10) (by omega)
  have c11 : w.cell? ⟨x, 11, none⟩ = some (.int .u64 p.til) := h.cell (i := 11) (by omega)
  have cf := h.frozen
  have HR := Lib.hid h
  clear h
  go_enter Try.func40, Try.ntmps40
  go_wp2_with fail
  go_end0
  refine ⟨rfl, ?_, ?_⟩
  · refine (((((((HR.out.set 5 (.int .u8 1)).set 6 (.int .u8 0)).set 7 (.bool false)).set 8 (.int .u8 0)).set 9 (.int .u16 0)).set 10 (.int .u16 0)).set 11 (.int .u64 0)).congr (fun j hj => ?_)
    exact (prF_set p j).symm
  · exact ((((((one_setCell w x 5 _).trans (one_setCell _ x 6 _)).trans (one_setCell _ x 7 _)).trans (one_setCell _ x 8 _)).trans (one_setCell _ x 9 _)).trans (one_setCell _ x 10 _)).trans (one_setCell _ x 11 _)

/-- What of an entry says where it stands. -/
def keyE (t : TE) : Nat × Nat := (t.pr.num, t.blk)
theorem tF_keys {T T' : Nat → List TE} (h : ∀ l, (T' l).map keyE = (T l).map keyE) : tF T' = tF T := by
  have key : ∀ T : Nat → List TE, ∀ q, tF T q = (((T q.1).map keyE).find? fun k => k.1 == q.2).map (·.2) := fun T q => by
    unfold tF
    rw [List.find?_map, Option.map_map]
    rfl
  funext q
  rw [key, key, h]
theorem usT_keys {T T' : Nat → List TE} (h : ∀ l, (T' l).map keyE = (T l).map keyE) : usT T' = usT T := by
  funext l
  have := congrArg List.length (h l)
  simpa [usT] using this
theorem keys_set {T : Nat → List TE} {l j : Nat} (hj : j < (T l).length) {p' : PrL} (hn : p'.num = (T l)[j].pr.num) : ∀ i, (setT T l ((T l).set j ⟨(T l)[j].blk, p'⟩) i).map keyE = (T i).map keyE := fun i => by
  by_cases h : i = l
  · subst h
    rw [setT_same, List.map_set]
    have : keyE ⟨(T i)[j].blk, p'⟩ = ((T i).map keyE)[j]'(by simpa using hj) := by simp [keyE, hn]
    rw [this, List.set_getElem_self]
  · rw [setT_other _ _ h]
theorem keys_asc {L L' : List TE} (h : L'.map keyE = L.map keyE) (hp : L.Pairwise fun a b => a.pr.num < b.pr.num) : L'.Pairwise fun a b => a.pr.num < b.pr.num := by
  have h1 : (L.map keyE).Pairwise fun a b => a.1 < b.1 := (List.pairwise_map (f := keyE) (R := fun a b : Nat × Nat => a.1 < b.1)).2 hp
  rw [← h] at h1
  exact (List.pairwise_map (f := keyE) (R := fun a b : Nat × Nat => a.1 < b.1)).1 h1
theorem keys_mem {L L' : List TE} (h : L'.map keyE = L.map keyE) {t : TE} (ht : t ∈ L') : ∃ t' ∈ L, t'.pr.num = t.pr.num ∧ t'.blk = t.blk := by
  have : keyE t ∈ L'.map keyE := List.mem_map_of_mem ht
  rw [h, List.mem_map] at this
  obtain ⟨t', h1, h2⟩ := this
  exact ⟨t', h1, congrArg Prod.fst h2, congrArg Prod.snd h2⟩
/-- The blocks of a table. -/
def tS (g gm : Nat) (T : Nat → List TE) (k : Nat) : Prop := k = g ∨ k = gm ∨ ∃ l, ∃ t ∈ T l, t.blk = k
theorem tS_keys {T T' : Nat → List TE} (h : ∀ l, (T' l).map keyE = (T l).map keyE) {k : Nat} (hk : tS g gm T' k) : tS g gm T k := by
  rcases hk with h1 | h1 | ⟨l, t, ht, h1⟩
  · exact .inl h1
  · exact .inr (.inl h1)
  · obtain ⟨t', h2, _, h3⟩ := keys_mem (h l) ht
    exact .inr (.inr ⟨l, t', h2, by rw [h3, h1]⟩)
theorem TT.setAt (h : TT B w g gm a T) {l j : Nat} (hj : j < (T l).length) {p' : PrL} (hl : p'.lab = (T l)[j].pr.lab) (hn : p'.num = (T l)[j].pr.num) (o : One w w' (some (T l)[j].blk)) (hr : w'.rowIs (T l)[j].blk 63 57 (prF p')) :
    TT B w' g gm a (setT T l ((T l).set j ⟨(T l)[j].blk, p'⟩)) := by
  have hk := keys_set hj hn
  have hm : (T l)[j] ∈ T l := List.getElem_mem hj
  have hne := h.ne hm
  refine ⟨?_, fun i t ht => ?_, ?_⟩
  · rw [usT_keys hk, tF_keys hk]
    exact h.tp.one o hne.1 hne.2
  · rcases mem_setT ht with ⟨rfl, h2⟩ | ⟨hi, h2⟩
    · rw [List.mem_iff_getElem?] at h2
      obtain ⟨m, hm2⟩ := h2
      rw [List.getElem?_set] at hm2
      by_cases e : j = m
      · subst e
        simp [hj] at hm2
        subst hm2
        exact hr
      · rw [if_neg e] at hm2
        have ht2 : t ∈ T i := List.mem_of_getElem? hm2
        refine (h.pr i t ht2).of_block (o.block _ (h.pr i t ht2).lt (fun e2 => e ?_))
        have e3 : (T i)[j].blk = t.blk := by injection e2
        obtain ⟨_, e4⟩ := h.inj hm ht2 e3
        have h5 := (List.getElem?_eq_some_iff.1 hm2)
        obtain ⟨h6, h7⟩ := h5
        rcases Nat.lt_trichotomy j m with h8 | h8 | h8
        · have := List.pairwise_iff_getElem.1 (h.ok.asc i) j m hj h6 h8
          rw [h7, ← e4] at this; omega
        · exact h8
        · have := List.pairwise_iff_getElem.1 (h.ok.asc i) m j h6 hj h8
          rw [h7, ← e4] at this; omega
    · refine (h.pr i t h2).of_block (o.block _ (h.pr i t h2).lt (fun e2 => hi ?_))
      have e3 : (T l)[j].blk = t.blk := by injection e2
      exact (h.inj hm h2 e3).1.symm
  · refine ⟨fun i t ht => ?_, fun i t ht => ?_, fun i => keys_asc (hk i) (h.ok.asc i), fun i hi => ?_, fun i t ht => ?_⟩
    · rcases mem_setT ht with ⟨rfl, h2⟩ | ⟨_, h2⟩
      · rcases List.mem_or_eq_of_mem_set h2 with h3 | rfl
        · exact h.ok.lab _ _ h3
        · show p'.lab = i
          rw [hl]; exact h.ok.lab _ _ hm
      · exact h.ok.lab _ _ h2
    · obtain ⟨t', h2, h3, _⟩ := keys_mem (hk i) ht
      have := h.ok.num _ _ h2
      omega
    · have := hk i
      rw [h.ok.far i hi] at this
      exact List.map_eq_nil_iff.1 (by rw [this]; rfl)
    · obtain ⟨t', h2, _, h3⟩ := keys_mem (hk i) ht
      rw [← h3]
      exact h.ok.base _ _ h2
theorem setT_set (T : Nat → List TE) (l : Nat) (L M : List TE) : setT (setT T l L) l M = setT T l M := by
  funext j; unfold setT; split <;> rfl
theorem setT_self (T : Nat → List TE) (l : Nat) : setT T l (T l) = T := by
  funext j; unfold setT; split
  · rename_i h; rw [h]
  · rfl
end
end Go.Proofs.Ytpjfnmmgfmfcfaa
