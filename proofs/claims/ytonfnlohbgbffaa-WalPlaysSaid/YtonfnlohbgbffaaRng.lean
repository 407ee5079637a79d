/- Maps whose keys come out one by one ('for k := range m'). -/
import Derived.Test.YtonfnlohbgbffaaMap
import Derived.Test.YtonfnlohbgbffaaChg
import Derived.Test.YtonfnlohbgbffaaRun
import Derived.Maps.RangeRun
set_option linter.unusedVariables false
set_option linter.unusedSimpArgs false
namespace Go.Proofs.Ytonfnlohbgbffaa
open Go.RowKit
open Go.Maps (Keyed)

/-- A map's entries were born one by one. -/
def BN (w : World) (g : Nat) : Prop := ∃ E clock, w.heap[g]? = some (.map E clock) ∧ (E.toList.map (·.born)).Nodup ∧ ∀ x ∈ E.toList, x.born < clock
/-- How many entries are still to come. -/
def rngLeft (w : World) (g r : Nat) : Nat := match w.heap[g]?, w.heap[r]? with
  | some (.map E _), some (.mapIter _ _ seen _) => (leftOf E seen).size
  | _, _ => 0

theorem heap_sb_same {w : World} {r : Nat} {o : Obj} (h : w.heap[r]? = some o) (o' : Obj) : (Go.ChangeMaps.setBlock w r o').heap[r]? = some o' := by
  have hlt := rowlt h
  simp [Go.ChangeMaps.setBlock, Array.set!_eq_setIfInBounds, Array.getElem?_setIfInBounds, hlt]
theorem heap_sb_other {w : World} {r : Nat} {o : Obj} (h : w.heap[r]? = some o) (o' : Obj) {j : Nat} (hj : j ≠ r) : (Go.ChangeMaps.setBlock w r o').heap[j]? = w.heap[j]? := by
  simp [Go.ChangeMaps.setBlock, Array.set!_eq_setIfInBounds, Array.getElem?_setIfInBounds, Ne.symm hj]
theorem left_push (E : Array MapEntry) (s : Array Nat) (x : MapEntry) (hx : x ∈ E.toList) (hs : s.contains x.born = false) : (leftOf E (s.push x.born)).size < (leftOf E s).size := by
  unfold leftOf
  have h0 : ∀ (p : MapEntry → Bool), (E.filter p).size = (E.toList.filter p).length := fun p => by rw [← Array.toList_filter, Array.length_toList]
  rw [h0, h0]
  have h1 : List.filter (fun e => !(s.push x.born).contains e.born) E.toList = List.filter (fun e => !(e.born == x.born)) (List.filter (fun e => !s.contains e.born) E.toList) := by
    rw [List.filter_filter]
    apply List.filter_congr
    intro e _
    rw [Array.contains_push, Bool.not_or, Bool.and_comm]
  rw [h1]
  have h2 : x ∈ List.filter (fun e => !s.contains e.born) E.toList := List.mem_filter.2 ⟨hx, by rw [hs]; rfl⟩
  rcases Nat.lt_or_ge (List.filter (fun e => !(e.born == x.born)) (List.filter (fun e => !s.contains e.born) E.toList)).length (List.filter (fun e => !s.contains e.born) E.toList).length with h3 | h3
  · exact h3
  · have h4 := List.length_filter_eq_length_iff.1 (Nat.le_antisymm (List.length_filter_le _ _) h3) x h2
    simp at h4

section
variable {κ α : Type} [DecidableEq κ] {P : Program} {k t e : TypeId} {w w' : World} {g r : Nat} {kv : κ → Value} {vv : α → Value} {F : κ → Option α} {done : κ → Bool}
theorem BN.keepAt (h : BN w g) (hk : w'.heap[g]? = w.heap[g]?) : BN w' g := by
  obtain ⟨E, c, h, r⟩ := h
  exact ⟨E, c, by rw [hk]; exact h, r⟩
theorem BN.lt (h : BN w g) : g < w.heap.size := by obtain ⟨E, c, h, _⟩ := h; exact rowlt h
theorem BN.keep (h : BN w g) (hb : Below w.heap.size w w') : BN w' g := h.keepAt (hb.block g h.lt)
theorem BN.made (w : World) : BN (w.alloc (.map #[] 0)) w.heap.size := ⟨#[], 0, heap_alloc_last w _, by simp, by simp⟩
omit [DecidableEq κ] in
theorem BN.update (hb : BN w g) (h : MK w P k g kv vv F) (K : Keyed P k) (hi : ∀ a b, kv a = kv b → a = b) (ht : P.underlying t = some (.map k e)) (a : κ) {l : Lit} (hl : keyOf P k (kv a) = some l) (b : α)
    (hr : (Instr.mapUpdate t (.map (some g)) (kv a) (vv b)).run P w = .ok () w') : BN w' g := by
  obtain ⟨E', c', e1, e2, e3⟩ := hb
  obtain ⟨E, clock, h1, hd, h3, h4, h5, h6, h⟩ := h.find K hi a hl w
  rw [h1] at e1
  injection e1 with e1
  injection e1 with e4 e5
  subst e4
  subst e5
  rcases h with ⟨hf, hrn, hne⟩ | ⟨b0, j, x, hf, hrn, hx, hk, hv⟩
  · have : (Instr.mapUpdate t (.map (some g)) (kv a) (vv b)).run P w = .ok () (Go.ChangeMaps.setBlock w g (.map (E.push ⟨kv a, vv b, clock⟩) (clock + 1))) := by
      simp [Instr.mapUpdate, run_underlying ht, MapKept.run_getObj_map h1, K.check w false hl, hrn, MapKept.run_setObj_map _ h1, Result.andThen, Go.ChangeMaps.setBlock]
    rw [this] at hr
    injection hr with _ hr
    subst hr
    refine ⟨_, _, Go.ChangeMaps.heap_setBlock_same h1 _, ?_, ?_⟩
    · rw [Array.toList_push, List.map_append, List.nodup_append]
      refine ⟨e2, by simp, fun x hx y hy => ?_⟩
      obtain ⟨z, hz, rfl⟩ := List.mem_map.1 hx
      simp only [List.map_cons, List.map_nil, List.mem_singleton] at hy
      have := e3 z hz
      omega
    · intro x hx
      simp only [Array.toList_push, List.mem_append, List.mem_singleton] at hx
      rcases hx with hx | rfl
      · have := h6 x hx; omega
      · show clock < clock + 1; omega
  · obtain ⟨hj, hxe⟩ := List.getElem?_eq_some_iff.1 hx
    have hj' : j < E.size := by simpa using hj
    have hjE : E[j]? = some x := by simpa using hx
    have hxk : (((E[j]?).map (·.key)).getD (kv a)) = kv a := by rw [hjE]; exact hk
    have : ∃ E2 : Array MapEntry, (Instr.mapUpdate t (.map (some g)) (kv a) (vv b)).run P w = .ok () (Go.ChangeMaps.setBlock w g (.map E2 clock)) ∧ E2.toList.map (·.born) = E.toList.map (·.born) := by
      refine ⟨E.modify j fun e => { e with key := kv a, val := vv b }, ?_, ?_⟩
      · simp [Instr.mapUpdate, run_underlying ht, MapKept.run_getObj_map h1, K.check w false hl, hrn, hxk, K.stays w hl, MapKept.run_setObj_map _ h1, Result.andThen, Go.ChangeMaps.setBlock]
      · rw [Array.toList_modify, Go.ChangeMaps.modify_eq_set _ _ _ _ hx, List.map_set]
        apply List.ext_getElem (by simp)
        intro i h7 h8
        rw [List.getElem_set]
        split
        · next h9 => subst h9; simp only [List.getElem_map, hxe]
        · rfl
    obtain ⟨E2, h7, h8⟩ := this
    rw [h7] at hr
    injection hr with _ hr
    subst hr
    refine ⟨_, _, Go.ChangeMaps.heap_setBlock_same h1 _, by rw [h8]; exact e2, fun x hx => ?_⟩
    have : x.born ∈ E2.toList.map (·.born) := List.mem_map_of_mem hx
    rw [h8] at this
    obtain ⟨y, hy, h9⟩ := List.mem_map.1 this
    have := e3 y hy
    omega
omit [DecidableEq κ] in
theorem BN.delete (hb : BN w g) (h : MK w P k g kv vv F) (K : Keyed P k) (hi : ∀ a b, kv a = kv b → a = b) (ht : P.underlying t = some (.map k e)) (a : κ) {l : Lit} (hl : keyOf P k (kv a) = some l) (ty : TypeId)
    (hr : (Builtin.delete_ #[t, k] ty #[.map (some g), kv a]).run P w = .ok (.tuple #[]) w') : BN w' g := by
  obtain ⟨E', c', e1, e2, e3⟩ := hb
  obtain ⟨E, clock, h1, hd, h3, h4, h5, h6, h⟩ := h.find K hi a hl w
  rw [h1] at e1
  injection e1 with e1
  injection e1 with e4 e5
  subst e4
  subst e5
  rcases h with ⟨hf, hrn, hne⟩ | ⟨b0, j, x, hf, hrn, hx, hk, hv⟩
  · have : (Builtin.delete_ #[t, k] ty #[.map (some g), kv a]).run P w = .ok (.tuple #[]) (Go.ChangeMaps.setBlock w g (.map E clock)) := by
      simp [Builtin.delete_, run_underlying ht, MapKept.run_getObj_map h1, K.check w _ hl, hrn, MapKept.run_setObj_map _ h1, Result.andThen, Go.ChangeMaps.setBlock]
    rw [this] at hr
    injection hr with _ hr
    subst hr
    exact ⟨_, _, Go.ChangeMaps.heap_setBlock_same h1 _, e2, e3⟩
  · have : (Builtin.delete_ #[t, k] ty #[.map (some g), kv a]).run P w = .ok (.tuple #[]) (Go.ChangeMaps.setBlock w g (.map (E.eraseIdxIfInBounds j) clock)) := by
      simp [Builtin.delete_, run_underlying ht, MapKept.run_getObj_map h1, K.check w _ hl, hrn, MapKept.run_setObj_map _ h1, Result.andThen, Go.ChangeMaps.setBlock]
    rw [this] at hr
    injection hr with _ hr
    subst hr
    have hsub : (E.eraseIdxIfInBounds j).toList = E.toList.eraseIdx j := by simp
    refine ⟨_, _, Go.ChangeMaps.heap_setBlock_same h1 _, ?_, fun y hy => ?_⟩
    · rw [hsub]
      exact e2.sublist ((List.eraseIdx_sublist _ _).map _)
    · rw [hsub] at hy
      exact e3 y (List.mem_of_mem_eraseIdx hy)

/-- A map's keys are coming: those that came are marked. -/
structure IT (w : World) (P : Program) (k : TypeId) (g r : Nat) (kv : κ → Value) (vv : α → Value) (F : κ → Option α) (done : κ → Bool) : Prop where
  mp : MK w P k g kv vv F
  it : ∃ E clock seen, w.heap[g]? = some (.map E clock) ∧ w.heap[r]? = some (.mapIter (some g) clock seen clock) ∧ (E.toList.map (·.born)).Nodup ∧ (∀ x ∈ E.toList, x.born < clock) ∧ ∀ x ∈ E.toList, ∀ a, x.key = kv a → seen.contains x.born = done a
  ne : r ≠ g
omit [DecidableEq κ] in
theorem IT.bn (h : IT w P k g r kv vv F done) : BN w g := by
  obtain ⟨E, c, s, h1, _, h3, h4, _⟩ := h.it
  exact ⟨E, c, h1, h3, h4⟩
omit [DecidableEq κ] in
theorem IT.keepAt (h : IT w P k g r kv vv F done) (h1 : w'.heap[g]? = w.heap[g]?) (h2 : w'.heap[r]? = w.heap[r]?) : IT w' P k g r kv vv F done := by
  refine ⟨h.mp.keepAt h1, ?_, h.ne⟩
  obtain ⟨E, c, s, e1, e2, e3⟩ := h.it
  exact ⟨E, c, s, by rw [h1]; exact e1, by rw [h2]; exact e2, e3⟩
omit [DecidableEq κ] in
theorem MK.range (h : MK w P k g kv vv F) (hb : BN w g) (ht : P.underlying t = some (.map k e)) :
    (Instr.range t (.map (some g))).run P w = .ok (.pointer (some ⟨w.heap.size, 0, none⟩)) (w.alloc (.mapIter (some g) (match w.heap[g]? with | some (.map _ c) => c | _ => 0) #[] (match w.heap[g]? with | some (.map _ c) => c | _ => 0))) ∧
      IT (w.alloc (.mapIter (some g) (match w.heap[g]? with | some (.map _ c) => c | _ => 0) #[] (match w.heap[g]? with | some (.map _ c) => c | _ => 0))) P k g w.heap.size kv vv F (fun _ => false) := by
  obtain ⟨E, c, e1, e2, e3⟩ := hb
  have hlt := h.lt
  rw [e1]
  simp only
  refine ⟨?_, (h.keep (bnew _ _)), ⟨E, c, #[], ?_, heap_alloc_last _ _, e2, e3, fun x _ a _ => by simp⟩, by omega⟩
  · simp [Instr.range, run_underlying ht, MapKept.run_getObj_map e1, Result.andThen]
  · rw [(bnew w _).block g hlt]; exact e1
omit [DecidableEq κ] in
theorem IT.left_lt (h : IT w P k g r kv vv F done) : r < w.heap.size := by
  obtain ⟨E, c, s, _, h2, _⟩ := h.it
  exact rowlt h2
theorem IT.next (h : IT w P k g r kv vv F done) (hi : ∀ a b, kv a = kv b → a = b) (ty : TypeId) :
    ((∀ a, F a ≠ none → done a = true) ∧ (Instr.next (.pointer (some ⟨r, 0, none⟩)) false ty).run P w = .ok (.tuple #[.bool false]) w) ∨
    ∃ a b w', F a = some b ∧ done a = false ∧ (Instr.next (.pointer (some ⟨r, 0, none⟩)) false ty).run P w = .ok (.tuple #[.bool true, kv a, vv b]) w' ∧ IT w' P k g r kv vv F (fun x => decide (x = a) || done x) ∧
      Chg (fun j => j = r) w w' ∧ rngLeft w' g r < rngLeft w g r ∧ (Instr.entry (.pointer (some ⟨r, 0, none⟩))).run P w' = .ok (.tuple #[kv a, vv b]) w' := by
  obtain ⟨E, c, s, e1, e2, e3, e4, e5⟩ := h.it
  obtain ⟨E', c', m1, m2, m3, m4, m5, m6⟩ := h.mp
  rw [e1] at m1
  injection m1 with m1
  injection m1 with m7 m8
  subst m7
  subst m8
  rcases run_next_at (P := P) w ty r g c c s E c e2 e1 e4 (Nat.le_refl _) with ⟨h0, hr⟩ | ⟨x, hx, w1, hw1, hr⟩
  · refine .inl ⟨fun a ha => ?_, hr⟩
    obtain ⟨b, hb⟩ := Option.ne_none_iff_exists'.1 ha
    obtain ⟨x, hx, hk, _⟩ := m5 a b hb
    rw [← e5 x hx a hk]
    have hl0 : leftOf E s = #[] := Array.eq_empty_of_size_eq_zero h0
    unfold leftOf at hl0
    rw [Array.filter_eq_empty_iff] at hl0
    have := hl0 x (by simpa using hx)
    simpa using this
  · have hxE : x ∈ E.toList ∧ s.contains x.born = false := by
      unfold leftOf at hx
      simp only [Array.toList_filter, List.mem_filter, Bool.not_eq_true'] at hx
      exact hx
    obtain ⟨a, b, f1, f2, f3⟩ := m4 x hxE.1
    rw [f2, f3] at hr
    have hh1 : w1.heap = w.heap := by rcases hw1 with rfl | rfl <;> rfl
    have hrw : w1.heap[r]? = some (.mapIter (some g) c s c) := by rw [hh1]; exact e2
    have hg' : (Go.ChangeMaps.setBlock w1 r (.mapIter (some g) c (s.push x.born) c)).heap[g]? = some (.map E c) := by
      rw [heap_sb_other hrw _ (fun e => h.ne e.symm), hh1]; exact e1
    have hr' : (Go.ChangeMaps.setBlock w1 r (.mapIter (some g) c (s.push x.born) c)).heap[r]? = some (.mapIter (some g) c (s.push x.born) c) := heap_sb_same hrw _
    refine .inr ⟨a, b, Go.ChangeMaps.setBlock w1 r (.mapIter (some g) c (s.push x.born) c), f1, ?_, hr, ⟨h.mp.keepAt (by rw [hg', e1]), ⟨E, c, s.push x.born, hg', hr', e3, e4, fun y hy a' hk => ?_⟩, h.ne⟩, ?_, ?_, ?_⟩
    · rw [← e5 x hxE.1 a f2]; exact hxE.2
    · have hse := e5 y hy a' hk
      rw [Array.contains_push, hse]
      by_cases he : a' = a
      · subst he
        have hyx : y = x := by
          obtain ⟨i, hi1, rfl⟩ := List.getElem_of_mem hy
          obtain ⟨j, hj1, rfl⟩ := List.getElem_of_mem hxE.1
          have hp := List.pairwise_iff_getElem.1 m2
          rcases Nat.lt_trichotomy i j with h8 | h8 | h8
          · exact absurd (by rw [hk, f2]) (hp i j hi1 hj1 h8)
          · subst h8; rfl
          · exact absurd (by rw [hk, f2]) (hp j i hj1 hi1 h8)
        rw [hyx]
        simp
      · have hne : y.born ≠ x.born := fun e => he (by
          have : y = x := by
            obtain ⟨i, hi1, rfl⟩ := List.getElem_of_mem hy
            obtain ⟨j, hj1, rfl⟩ := List.getElem_of_mem hxE.1
            have hp := List.pairwise_iff_getElem.1 e3
            rcases Nat.lt_trichotomy i j with h8 | h8 | h8
            · exact (hp i j (by simpa using hi1) (by simpa using hj1) h8 (by rw [List.getElem_map, List.getElem_map]; exact e)).elim
            · subst h8; rfl
            · exact (hp j i (by simpa using hj1) (by simpa using hi1) h8 (by rw [List.getElem_map, List.getElem_map]; exact e.symm)).elim
          rw [this, f2] at hk
          exact (hi _ _ hk).symm)
        rw [decide_eq_false he]
        simp [hne]
    · refine ⟨?_, ?_, ?_, ?_, fun j _ hj => ?_⟩
      · rcases hw1 with rfl | rfl <;> rfl
      · rcases hw1 with rfl | rfl <;> rfl
      · rcases hw1 with rfl | rfl <;> rfl
      · rw [← hh1]; simp [Go.ChangeMaps.setBlock]
      · rw [heap_sb_other hrw _ hj, hh1]
    · unfold rngLeft
      rw [hg', hr', e1, e2]
      simp only
      exact left_push E s x hxE.1 hxE.2
    · have := run_entry_at (P := P) (Go.ChangeMaps.setBlock w1 r (.mapIter (some g) c (s.push x.born) c)) r g c s E c x hr' hg' hxE.1 e3
      rw [f2, f3] at this
      exact this

/-- A map whose entries were born one by one. -/
structure MB (w : World) (P : Program) (k : TypeId) (g : Nat) (kv : κ → Value) (vv : α → Value) (F : κ → Option α) : Prop where
  mp : MK w P k g kv vv F
  bn : BN w g
omit [DecidableEq κ] in
theorem MB.keepAt (h : MB w P k g kv vv F) (h1 : w'.heap[g]? = w.heap[g]?) : MB w' P k g kv vv F := ⟨h.mp.keepAt h1, h.bn.keepAt h1⟩
omit [DecidableEq κ] in
theorem MB.keep (h : MB w P k g kv vv F) (hb : Below w.heap.size w w') : MB w' P k g kv vv F := ⟨h.mp.keep hb, h.bn.keep hb⟩
omit [DecidableEq κ] in
theorem IT.mb (h : IT w P k g r kv vv F done) : MB w P k g kv vv F := ⟨h.mp, h.bn⟩
section
variable {ops : Array Oper} {Q : Exit → Act → World → Prop} {a : Act} {rest : List Oper} {o : Oper}
theorem wpList_update_mb (hw : Region.wanted o (yielded ops a.tmps) = true) (hd : o.dst = none) (h : MB w P k g kv vv F) (K : Keyed P k) (hi : ∀ a b, kv a = kv b → a = b) (ht : P.underlying t = some (.map k e))
    (m x v : Operand) (ho : o.op = .mapUpdate t m x v) (hm : a.eval m = .map (some g)) (y : κ) (hx : a.eval x = kv y) {l : Lit} (hl : keyOf P k (kv y) = some l) (b : α) (hv : a.eval v = vv b)
    (hk : ∀ w', MB w' P k g kv vv (putF F y b) → One w w' (some g) → wpList P ops Q rest a w') : wpList P ops Q (o :: rest) a w := by
  obtain ⟨w', hr, h1, h2⟩ := h.mp.update K hi ht y hl b
  refine wpList_skip hw hd (w' := w') ?_ (hk w' ⟨h1, h.bn.update h.mp K hi ht y hl b hr⟩ h2)
  unfold execOp
  simp only [ho, hm, hx, hv, Sem.run_bind, hr, Result.andThen_ok]
  rfl
theorem wpList_delete_mb (hw : Region.wanted o (yielded ops a.tmps) = true) (d : Option Tmp) (hd : o.dst = d) (h : MB w P k g kv vv F) (K : Keyed P k) (hi : ∀ a b, kv a = kv b → a = b) (ht : P.underlying t = some (.map k e))
    (m x : Operand) (ho : o.op = .call { callee := .builtin .delete, args := #[m, x], argTypes := #[t, k] }) (hm : a.eval m = .map (some g)) (y : κ) (hx : a.eval x = kv y) {l : Lit} (hl : keyOf P k (kv y) = some l)
    (hk : ∀ w', MB w' P k g kv vv (delF F y) → One w w' (some g) → wpList P ops Q rest (a.put d (.tuple #[])) w') : wpList P ops Q (o :: rest) a w := by
  obtain ⟨w', hr, h1, h2⟩ := h.mp.delete K hi ht y hl o.type
  refine wpList_by hw d hd (w' := w') ?_ (hk w' ⟨h1, h.bn.delete h.mp K hi ht y hl o.type hr⟩ h2)
  unfold execOp
  simp only [ho, resolve, invoke, builtin, Sem.run_bind, Sem.run_pure, List.map_toArray, List.map_cons, List.map_nil, hm, hx, hr, Result.andThen_ok]
omit [DecidableEq κ] in
theorem wpList_range_mb (hw : Region.wanted o (yielded ops a.tmps) = true) (d : Option Tmp) (hd : o.dst = d) (h : MB w P k g kv vv F) (ht : P.underlying t = some (.map k e))
    (m : Operand) (ho : o.op = .range t m) (hm : a.eval m = .map (some g))
    (hk : ∀ w', IT w' P k g w.heap.size kv vv F (fun _ => false) → Below w.heap.size w w' → wpList P ops Q rest (a.put d (.pointer (some ⟨w.heap.size, 0, none⟩))) w') : wpList P ops Q (o :: rest) a w := by
  obtain ⟨hr, h1⟩ := h.mp.range h.bn ht
  refine wpList_by hw d hd (w' := _) ?_ (hk _ h1 (bnew _ _))
  unfold execOp
  simp only [ho, hm, Sem.run_bind, hr, Result.andThen_ok]
  rfl
theorem wpList_next_it (hw : Region.wanted o (yielded ops a.tmps) = true) (d : Option Tmp) (hd : o.dst = d) (h : IT w P k g r kv vv F done) (hi : ∀ a b, kv a = kv b → a = b)
    (m : Operand) (ho : o.op = .next m false) (hm : a.eval m = .pointer (some ⟨r, 0, none⟩))
    (h0 : (∀ x, F x ≠ none → done x = true) → wpList P ops Q rest (a.put d (.tuple #[.bool false])) w)
    (h1 : ∀ x y w', F x = some y → done x = false → IT w' P k g r kv vv F (fun z => decide (z = x) || done z) → Chg (fun j => j = r) w w' → rngLeft w' g r < rngLeft w g r →
      (Instr.entry (.pointer (some ⟨r, 0, none⟩))).run P w' = .ok (.tuple #[kv x, vv y]) w' → wpList P ops Q rest (a.put d (.tuple #[.bool true, kv x, vv y])) w') : wpList P ops Q (o :: rest) a w := by
  rcases h.next hi o.type with ⟨h2, hr⟩ | ⟨x, y, w', h2, h3, hr, h4, h5, h6, h7⟩
  · refine wpList_by hw d hd (w' := w) ?_ (h0 h2)
    unfold execOp
    simp only [ho, hm, Sem.run_bind, hr, Result.andThen_ok]
    rfl
  · refine wpList_by hw d hd (w' := w') ?_ (h1 x y w' h2 h3 h4 h5 h6 h7)
    unfold execOp
    simp only [ho, hm, Sem.run_bind, hr, Result.andThen_ok]
    rfl
omit [DecidableEq κ] in
theorem wpList_entry_it {v : Value} (hw : Region.wanted o (yielded ops a.tmps) = true) (d : Option Tmp) (hd : o.dst = d) (he : (Instr.entry (.pointer (some ⟨r, 0, none⟩))).run P w = .ok v w)
    (m : Operand) (ho : o.op = .entry m) (hm : a.eval m = .pointer (some ⟨r, 0, none⟩)) (hk : wpList P ops Q rest (a.put d v) w) : wpList P ops Q (o :: rest) a w := by
  refine wpList_by hw d hd (w' := w) ?_ hk
  unfold execOp
  simp only [ho, hm, Sem.run_bind, he, Result.andThen_ok]
  rfl
end
end
end Go.Proofs.Ytonfnlohbgbffaa
