/- Maps in regions that draw their order: a new entry, its element, a store, a delete: the one operation that may come up. -/
import Derived.Test.YtapcbfeifeobhaaMap
import Derived.Test.YtapcbfeifeobhaaGen
set_option linter.unusedVariables false
set_option linter.unusedSimpArgs false
namespace Go.Proofs.Ytapcbfeifeobhaa
open Go.RowKit
open Go.Maps (Keyed)

theorem setCells_whole {w : World} {g : Nat} {cur cs : Array Value} {t : TypeId} (h : w.heap[g]? = some (.cells cur t (0, 0))) (hs : cs.size = cur.size) :
    (w.setCells g 0 cs.toList).heap[g]? = some (.cells cs t (0, 0)) ∧ One w (w.setCells g 0 cs.toList) (some g) := by
  refine ⟨?_, One.setCells _ 0 (One.refl w _)⟩
  have e : ∀ (xs : Array Value), xs = rowArr xs.size (fun j => xs.toList.getD j undef) := fun xs => by
    apply Array.ext
    · simp [rowArr]
    · intro i h1 h2
      simp [rowArr, List.getD_eq_getElem?_getD, h1]
  have hr : w.rowIs g t cs.size (fun j => cur.toList.getD j undef) := by
    apply rowIs_of_arr
    rw [hs, ← e cur]
    exact h
  have h2 := rowIs_piece (m := cs.size) (off := 0) (h := fun j => cs.toList.getD j undef) hr
  rw [← e cs] at h2
  have h3 := rowIs_arr h2
  rw [h3]
  congr 2
  conv => rhs; rw [e cs]
  exact rowArr_congr (fun i hi => by rw [if_pos (by omega)]; rfl)
theorem heap_setCell_at {w : World} {g off : Nat} {cs : Array Value} {t : TypeId} {fr : Nat × Nat} (h : w.heap[g]? = some (.cells cs t fr)) (v : Value) (ho : off < cs.size) :
    (w.setCell ⟨g, off, none⟩ v).heap[g]? = some (.cells (cs.setIfInBounds off v) t fr) := by
  obtain ⟨hg, hx⟩ := Array.getElem?_eq_some_iff.1 h
  simp [World.setCell, h, hg, ho, Array.getElem_modify, hx]
theorem exec_store_agg {P : Program} {ρ : Operand → Value} {o : Oper} {w : World} (ty : TypeId) (x y : Operand) (ho : o.op = .store ty x y) (g off : Nat) (cs : Array Value) (hx : ρ x = .pointer (some ⟨g, off, none⟩)) (hy : ρ y = .agg cs)
    (hi : (P.info? ty).map (·.size) = some cs.size) (hc : ∀ j, j < cs.size → (w.cell? ⟨g, off + j, none⟩).isSome = true) (hf : ∀ j, j < cs.size → w.frozen? ⟨g, off + j, none⟩ = false) (h1 : ∀ v ∈ cs.toList, v.oneCell' = true) :
    (execOp ρ o).run P w = .ok .skip (w.setCells g off cs.toList) := by
  unfold execOp
  simp only [ho, hx, hy, Instr.storeAt, Instr.sureAddr, Sem.run_bind, Sem.run_pure, Result.andThen_ok, run_storeVar_piece w ty g off cs hi hc hf h1]

section
variable {κ α : Type} [DecidableEq κ] {P : Program} {k t e : TypeId} {w : World} {g : Nat} {kv : κ → Value} {vv : α → Value} {F : κ → Option α}
  {ops : Array Oper} {Q : Exit → Act → World → Prop} {md : Region.Mode} {oi : Oper} {fuel : Nat} {listed : Array Bool} {a : Act}

omit [DecidableEq κ] in
theorem storeWholeH {S : World → Prop} (i : Nat) (hi : ops[i]? = some oi) (hw : Region.wanted oi (yielded ops a.tmps) = true) (hr : Region.ready md ops listed = [i]) (hd : oi.dst = none) (ty : TypeId) (x y : Operand) (ho : oi.op = .store ty x y) (cs cur : Array Value) (t' : TypeId) (hx : a.eval x = .pointer (some ⟨g, 0, none⟩)) (hy : a.eval y = .agg cs)
    (hz : (P.info? ty).map (·.size) = some cs.size) (hb : w.heap[g]? = some (.cells cur t' (0, 0))) (hs : cs.size = cur.size) (h1 : ∀ v ∈ cs.toList, v.oneCell' = true)
    (hk : ∀ w', w'.heap[g]? = some (.cells cs t' (0, 0)) → One w w' (some g) → S w' ∧ wpAnyH P md ops Q S fuel (listed.setIfInBounds i true) a w') : wpAnyH P md ops Q S (fuel + 1) listed a w := by
  obtain ⟨e1, e2⟩ := setCells_whole hb hs
  obtain ⟨hS, hk⟩ := hk _ e1 e2
  exact runSkipH i hi hw hr hd (exec_store_agg ty x y ho g 0 cs hx hy hz (fun j hj => by rw [Nat.zero_add, rowcell hb, Array.getElem?_eq_getElem (by omega)]; rfl) (fun j hj => rowfree hb _) h1) hS hk
omit [DecidableEq κ] in
theorem storeCellH {S : World → Prop} (i : Nat) (hi : ops[i]? = some oi) (hw : Region.wanted oi (yielded ops a.tmps) = true) (hr : Region.ready md ops listed = [i]) (hd : oi.dst = none) (ty : TypeId) (x y : Operand) (ho : oi.op = .store ty x y) (off : Nat) (v : Value) (cur : Array Value) (t' : TypeId) (hx : a.eval x = .pointer (some ⟨g, off, none⟩)) (hy : a.eval y = v)
    (hu : (match P.underlying ty with | some (.struct _) | some (.array _ _) => false | some _ => true | none => false) = true) (hz : (P.info? ty).map (·.size) = some 1) (h1 : v.oneCell' = true) (hb : w.heap[g]? = some (.cells cur t' (0, 0))) (hs : off < cur.size)
    (hk : ∀ w', w'.heap[g]? = some (.cells (cur.setIfInBounds off v) t' (0, 0)) → One w w' (some g) → S w' ∧ wpAnyH P md ops Q S fuel (listed.setIfInBounds i true) a w') : wpAnyH P md ops Q S (fuel + 1) listed a w := by
  obtain ⟨hS, hk⟩ := hk _ (heap_setCell_at hb v hs) (One.setCells [v] off (One.refl w _))
  exact runSkipH i hi hw hr hd (exec_store_cell ty x y ho g off v hx hy hu hz h1 (by rw [rowcell hb, Array.getElem?_eq_getElem hs]; rfl) (rowfree hb _)) hS hk

omit [DecidableEq κ] in
theorem entryH {S : World → Prop} (i : Nat) (hi : ops[i]? = some oi) (hw : Region.wanted oi (yielded ops a.tmps) = true) (hr : Region.ready md ops listed = [i]) (d : Option Tmp) (hd : oi.dst = d)
    (m x : Operand) (ho : oi.op = .mapEntry t m x) (h : MK w P k g kv vv F) (K : Keyed P k) (hinj : ∀ a b, kv a = kv b → a = b) (ht : P.underlying t = some (.map k e)) {z : Value} (hz : (P.info? e).bind (·.zero) = some z)
    (hm : a.eval m = .map (some g)) (y : κ) (hx : a.eval x = kv y) {l : Lit} (hl : keyOf P k (kv y) = some l) (hF : F y = none)
    (hk : ∀ w' (c : Nat), Half w' P k g kv vv F y z c → One w w' (some g) → S w' ∧ wpAnyH P md ops Q S fuel (listed.setIfInBounds i true) (a.put d (.tuple #[z, .int .i64 c])) w') : wpAnyH P md ops Q S (fuel + 1) listed a w := by
  obtain ⟨w', c, hrun, h1, h2⟩ := h.exec_entry (ρ := a.eval) (o := oi) K hinj ht hz m x ho hm y hx hl hF
  obtain ⟨hS, hk⟩ := hk w' c h1 h2
  exact runH i _ d hi hw hr hd hrun hS hk

theorem halfH {S : World → Prop} (i : Nat) (hi : ops[i]? = some oi) (hw : Region.wanted oi (yielded ops a.tmps) = true) (hr : Region.ready md ops listed = [i]) (hd : oi.dst = none)
    (m x v : Operand) (ho : oi.op = .entryStore t m x v) {y : κ} {z : Value} {c : Nat} (h : Half w P k g kv vv F y z c) (hinj : ∀ a b, kv a = kv b → a = b)
    (hm : a.eval m = .map (some g)) (hx : a.eval x = .int .i64 c) (b : α) (hv : a.eval v = vv b)
    (hk : ∀ w', MK w' P k g kv vv (putF F y b) → One w w' (some g) → S w' ∧ wpAnyH P md ops Q S fuel (listed.setIfInBounds i true) a w') : wpAnyH P md ops Q S (fuel + 1) listed a w := by
  obtain ⟨w', hrun, h1, h2⟩ := h.exec_store (ρ := a.eval) (o := oi) hinj b m x v ho hm hx hv
  obtain ⟨hS, hk⟩ := hk w' h1 h2
  exact runSkipH i hi hw hr hd hrun hS hk

theorem updateH {S : World → Prop} (i : Nat) (hi : ops[i]? = some oi) (hw : Region.wanted oi (yielded ops a.tmps) = true) (hr : Region.ready md ops listed = [i]) (hd : oi.dst = none)
    (m x v : Operand) (ho : oi.op = .mapUpdate t m x v) (h : MK w P k g kv vv F) (K : Keyed P k) (hinj : ∀ a b, kv a = kv b → a = b) (ht : P.underlying t = some (.map k e))
    (hm : a.eval m = .map (some g)) (y : κ) (hx : a.eval x = kv y) {l : Lit} (hl : keyOf P k (kv y) = some l) (b : α) (hv : a.eval v = vv b)
    (hk : ∀ w', MK w' P k g kv vv (putF F y b) → One w w' (some g) → S w' ∧ wpAnyH P md ops Q S fuel (listed.setIfInBounds i true) a w') : wpAnyH P md ops Q S (fuel + 1) listed a w := by
  obtain ⟨w', hrun, h1, h2⟩ := h.exec_update (ρ := a.eval) (o := oi) K hinj ht m x v ho hm y hx hl b hv
  obtain ⟨hS, hk⟩ := hk w' h1 h2
  exact runSkipH i hi hw hr hd hrun hS hk

theorem deleteH {S : World → Prop} (i : Nat) (hi : ops[i]? = some oi) (hw : Region.wanted oi (yielded ops a.tmps) = true) (hr : Region.ready md ops listed = [i]) (d : Option Tmp) (hd : oi.dst = d)
    (m x : Operand) (ho : oi.op = .call { callee := .builtin .delete, args := #[m, x], argTypes := #[t, k] }) (h : MK w P k g kv vv F) (K : Keyed P k) (hinj : ∀ a b, kv a = kv b → a = b) (ht : P.underlying t = some (.map k e))
    (hm : a.eval m = .map (some g)) (y : κ) (hx : a.eval x = kv y) {l : Lit} (hl : keyOf P k (kv y) = some l)
    (hk : ∀ w', MK w' P k g kv vv (delF F y) → One w w' (some g) → S w' ∧ wpAnyH P md ops Q S fuel (listed.setIfInBounds i true) (a.put d (.tuple #[])) w') : wpAnyH P md ops Q S (fuel + 1) listed a w := by
  obtain ⟨w', hrun, h1, h2⟩ := h.exec_delete (ρ := a.eval) (o := oi) K hinj ht m x ho hm y hx hl
  obtain ⟨hS, hk⟩ := hk w' h1 h2
  exact runH i _ d hi hw hr hd hrun hS hk

omit [DecidableEq κ] in
theorem appendH1 {S : World → Prop} (i : Nat) (hi : ops[i]? = some oi) (hw : Region.wanted oi (yielded ops a.tmps) = true) (hr : Region.ready md ops listed = [i]) (d : Option Tmp) (hd : oi.dst = d) (s x : Operand) (t : TypeId)
    (ho : oi.op = .call { callee := .builtin .append, args := #[s, x], argTypes := #[t, t] })
    (base : Nat) (e : TypeId) (z : Value) (size bytes : Nat) (ht : P.underlying t = some (.slice e)) (hinfo : (P.info? e).map (fun i => (i.zero, i.size, i.bytes)) = some (some z, size, bytes)) (hzs : z.cells.size = size) (hsz : 0 < size)
    (v u : Value) (n m : Nat) (xs news : List Value) (hs : a.eval s = v) (hown : w.ownsRow base e size v n xs) (hx : a.eval x = u) (hsr : SR w u m size news) (h1 : ∀ u ∈ news, u.oneCell' = true)
    (h63 : n + m ≤ maxLen) (hbytes : (n + m) * bytes ≤ 140737488355328) (hbase : base ≤ w.heap.size)
    (hk : ∀ v' w', w'.ownsRow base e size v' (n + m) (xs ++ news) → w.grownBy w' v.ownBlock → (v'.ownBlock = v.ownBlock ∨ v'.ownBlock = some w.heap.size) → S w' ∧ wpAnyH P md ops Q S fuel (listed.setIfInBounds i true) (a.put d v') w') : wpAnyH P md ops Q S (fuel + 1) listed a w := by
  obtain ⟨v', w', hrun, h2, h3, h4⟩ := run_append_sr (P := P) oi.type t base e z size bytes ht hinfo hzs hsz v u n m xs news hown hsr h1 h63 hbytes hbase
  obtain ⟨hS, hk⟩ := hk v' w' h2 h3 h4
  refine runH i v' d hi hw hr hd ?_ hS hk
  unfold execOp
  simp only [ho, resolve, invoke, builtin, Sem.run_bind, Sem.run_pure, Result.andThen_ok, List.map_toArray, List.map_cons, List.map_nil, hs, hx, hrun]

omit [DecidableEq κ] in
theorem storeWholeG {S : Array Bool → World → Prop} (i : Nat) (hi : ops[i]? = some oi) (hw : Region.wanted oi (yielded ops a.tmps) = true) (hr : Region.ready md ops listed = [i]) (hd : oi.dst = none) (ty : TypeId) (x y : Operand) (ho : oi.op = .store ty x y) (cs cur : Array Value) (t' : TypeId) (hx : a.eval x = .pointer (some ⟨g, 0, none⟩)) (hy : a.eval y = .agg cs)
    (hz : (P.info? ty).map (·.size) = some cs.size) (hb : w.heap[g]? = some (.cells cur t' (0, 0))) (hs : cs.size = cur.size) (h1 : ∀ v ∈ cs.toList, v.oneCell' = true)
    (hk : ∀ w', w'.heap[g]? = some (.cells cs t' (0, 0)) → One w w' (some g) → S (listed.setIfInBounds i true) w' ∧ wpAnyG P md ops Q S fuel (listed.setIfInBounds i true) a w') : wpAnyG P md ops Q S (fuel + 1) listed a w := by
  obtain ⟨e1, e2⟩ := setCells_whole hb hs
  obtain ⟨hS, hk⟩ := hk _ e1 e2
  exact runSkipG i hi hw hr hd (exec_store_agg ty x y ho g 0 cs hx hy hz (fun j hj => by rw [Nat.zero_add, rowcell hb, Array.getElem?_eq_getElem (by omega)]; rfl) (fun j hj => rowfree hb _) h1) hS hk
omit [DecidableEq κ] in
theorem storeCellG {S : Array Bool → World → Prop} (i : Nat) (hi : ops[i]? = some oi) (hw : Region.wanted oi (yielded ops a.tmps) = true) (hr : Region.ready md ops listed = [i]) (hd : oi.dst = none) (ty : TypeId) (x y : Operand) (ho : oi.op = .store ty x y) (off : Nat) (v : Value) (cur : Array Value) (t' : TypeId) (hx : a.eval x = .pointer (some ⟨g, off, none⟩)) (hy : a.eval y = v)
    (hu : (match P.underlying ty with | some (.struct _) | some (.array _ _) => false | some _ => true | none => false) = true) (hz : (P.info? ty).map (·.size) = some 1) (h1 : v.oneCell' = true) (hb : w.heap[g]? = some (.cells cur t' (0, 0))) (hs : off < cur.size)
    (hk : ∀ w', w'.heap[g]? = some (.cells (cur.setIfInBounds off v) t' (0, 0)) → One w w' (some g) → S (listed.setIfInBounds i true) w' ∧ wpAnyG P md ops Q S fuel (listed.setIfInBounds i true) a w') : wpAnyG P md ops Q S (fuel + 1) listed a w := by
  obtain ⟨hS, hk⟩ := hk _ (heap_setCell_at hb v hs) (One.setCells [v] off (One.refl w _))
  exact runSkipG i hi hw hr hd (exec_store_cell ty x y ho g off v hx hy hu hz h1 (by rw [rowcell hb, Array.getElem?_eq_getElem hs]; rfl) (rowfree hb _)) hS hk

omit [DecidableEq κ] in
theorem entryG {S : Array Bool → World → Prop} (i : Nat) (hi : ops[i]? = some oi) (hw : Region.wanted oi (yielded ops a.tmps) = true) (hr : Region.ready md ops listed = [i]) (d : Option Tmp) (hd : oi.dst = d)
    (m x : Operand) (ho : oi.op = .mapEntry t m x) (h : MK w P k g kv vv F) (K : Keyed P k) (hinj : ∀ a b, kv a = kv b → a = b) (ht : P.underlying t = some (.map k e)) {z : Value} (hz : (P.info? e).bind (·.zero) = some z)
    (hm : a.eval m = .map (some g)) (y : κ) (hx : a.eval x = kv y) {l : Lit} (hl : keyOf P k (kv y) = some l) (hF : F y = none)
    (hk : ∀ w' (c : Nat), Half w' P k g kv vv F y z c → One w w' (some g) → S (listed.setIfInBounds i true) w' ∧ wpAnyG P md ops Q S fuel (listed.setIfInBounds i true) (a.put d (.tuple #[z, .int .i64 c])) w') : wpAnyG P md ops Q S (fuel + 1) listed a w := by
  obtain ⟨w', c, hrun, h1, h2⟩ := h.exec_entry (ρ := a.eval) (o := oi) K hinj ht hz m x ho hm y hx hl hF
  obtain ⟨hS, hk⟩ := hk w' c h1 h2
  exact runG i _ d hi hw hr hd hrun hS hk

theorem halfG {S : Array Bool → World → Prop} (i : Nat) (hi : ops[i]? = some oi) (hw : Region.wanted oi (yielded ops a.tmps) = true) (hr : Region.ready md ops listed = [i]) (hd : oi.dst = none)
    (m x v : Operand) (ho : oi.op = .entryStore t m x v) {y : κ} {z : Value} {c : Nat} (h : Half w P k g kv vv F y z c) (hinj : ∀ a b, kv a = kv b → a = b)
    (hm : a.eval m = .map (some g)) (hx : a.eval x = .int .i64 c) (b : α) (hv : a.eval v = vv b)
    (hk : ∀ w', MK w' P k g kv vv (putF F y b) → One w w' (some g) → S (listed.setIfInBounds i true) w' ∧ wpAnyG P md ops Q S fuel (listed.setIfInBounds i true) a w') : wpAnyG P md ops Q S (fuel + 1) listed a w := by
  obtain ⟨w', hrun, h1, h2⟩ := h.exec_store (ρ := a.eval) (o := oi) hinj b m x v ho hm hx hv
  obtain ⟨hS, hk⟩ := hk w' h1 h2
  exact runSkipG i hi hw hr hd hrun hS hk

theorem updateG {S : Array Bool → World → Prop} (i : Nat) (hi : ops[i]? = some oi) (hw : Region.wanted oi (yielded ops a.tmps) = true) (hr : Region.ready md ops listed = [i]) (hd : oi.dst = none)
    (m x v : Operand) (ho : oi.op = .mapUpdate t m x v) (h : MK w P k g kv vv F) (K : Keyed P k) (hinj : ∀ a b, kv a = kv b → a = b) (ht : P.underlying t = some (.map k e))
    (hm : a.eval m = .map (some g)) (y : κ) (hx : a.eval x = kv y) {l : Lit} (hl : keyOf P k (kv y) = some l) (b : α) (hv : a.eval v = vv b)
    (hk : ∀ w', MK w' P k g kv vv (putF F y b) → One w w' (some g) → S (listed.setIfInBounds i true) w' ∧ wpAnyG P md ops Q S fuel (listed.setIfInBounds i true) a w') : wpAnyG P md ops Q S (fuel + 1) listed a w := by
  obtain ⟨w', hrun, h1, h2⟩ := h.exec_update (ρ := a.eval) (o := oi) K hinj ht m x v ho hm y hx hl b hv
  obtain ⟨hS, hk⟩ := hk w' h1 h2
  exact runSkipG i hi hw hr hd hrun hS hk

theorem deleteG {S : Array Bool → World → Prop} (i : Nat) (hi : ops[i]? = some oi) (hw : Region.wanted oi (yielded ops a.tmps) = true) (hr : Region.ready md ops listed = [i]) (d : Option Tmp) (hd : oi.dst = d)
    (m x : Operand) (ho : oi.op = .call { callee := .builtin .delete, args := #[m, x], argTypes := #[t, k] }) (h : MK w P k g kv vv F) (K : Keyed P k) (hinj : ∀ a b, kv a = kv b → a = b) (ht : P.underlying t = some (.map k e))
    (hm : a.eval m = .map (some g)) (y : κ) (hx : a.eval x = kv y) {l : Lit} (hl : keyOf P k (kv y) = some l)
    (hk : ∀ w', MK w' P k g kv vv (delF F y) → One w w' (some g) → S (listed.setIfInBounds i true) w' ∧ wpAnyG P md ops Q S fuel (listed.setIfInBounds i true) (a.put d (.tuple #[])) w') : wpAnyG P md ops Q S (fuel + 1) listed a w := by
  obtain ⟨w', hrun, h1, h2⟩ := h.exec_delete (ρ := a.eval) (o := oi) K hinj ht m x ho hm y hx hl
  obtain ⟨hS, hk⟩ := hk w' h1 h2
  exact runG i _ d hi hw hr hd hrun hS hk

omit [DecidableEq κ] in
theorem appendG1 {S : Array Bool → World → Prop} (i : Nat) (hi : ops[i]? = some oi) (hw : Region.wanted oi (yielded ops a.tmps) = true) (hr : Region.ready md ops listed = [i]) (d : Option Tmp) (hd : oi.dst = d) (s x : Operand) (t : TypeId)
    (ho : oi.op = .call { callee := .builtin .append, args := #[s, x], argTypes := #[t, t] })
    (base : Nat) (e : TypeId) (z : Value) (size bytes : Nat) (ht : P.underlying t = some (.slice e)) (hinfo : (P.info? e).map (fun i => (i.zero, i.size, i.bytes)) = some (some z, size, bytes)) (hzs : z.cells.size = size) (hsz : 0 < size)
    (v u : Value) (n m : Nat) (xs news : List Value) (hs : a.eval s = v) (hown : w.ownsRow base e size v n xs) (hx : a.eval x = u) (hsr : SR w u m size news) (h1 : ∀ u ∈ news, u.oneCell' = true)
    (h63 : n + m ≤ maxLen) (hbytes : (n + m) * bytes ≤ 140737488355328) (hbase : base ≤ w.heap.size)
    (hk : ∀ v' w', w'.ownsRow base e size v' (n + m) (xs ++ news) → w.grownBy w' v.ownBlock → (v'.ownBlock = v.ownBlock ∨ v'.ownBlock = some w.heap.size) → S (listed.setIfInBounds i true) w' ∧ wpAnyG P md ops Q S fuel (listed.setIfInBounds i true) (a.put d v') w') : wpAnyG P md ops Q S (fuel + 1) listed a w := by
  obtain ⟨v', w', hrun, h2, h3, h4⟩ := run_append_sr (P := P) oi.type t base e z size bytes ht hinfo hzs hsz v u n m xs news hown hsr h1 h63 hbytes hbase
  obtain ⟨hS, hk⟩ := hk v' w' h2 h3 h4
  refine runG i v' d hi hw hr hd ?_ hS hk
  unfold execOp
  simp only [ho, resolve, invoke, builtin, Sem.run_bind, Sem.run_pure, Result.andThen_ok, List.map_toArray, List.map_cons, List.map_nil, hs, hx, hrun]

omit [DecidableEq κ] in
theorem execAppend {ρ : Operand → Value} {o : Oper} (s x : Operand) (t : TypeId)
    (ho : o.op = .call { callee := .builtin .append, args := #[s, x], argTypes := #[t, t] })
    (base : Nat) (e : TypeId) (z : Value) (size bytes : Nat) (ht : P.underlying t = some (.slice e)) (hinfo : (P.info? e).map (fun i => (i.zero, i.size, i.bytes)) = some (some z, size, bytes)) (hzs : z.cells.size = size) (hsz : 0 < size)
    (v u : Value) (n m : Nat) (xs news : List Value) (hs : ρ s = v) (hown : w.ownsRow base e size v n xs) (hx : ρ x = u) (hsr : SR w u m size news) (h1 : ∀ u ∈ news, u.oneCell' = true)
    (h63 : n + m ≤ maxLen) (hbytes : (n + m) * bytes ≤ 140737488355328) (hbase : base ≤ w.heap.size) :
    ∃ v' w', (execOp ρ o).run P w = .ok (.value v') w' ∧ w'.ownsRow base e size v' (n + m) (xs ++ news) ∧ w.grownBy w' v.ownBlock ∧ (v'.ownBlock = v.ownBlock ∨ v'.ownBlock = some w.heap.size) := by
  obtain ⟨v', w', hrun, h2, h3, h4⟩ := run_append_sr (P := P) o.type t base e z size bytes ht hinfo hzs hsz v u n m xs news hown hsr h1 h63 hbytes hbase
  refine ⟨v', w', ?_, h2, h3, h4⟩
  unfold execOp
  simp only [ho, resolve, invoke, builtin, Sem.run_bind, Sem.run_pure, Result.andThen_ok, List.map_toArray, List.map_cons, List.map_nil, hs, hx, hrun]
omit [DecidableEq κ] in
theorem appendK {K : Act → World → Prop} (i : Nat) (hi : ops[i]? = some oi) (hw : Region.wanted oi (yielded ops a.tmps) = true) (d : Option Tmp) (hd : oi.dst = d) (s x : Operand) (t : TypeId)
    (ho : oi.op = .call { callee := .builtin .append, args := #[s, x], argTypes := #[t, t] })
    (base : Nat) (e : TypeId) (z : Value) (size bytes : Nat) (ht : P.underlying t = some (.slice e)) (hinfo : (P.info? e).map (fun i => (i.zero, i.size, i.bytes)) = some (some z, size, bytes)) (hzs : z.cells.size = size) (hsz : 0 < size)
    (v u : Value) (n m : Nat) (xs news : List Value) (hs : a.eval s = v) (hown : w.ownsRow base e size v n xs) (hx : a.eval x = u) (hsr : SR w u m size news) (h1 : ∀ u ∈ news, u.oneCell' = true)
    (h63 : n + m ≤ maxLen) (hbytes : (n + m) * bytes ≤ 140737488355328) (hbase : base ≤ w.heap.size)
    (hk : ∀ v' w', w'.ownsRow base e size v' (n + m) (xs ++ news) → w.grownBy w' v.ownBlock → (v'.ownBlock = v.ownBlock ∨ v'.ownBlock = some w.heap.size) → K (a.put d v') w') : wpOp P ops Q i K a w := by
  obtain ⟨v', w', hrun, h2, h3, h4⟩ := execAppend (ρ := a.eval) (o := oi) s x t ho base e z size bytes ht hinfo hzs hsz v u n m xs news hs hown hx hsr h1 h63 hbytes hbase
  exact loudK i hi hw d hd v' w' hrun (hk v' w' h2 h3 h4)
theorem wanted_none {o : Oper} {y : _} (h : o.guard = none) : Region.wanted o y = true := by
  unfold Region.wanted
  rw [h]
end
end Go.Proofs.Ytapcbfeifeobhaa
