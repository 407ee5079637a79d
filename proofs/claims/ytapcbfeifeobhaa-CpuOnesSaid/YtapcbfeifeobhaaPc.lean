/- Arrays that stand as pieces of a longer row: loads, stores. Bytes of a block. -/
import Derived.Test.YtapcbfeifeobhaaSl
import Derived.Deep.OwnRows
import Derived.Deep.RegionLaw
import Derived.Deep.AppendLies
import Derived.Deep.DeepCutAuto
import Derived.BigRegion
import Derived.Laws.IdiomCopy
import Derived.Lib.LazyBuf
import Derived.Deep.RegionHeld
set_option linter.unusedVariables false
set_option linter.unusedSimpArgs false
namespace Go.Proofs.Ytapcbfeifeobhaa
open Go.RowKit

section
variable {P : Program}

theorem run_loadVar_piece (w : World) (ty : TypeId) (g off : Nat) (cs : Array Value) (d : TypeDesc) (hc : ∀ j v, cs.toList[j]? = some v → w.cell? ⟨g, off + j, none⟩ = some v)
    (hu : P.underlying ty = some d) (hd : (match d with | .struct _ | .array _ _ => true | _ => false) = true) (hi : (P.info? ty).map (·.size) = some cs.size) :
    (loadVar ty ⟨g, off, none⟩).run P w = .ok (.agg cs) w := by
  have hl : (loadCells ⟨g, off, none⟩ cs.toList.length).run P w = .ok cs.toList.toArray w :=
    run_loadCells_list (P := P) w ⟨g, off, none⟩ cs.toList (fun j v hv => by
      have hadd : (⟨g, off, none⟩ : Addr).add j = ⟨g, off + j, none⟩ := by unfold Addr.add; split <;> simp_all
      rw [hadd]
      exact hc j v hv)
  cases hq : P.info? ty with
  | none => simp [hq] at hi
  | some i =>
    have hs : i.size = cs.size := by simpa [hq] using hi
    have hagg : (isAgg ty).run P w = .ok true w := by
      unfold isAgg
      rw [Sem.run_bind, run_underlying hu w]
      cases d <;> simp_all
    simp only [Array.length_toList, Array.toArray_toList] at hl
    simp [loadVar, Sem.run_bind, hagg, sizeOf, typeInfo, hq, hs, hl]

theorem wpList_load_pieceTo {ops : Array Oper} {rest : List Oper} {o : Oper} {a : Act} {w : World} {Q : Exit → Act → World → Prop} (hgd : o.guard = none) (ty : TypeId) (x : Operand) (ho : o.op = .load ty x) (dt : Option Tmp) (hdt : o.dst = dt)
    (g off : Nat) (hx : a.eval x = .pointer (some ⟨g, off, none⟩)) (cs : Array Value) (d : TypeDesc) (hc : ∀ j v, cs.toList[j]? = some v → w.cell? ⟨g, off + j, none⟩ = some v)
    (hu : P.underlying ty = some d) (hd : (match d with | .struct _ | .array _ _ => true | _ => false) = true) (hi : (P.info? ty).map (·.size) = some cs.size)
    (h : wpList P ops Q rest (a.put dt (.agg cs)) w) : wpList P ops Q (o :: rest) a w := by
  subst hdt
  refine wpList_plain hgd fun K hK => ?_
  unfold Oper.wp execOp
  simp only [ho, hx, Instr.loadAt, Instr.sureAddr, Sem.run_bind, Sem.run_pure, Result.andThen_ok, run_loadVar_piece w ty g off cs d hc hu hd hi]
  exact hK _ _ h

theorem run_storeVar_piece (w : World) (ty : TypeId) (g off : Nat) (cs : Array Value) (hi : (P.info? ty).map (·.size) = some cs.size)
    (hc : ∀ j, j < cs.size → (w.cell? ⟨g, off + j, none⟩).isSome = true) (hf : ∀ j, j < cs.size → w.frozen? ⟨g, off + j, none⟩ = false) (h1 : ∀ v ∈ cs.toList, v.oneCell' = true) :
    (storeVar ty ⟨g, off, none⟩ (.agg cs)).run P w = .ok () (w.setCells g off cs.toList) := by
  have := run_storeCells_cells (P := P) g off cs.toList 0 w (by simpa using hc) (by simpa using hf) h1
  cases hq : P.info? ty with
  | none => simp [hq] at hi
  | some i =>
    have hs : cs.size = i.size := by simp [hq] at hi; omega
    simp [storeVar, sizeOf, typeInfo, hq, Value.cells, hs]
    simpa using this

theorem wpList_store_pieceTo {ops : Array Oper} {rest : List Oper} {o : Oper} {a : Act} {w : World} {Q : Exit → Act → World → Prop} (hgd : o.guard = none) (ty : TypeId) (x y : Operand) (ho : o.op = .store ty x y) (hd : o.dst = none)
    (g off : Nat) (cs : Array Value) (hx : a.eval x = .pointer (some ⟨g, off, none⟩)) (hy : a.eval y = .agg cs) (hi : (P.info? ty).map (·.size) = some cs.size)
    (hc : ∀ j, j < cs.size → (w.cell? ⟨g, off + j, none⟩).isSome = true) (hf : ∀ j, j < cs.size → w.frozen? ⟨g, off + j, none⟩ = false) (h1 : ∀ v ∈ cs.toList, v.oneCell' = true)
    (h : ∀ w', w' = w.setCells g off cs.toList → wpList P ops Q rest a w') : wpList P ops Q (o :: rest) a w := by
  refine wpList_plain hgd fun K hK => ?_
  unfold Oper.wp execOp
  simp only [ho, hx, hy, Instr.storeAt, Instr.sureAddr, Sem.run_bind, Sem.run_pure, Result.andThen_ok, run_storeVar_piece w ty g off cs hi hc hf h1]
  show K (a.put o.dst undef) _
  rw [hd]
  exact hK _ _ (h _ rfl)

/-- In a region that draws its order: an array is read, in every world that meets S. -/
theorem yi_piece {ops : Array Oper} {S : World → Prop} {o : Oper} {a : Act} (hw : Region.wanted o (yielded ops a.tmps) = true) (ty : TypeId) (x : Operand) (ho : o.op = .load ty x)
    (g off : Nat) (hx : a.eval x = .pointer (some ⟨g, off, none⟩)) (cs : Array Value) (d : TypeDesc) (hc : ∀ w, S w → ∀ j v, cs.toList[j]? = some v → w.cell? ⟨g, off + j, none⟩ = some v)
    (hu : P.underlying ty = some d) (hd : (match d with | .struct _ | .array _ _ => true | _ => false) = true) (hi : (P.info? ty).map (·.size) = some cs.size) : YieldsIf P ops S o (.agg cs) a :=
  .inl ⟨hw, fun w hS => by
    unfold execOp
    simp only [ho, hx, Instr.loadAt, Instr.sureAddr, Sem.run_bind, Sem.run_pure, Result.andThen_ok, run_loadVar_piece w ty g off cs d (hc w hS) hu hd hi]⟩

/-- An array is stored: the operation. -/
theorem wp_store_piece {o : Oper} {a : Act} {w : World} {K : Act → World → Prop} {Q : Exit → Act → World → Prop} (ty : TypeId) (x y : Operand) (ho : o.op = .store ty x y) (hd : o.dst = none)
    (g off : Nat) (cs : Array Value) (hx : a.eval x = .pointer (some ⟨g, off, none⟩)) (hy : a.eval y = .agg cs) (hi : (P.info? ty).map (·.size) = some cs.size)
    (hc : ∀ j, j < cs.size → (w.cell? ⟨g, off + j, none⟩).isSome = true) (hf : ∀ j, j < cs.size → w.frozen? ⟨g, off + j, none⟩ = false) (h1 : ∀ v ∈ cs.toList, v.oneCell' = true)
    (h : ∀ w', w' = w.setCells g off cs.toList → K a w') : o.wp P a w K Q := by
  unfold Oper.wp execOp
  simp only [ho, hx, hy, Instr.storeAt, Instr.sureAddr, Sem.run_bind, Sem.run_pure, Result.andThen_ok, run_storeVar_piece w ty g off cs hi hc hf h1]
  show K (a.put o.dst undef) _
  rw [hd]
  exact h _ rfl

section
variable {ops : Array Oper} {Q : Exit → Act → World → Prop} {md : Region.Mode} {S : World → Prop} {oi : Oper} {fuel : Nat} {listed : Array Bool} {a : Act} {w : World}
/-- An operation of a region that draws is taken first: its value, its slot given. -/
theorem takeH (i : Nat) (v : Value) (d : Option Tmp) (hi : ops[i]? = some oi) (hd : oi.dst = d)
    (hs : Region.noSelect ops = true) (hf : Region.free md ops listed i = true) (hr : (Region.ready md ops listed).contains i = true)
    (hQ : ∀ c a w, Q (.panic c) (a.put d v) w → Q (.panic c) a w) (hy : YieldsIf P ops S oi v a) (hS : S w)
    (h : wpAnyH P md ops Q S fuel (listed.setIfInBounds i true) (a.put d v) w) : wpAnyH P md ops Q S (fuel + 1) listed a w := by
  subst hd
  exact wpAnyH_take hi hs hf hr hQ hy hS h

/-- The last operation of a region that draws stores an array. -/
theorem storeH (i : Nat) (hi : ops[i]? = some oi) (hw : Region.wanted oi (yielded ops a.tmps) = true) (hr : Region.ready md ops listed = [i]) (he : Region.ready md ops (listed.setIfInBounds i true) = [])
    (ty : TypeId) (x y : Operand) (ho : oi.op = .store ty x y) (hd : oi.dst = none)
    (g off : Nat) (cs : Array Value) (hx : a.eval x = .pointer (some ⟨g, off, none⟩)) (hy : a.eval y = .agg cs) (hz : (P.info? ty).map (·.size) = some cs.size)
    (hc : ∀ j, j < cs.size → (w.cell? ⟨g, off + j, none⟩).isSome = true) (hf : ∀ j, j < cs.size → w.frozen? ⟨g, off + j, none⟩ = false) (h1 : ∀ v ∈ cs.toList, v.oneCell' = true)
    (hS : ∀ w', w' = w.setCells g off cs.toList → S w') (h : ∀ w', w' = w.setCells g off cs.toList → Q .normal a w') : wpAnyH P md ops Q S (fuel + 1) listed a w := by
  refine wpAnyH_ready (rs := [i]) hr (by simp) (AllReadyH.cons hi (fun K hK => ?_) AllReadyH.nil)
  rw [if_pos hw]
  refine wp_store_piece ty x y ho hd g off cs hx hy hz hc hf h1 (fun w' hw' => ?_)
  exact hK.out _ _ (hS w' hw') (fun _ => wpAnyH_done he (h w' hw') _)
end
end

/-- A row's cells as an array. -/
def rowArr (n : Nat) (f : Nat → Value) : Array Value := ((List.range n).map f).toArray
theorem rowArr_size (n : Nat) (f : Nat → Value) : (rowArr n f).size = n := by simp [rowArr]
theorem rowArr_get (n : Nat) (f : Nat → Value) (j : Nat) (v : Value) (h : (rowArr n f).toList[j]? = some v) : j < n ∧ v = f j := by
  simp only [rowArr, List.getElem?_map, Option.map_eq_some_iff] at h
  obtain ⟨k, hk, rfl⟩ := h
  rw [List.getElem?_eq_some_iff] at hk
  obtain ⟨h1, h2⟩ := hk
  simp at h1 h2
  subst h2
  exact ⟨h1, rfl⟩
theorem rowArr_congr {n : Nat} {f g : Nat → Value} (h : ∀ i, i < n → f i = g i) : rowArr n f = rowArr n g := by
  unfold rowArr
  congr 1
  exact List.map_congr_left (fun i hi => h i (List.mem_range.1 hi))

theorem rowIs_arr {w : World} {g n : Nat} {t : TypeId} {f : Nat → Value} (h : w.rowIs g t n f) : w.heap[g]? = some (.cells (rowArr n f) t (0, 0)) := by
  obtain ⟨c, hb, hn, hc⟩ := h
  rw [hb]
  congr 2
  apply Array.ext_getElem?
  intro i
  by_cases hi : i < n
  · rw [hc i hi]; simp [rowArr, hi]
  · rw [Array.getElem?_eq_none (by omega), Array.getElem?_eq_none (by rw [rowArr_size]; omega)]

theorem rowIs_of_arr {w : World} {g n : Nat} {t : TypeId} {f : Nat → Value} (h : w.heap[g]? = some (.cells (rowArr n f) t (0, 0))) : w.rowIs g t n f :=
  ⟨_, h, rowArr_size n f, fun i hi => by simp [rowArr, hi]⟩

theorem run_zero {P : Program} {t : TypeId} {z : Value} (h : (P.info? t).bind (·.zero) = some z) (w : World) : (zeroValue t).run P w = .ok z w := by
  cases hi : P.info? t with
  | none => rw [hi] at h; cases h
  | some i =>
    rw [hi] at h
    simp only [Option.bind_some] at h
    simp [zeroValue, typeInfo, hi, h]

/-- A piece is laid into a row. -/
theorem rowIs_piece {w : World} {b n m off : Nat} {t : TypeId} {f h : Nat → Value} (hr : w.rowIs b t n f) : (w.setCells b off (rowArr m h).toList).rowIs b t n (fun j => if off ≤ j ∧ j < off + m then h (j - off) else f j) := by
  refine (rowIs_setCells (rowArr m h).toList off w f hr).congr (fun j hj => ?_)
  have hl : (rowArr m h).toList.length = m := by simp [rowArr]
  rw [hl]
  by_cases h1 : off ≤ j ∧ j < off + m
  · rw [if_pos h1, if_pos h1]
    have h2 : j - off < m := by omega
    simp [rowArr, h2]
  · rw [if_neg h1, if_neg h1]
end Go.Proofs.Ytapcbfeifeobhaa
