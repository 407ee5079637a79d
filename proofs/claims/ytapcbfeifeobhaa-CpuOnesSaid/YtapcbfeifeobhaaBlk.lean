/- Slices of whatever size of element: a copy; an append of one. -/
import Derived.Test.YtapcbfeifeobhaaPc
set_option linter.unusedVariables false
set_option linter.unusedSimpArgs false
namespace Go.Proofs.Ytapcbfeifeobhaa
open Go.RowKit

section
variable {P : Program}
/-- copy of a slice of n elements over a row of n elements. -/
theorem run_copy_full (w : World) (dT sT ty elem : TypeId) (g n cap size : Nat) (u : Value) (xs : List Value) (t : TypeId) (f : Nat → Value)
    (hu : P.underlying dT = some (.slice elem)) (hs : (P.info? elem).map (·.size) = some size) (hrow : w.rowIs g t (n * size) f) (hr : SR w u n size xs) (h1 : ∀ v ∈ xs, v.oneCell' = true) :
    (Builtin.copy_ #[dT, sT] ty #[.slice (some ⟨g, 0, none⟩) n cap, u]).run P w = .ok (goInt n) (w.setCells g 0 xs) := by
  cases hq : P.info? elem with
  | none => simp [hq] at hs
  | some i =>
    have hi : i.size = size := by simpa [hq] using hs
    rcases hr.cases with ⟨rfl, rfl, rfl | ⟨a, c, rfl, _⟩⟩ | ⟨hn, b, off, c, rfl, _, _, hb, hc⟩
    · simp [Builtin.copy_, run_underlying hu, Builtin.lenOf, Builtin.firstCells, sizeOf, typeInfo, hq, hi, storeCells, World.setCells]
    · simp [Builtin.copy_, run_underlying hu, Builtin.lenOf, Builtin.firstCells, sizeOf, typeInfo, hq, hi, storeCells, World.setCells, loadCells, loadCellsFrom]
    · have hl : xs.length = n * size := hr.1
      have hld : (loadCells ⟨b, off, none⟩ xs.length).run P w = .ok xs.toArray w := run_loadCells_list (P := P) w ⟨b, off, none⟩ xs (fun j v hv => by
        rw [addr_add _ rfl]
        show w.cell? ⟨b, off + j, none⟩ = _
        have hj : j < xs.length := by
          rcases Nat.lt_or_ge j xs.length with h | h
          · exact h
          · rw [List.getElem?_eq_none h] at hv; cases hv
        rw [hc j (by omega), hv])
      have hst := run_storeCells_cells (P := P) g 0 xs 0 w (fun j hj => by simp only [Nat.zero_add]; rw [hrow.cell (by omega)]; rfl) (fun j hj => hrow.frozen _) h1
      rw [hl] at hld
      simp [Builtin.copy_, run_underlying hu, Builtin.lenOf, Builtin.firstCells, sizeOf, typeInfo, hq, hi, hld, hst]

theorem wpList_copy_full {w : World} {ops : Array Oper} {rest : List Oper} {o : Oper} {a : Act} {Q : Exit → Act → World → Prop} (hgd : o.guard = none) (d s : Operand) (dT sT : TypeId)
    (ho : o.op = .call { callee := .builtin .copy, args := #[d, s], argTypes := #[dT, sT] }) (dst : Option Tmp) (hdst : o.dst = dst) (elem : TypeId) (g n cap size : Nat) (u : Value) (xs : List Value) (t : TypeId) (f : Nat → Value)
    (hd : a.eval d = .slice (some ⟨g, 0, none⟩) n cap) (hs : a.eval s = u)
    (hu : P.underlying dT = some (.slice elem)) (hz : (P.info? elem).map (·.size) = some size) (hrow : w.rowIs g t (n * size) f) (hr : SR w u n size xs) (h1 : ∀ v ∈ xs, v.oneCell' = true)
    (h : ∀ w', w' = w.setCells g 0 xs → wpList P ops Q rest (a.put dst (goInt n)) w') : wpList P ops Q (o :: rest) a w := by
  subst hdst
  refine wpList_plain hgd fun K hK => ?_
  have hrun := run_copy_full (P := P) w dT sT o.type elem g n cap size u xs t f hu hz hrow hr h1
  unfold Oper.wp
  simp only [execOp, ho, resolve, invoke, builtin, Sem.run_bind, Sem.run_pure, List.map_toArray, List.map_cons, List.map_nil, hd, hs, hrun, Result.andThen_ok]
  exact hK _ _ (h _ rfl)
end

/-- A slice literal of one part. -/
theorem wpList_slice_one {P : Program} {ops : Array Oper} {Q : Exit → Act → World → Prop} {a : Act} {w : World} {rest : List Oper} {o : Oper} (hg : o.guard = none) (t e : TypeId) (x : Operand) (ho : o.op = .buildSlice t 1 #[(0, x)]) (d : Option Tmp) (hd : o.dst = d)
    (v : Value) (hx : a.eval x = v) (cells : Array Value) (hr : ∀ w, (Instr.buildSlice t 1 #[(0, v)]).run P w = .ok (.slice (some ⟨w.heap.size, 0, none⟩) 1 1) (w.alloc (.cells cells e)))
    (h : wpList P ops Q rest (a.put d (.slice (some ⟨w.heap.size, 0, none⟩) 1 1)) (w.alloc (.cells cells e))) : wpList P ops Q (o :: rest) a w :=
  wpList_sliceTo hg t e 1 _ ho d hd cells (fun w => by
    simp only [List.map_toArray, List.map_cons, List.map_nil, hx]
    exact hr w) h

section
variable {P : Program} {ops : Array Oper} {Q : Exit → Act → World → Prop} {a : Act} {w : World} {rest : List Oper} {o : Oper}
/-- Operations that may be guarded. -/
theorem wpList_build_by (hw : Region.wanted o (yielded ops a.tmps) = true) (t : TypeId) (parts : Array (Nat × Operand)) (ho : o.op = .build t parts) (d : Option Tmp) (hd : o.dst = d) (cells : Array Value)
    (hf : P.built t (parts.map fun (i, x) => (i, a.eval x)).toList = some cells) (h : wpList P ops Q rest (a.put d (.agg cells)) w) : wpList P ops Q (o :: rest) a w :=
  wpList_by (w' := w) (v := .agg cells) hw d hd (by unfold execOp; simp only [ho, Sem.run_bind, run_build w t _ cells hf, Result.andThen_ok]; rfl) h
theorem wpList_load_by (hw : Region.wanted o (yielded ops a.tmps) = true) (ty : TypeId) (x : Operand) (ho : o.op = .load ty x) (dt : Option Tmp) (hdt : o.dst = dt)
    (g off : Nat) (hx : a.eval x = .pointer (some ⟨g, off, none⟩)) (cs : Array Value) (d : TypeDesc) (hc : ∀ j v, cs.toList[j]? = some v → w.cell? ⟨g, off + j, none⟩ = some v)
    (hu : P.underlying ty = some d) (hd : (match d with | .struct _ | .array _ _ => true | _ => false) = true) (hi : (P.info? ty).map (·.size) = some cs.size)
    (h : wpList P ops Q rest (a.put dt (.agg cs)) w) : wpList P ops Q (o :: rest) a w :=
  wpList_by (w' := w) (v := .agg cs) hw dt hdt (by unfold execOp; simp only [ho, hx, Instr.loadAt, Instr.sureAddr, Sem.run_bind, Sem.run_pure, Result.andThen_ok, run_loadVar_piece w ty g off cs d hc hu hd hi]) h
end

/-- In a region that draws its order: an array is made. -/
theorem yi_build {P : Program} {ops : Array Oper} {S : World → Prop} {o : Oper} {a : Act} (hw : Region.wanted o (yielded ops a.tmps) = true) (t : TypeId) (parts : Array (Nat × Operand)) (ho : o.op = .build t parts)
    (cells : Array Value) (hf : P.built t (parts.map fun (i, x) => (i, a.eval x)).toList = some cells) : YieldsIf P ops S o (.agg cells) a :=
  .inl ⟨hw, fun w _ => by unfold execOp; simp only [ho, Sem.run_bind, run_build w t _ cells hf, Result.andThen_ok]; rfl⟩

/-- In a region that draws its order: the one operation that may come up is a call. -/
theorem callH {P : Program} {ops : Array Oper} {Q : Exit → Act → World → Prop} {md : Region.Mode} {S : World → Prop} {oi : Oper} {fuel : Nat} {listed : Array Bool} {a : Act} {w : World}
    (i : Nat) (hi : ops[i]? = some oi) (hw : Region.wanted oi (yielded ops a.tmps) = true) (hr : Region.ready md ops listed = [i]) (d : Option Tmp) (hd : oi.dst = d) (f : FuncId) (args : Array Value)
    (hrun : (execOp a.eval oi).run P w = .ok (.enter f args) w)
    (hc : Calls P f args w (fun e w' => ∃ v, e = .returned v ∧ S w' ∧ wpAnyH P md ops Q S fuel (listed.setIfInBounds i true) (a.put d v) w')) : wpAnyH P md ops Q S (fuel + 1) listed a w := by
  subst hd
  refine wpAnyH_ready (rs := [i]) hr (by simp) (AllReadyH.cons hi (fun K hK => ?_) AllReadyH.nil)
  rw [if_pos hw]
  unfold Oper.wp
  rw [hrun, Oper.upon_enter]
  refine hc.mono fun e w'' hh => ?_
  obtain ⟨v, rfl, hS, h⟩ := hh
  exact hK.out _ _ hS (fun _ => h)

/-- The walk stands at an operation. -/
theorem wpList_stop {P : Program} {ops : Array Oper} {Q : Exit → Act → World → Prop} {a : Act} {w : World} {rest : List Oper} {o : Oper} (d : Option Tmp) (hd : o.dst = d) (h : Hid (wpList P ops Q (o :: rest) a w)) : wpList P ops Q (o :: rest) a w := h.out

/-- One block may turn, if any; new ones come. -/
structure One (w w' : World) (r : Option Nat) : Prop where
  os : w'.os = w.os
  tape : w'.tape = w.tape
  output : w'.output = w.output
  size : w.heap.size ≤ w'.heap.size
  block : ∀ k, k < w.heap.size → r ≠ some k → w'.heap[k]? = w.heap[k]?
theorem One.refl (w : World) (r : Option Nat) : One w w r := ⟨rfl, rfl, rfl, Nat.le_refl _, fun _ _ _ => rfl⟩
theorem One.setCells {w : World} {g : Nat} : ∀ (vs : List Value) (o : Nat) {w1 : World}, One w w1 (some g) → One w (w1.setCells g o vs) (some g)
  | [], _, _, h => h
  | v :: r, o, w1, h => One.setCells r (o + 1) ⟨h.os, h.tape, h.output, by simpa using h.size, fun k hk hkg => by
      rw [Below.heap_setCell _ _ _ _ (by show k ≠ g; intro e; exact hkg (by rw [e]))]; exact h.block k hk hkg⟩
theorem One.toBelow {w w' : World} {r : Option Nat} {B : Nat} (h : One w w' r) (hr : ∀ k, r = some k → B ≤ k) (hB : B ≤ w.heap.size) : Below B w w' :=
  ⟨h.os, h.tape, h.output, h.size, fun k hk => h.block k (by omega) (fun e => by have := hr k e; omega)⟩

theorem own_form {w : World} {base : Nat} {e : TypeId} {size : Nat} {v : Value} {n : Nat} {xs : List Value} (h : w.ownsRow base e size v n xs) : ∃ ad c, v = .slice ad n c := by
  rcases h.2 with ⟨h1, h2⟩ | ⟨g0, c0, cur, h1, _⟩
  · exact ⟨none, 0, by rw [h1, h2]⟩
  · exact ⟨_, c0, h1⟩

theorem own_form' {w : World} {base : Nat} {e : TypeId} {size : Nat} {v : Value} {n : Nat} {xs : List Value} (h : w.ownsRow base e size v n xs) : ∃ ad k c, v = .slice ad k c :=
  let ⟨ad, c, h⟩ := own_form h
  ⟨ad, n, c, h⟩

theorem own_keep {w w' : World} {base : Nat} {e : TypeId} {size : Nat} {v : Value} {n : Nat} {xs : List Value} (h : w.ownsRow base e size v n xs) (hk : ∀ k, v.ownBlock = some k → w'.heap[k]? = w.heap[k]?) : w'.ownsRow base e size v n xs := by
  refine ⟨h.1, ?_⟩
  rcases h.2 with h0 | ⟨g0, c0, cur, hv, hb, hg, rest⟩
  · exact .inl h0
  · exact .inr ⟨g0, c0, cur, hv, hb, by rw [hk g0 (by rw [hv]; rfl)]; exact hg, rest⟩

theorem own_below {w w' : World} {base : Nat} {e : TypeId} {size : Nat} {v : Value} {n : Nat} {xs : List Value} (h : w.ownsRow base e size v n xs) (hb : Below w.heap.size w w') : w'.ownsRow base e size v n xs :=
  own_keep h fun k hk => hb.block k (by
    rcases h.2 with ⟨rfl, _⟩ | ⟨g0, c0, cur, rfl, _, hg, _⟩
    · cases hk
    · cases hk; exact rowlt hg)
theorem SR.of_row {w : World} {g n : Nat} {t : TypeId} {f : Nat → Value} {m size : Nat} (h : w.rowIs g t n f) (hn : n = m * size) (hm : m ≤ maxLen) : SR w (.slice (some ⟨g, 0, none⟩) m m) m size (rowArr n f).toList :=
  ⟨by simp [rowArr, hn], .inr ⟨_, m, rfl, Nat.le_refl _, hm, fun _ => ⟨rfl, h.lt, fun i hi => by
    show w.cell? ⟨g, 0 + i, none⟩ = _
    rw [Nat.zero_add, h.cell (by omega)]
    simp [rowArr, hn, hi]⟩⟩⟩
theorem own_one {w w' : World} {base : Nat} {e : TypeId} {size : Nat} {v : Value} {n : Nat} {xs : List Value} {r : Option Nat} (h : w.ownsRow base e size v n xs) (o : One w w' r) (hr : ∀ k, v.ownBlock = some k → r ≠ some k) : w'.ownsRow base e size v n xs :=
  own_keep h fun k hk => o.block k ((h.lt k hk).2) (hr k hk)
/-- The row of what is owned. -/
theorem own_row {w : World} {base : Nat} {e : TypeId} {size : Nat} {A : Option Addr} {n c : Nat} {xs : List Value} (h : w.ownsRow base e size (.slice A n c) n xs) (hn : 0 < n) : ∃ g N f, A = some ⟨g, 0, none⟩ ∧ n * size ≤ N ∧ w.rowIs g e N f := by
  rcases h.2 with ⟨h1, h2⟩ | ⟨g0, c0, cur, h1, _, hg, _, _, hN, ht⟩
  · cases h1; omega
  · cases h1
    have hl := h.1
    refine ⟨g0, cur.size, fun i => cur.toList.getD i undef, rfl, ?_, ⟨cur, hg, rfl, fun i hi => by simp [List.getD_eq_getElem?_getD, hi]⟩⟩
    have := congrArg List.length ht
    simp at this
    omega
end Go.Proofs.Ytapcbfeifeobhaa
