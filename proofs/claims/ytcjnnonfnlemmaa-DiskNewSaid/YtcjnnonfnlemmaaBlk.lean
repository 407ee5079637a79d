/- Slices of whatever size of element: a copy; an append of one. -/
import Derived.Test.YtcjnnonfnlemmaaPc
set_option linter.unusedVariables false
set_option linter.unusedSimpArgs false
namespace Go.Proofs.Ytcjnnonfnlemmaa
open Go.RowKit

section
variable {P : Program}
/-- copy of a slice of n elements over a row of n elements. -/
theorem run_copy_full (w : World) (dT sT ty elem : TypeId) (g n cap size : Nat) (u : Value) (xs : List Value) (t : TypeId) (f : Nat → Value)
    (hu : P.underlying dT = some (.slice elem)) (hs : (P.info? elem).map (·.size) = some size) (hrow : w.rowIs g t (n * size) f) (hr : SR w u n size xs) (h1 : ∀ v ∈ xs, v.oneCell' = true) :
    (Builtin.copy_ #[dT, sT] ty #[.slice (some ⟨g, 0, none⟩) n cap, u]).run P w = .ok (goInt n) (w.setCells g 0 xs) := by
  cases hq : P.info? elem with
  | none => simp [hq] at hs
  | some i =>
    have hi : i.size = size := by simpa [hq] using hs
    rcases hr.cases with ⟨rfl, rfl, rfl | ⟨a, c, rfl, _⟩⟩ | ⟨hn, b, off, c, rfl, _, _, hb, hc⟩
    · simp [Builtin.copy_, run_underlying hu, Builtin.lenOf, Builtin.firstCells, sizeOf, typeInfo, hq, hi, storeCells, World.setCells]
    · simp [Builtin.copy_, run_underlying hu, Builtin.lenOf, Builtin.firstCells, sizeOf, typeInfo, hq, hi, storeCells, World.setCells, loadCells, loadCellsFrom]
    · have hl : xs.length = n * size := hr.1
      have hld : (loadCells ⟨b, off, none⟩ xs.length).run P w = .ok xs.toArray w := run_loadCells_list (P := P) w ⟨b, off, none⟩ xs (fun j v hv => by
        rw [addr_add _ rfl]
        show w.cell? ⟨b, off + j, none⟩ = _
        have hj : j < xs.length := by
          rcases Nat.lt_or_ge j xs.length with h | h
          · exact h
          · rw [List.getElem?_eq_none h] at hv; cases hv
        rw [hc j (by omega), hv])
      have hst := run_storeCells_cells (P := P) g 0 xs 0 w (fun j hj => by simp only [Nat.zero_add]; rw [hrow.cell (by omega)]; rfl) (fun j hj => hrow.frozen _) h1
      rw [hl] at hld
      simp [Builtin.copy_, run_underlying hu, Builtin.lenOf, Builtin.firstCells, sizeOf, typeInfo, hq, hi, hld, hst]

theorem wpList_copy_full {w : World} {ops : Array Oper} {rest : List Oper} {o : Oper} {a : Act} {Q : Exit → Act → World → Prop} (hgd : o.guard = none) (d s : Operand) (dT sT : TypeId)
    (ho : o.op = .call { callee := .builtin .copy, args := #[d, s], argTypes := #[dT, sT] }) (dst : Option Tmp) (hdst : o.dst = dst) (elem : TypeId) (g n cap size : Nat) (u : Value) (xs : List Value) (t : TypeId) (f : Nat → Value)
    (hd : a.eval d = .slice (some ⟨g, 0, none⟩) n cap) (hs : a.eval s = u)
    (hu : P.underlying dT = some (.slice elem)) (hz : (P.info? elem).map (·.size) = some size) (hrow : w.rowIs g t (n * size) f) (hr : SR w u n size xs) (h1 : ∀ v ∈ xs, v.oneCell' = true)
    (h : ∀ w', w' = w.setCells g 0 xs → wpList P ops Q rest (a.put dst (goInt n)) w') : wpList P ops Q (o :: rest) a w := by
  subst hdst
  refine wpList_plain hgd fun K hK => ?_
  have hrun := run_copy_full (P := P) w dT sT o.type elem g n cap size u xs t f hu hz hrow hr h1
  unfold Oper.wp
  simp only [execOp, ho, resolve, invoke, builtin, Sem.run_bind, Sem.run_pure, List.map_toArray, List.map_cons, List.map_nil, hd, hs, hrun, Result.andThen_ok]
  exact hK _ _ (h _ rfl)
end

/-- A slice literal of one part. -/
theorem wpList_slice_one {P : Program} {ops : Array Oper} {Q : Exit → Act → World → Prop} {a : Act} {w : World} {rest : List Oper} {o : Oper} (hg : o.guard = none) (t e : TypeId) (x : Operand) (ho : o.op = .buildSlice t 1 #[(0, x)]) (d : Option Tmp) (hd : o.dst = d)
    (v : Value) (hx : a.eval x = v) (cells : Array Value) (hr : ∀ w, (Instr.buildSlice t 1 #[(0, v)]).run P w = .ok (.slice (some ⟨w.heap.size, 0, none⟩) 1 1) (w.alloc (.cells cells e)))
    (h : wpList P ops Q rest (a.put d (.slice (some ⟨w.heap.size, 0, none⟩) 1 1)) (w.alloc (.cells cells e))) : wpList P ops Q (o :: rest) a w :=
  wpList_sliceTo hg t e 1 _ ho d hd cells (fun w => by
    simp only [List.map_toArray, List.map_cons, List.map_nil, hx]
    exact hr w) h

theorem own_form {w : World} {base : Nat} {e : TypeId} {size : Nat} {v : Value} {n : Nat} {xs : List Value} (h : w.ownsRow base e size v n xs) : ∃ ad c, v = .slice ad n c := by
  rcases h.2 with ⟨h1, h2⟩ | ⟨g0, c0, cur, h1, _⟩
  · exact ⟨none, 0, by rw [h1, h2]⟩
  · exact ⟨_, c0, h1⟩

theorem own_form' {w : World} {base : Nat} {e : TypeId} {size : Nat} {v : Value} {n : Nat} {xs : List Value} (h : w.ownsRow base e size v n xs) : ∃ ad k c, v = .slice ad k c :=
  let ⟨ad, c, h⟩ := own_form h
  ⟨ad, n, c, h⟩

theorem own_keep {w w' : World} {base : Nat} {e : TypeId} {size : Nat} {v : Value} {n : Nat} {xs : List Value} (h : w.ownsRow base e size v n xs) (hk : ∀ k, v.ownBlock = some k → w'.heap[k]? = w.heap[k]?) : w'.ownsRow base e size v n xs := by
  refine ⟨h.1, ?_⟩
  rcases h.2 with h0 | ⟨g0, c0, cur, hv, hb, hg, rest⟩
  · exact .inl h0
  · exact .inr ⟨g0, c0, cur, hv, hb, by rw [hk g0 (by rw [hv]; rfl)]; exact hg, rest⟩

theorem own_below {w w' : World} {base : Nat} {e : TypeId} {size : Nat} {v : Value} {n : Nat} {xs : List Value} (h : w.ownsRow base e size v n xs) (hb : Below w.heap.size w w') : w'.ownsRow base e size v n xs :=
  own_keep h fun k hk => hb.block k (by
    rcases h.2 with ⟨rfl, _⟩ | ⟨g0, c0, cur, rfl, _, hg, _⟩
    · cases hk
    · cases hk; exact rowlt hg)
theorem SR.of_row {w : World} {g n : Nat} {t : TypeId} {f : Nat → Value} {m size : Nat} (h : w.rowIs g t n f) (hn : n = m * size) (hm : m ≤ maxLen) : SR w (.slice (some ⟨g, 0, none⟩) m m) m size (rowArr n f).toList :=
  ⟨by simp [rowArr, hn], .inr ⟨_, m, rfl, Nat.le_refl _, hm, fun _ => ⟨rfl, h.lt, fun i hi => by
    show w.cell? ⟨g, 0 + i, none⟩ = _
    rw [Nat.zero_add, h.cell (by omega)]
    simp [rowArr, hn, hi]⟩⟩⟩
end Go.Proofs.Ytcjnnonfnlemmaa
