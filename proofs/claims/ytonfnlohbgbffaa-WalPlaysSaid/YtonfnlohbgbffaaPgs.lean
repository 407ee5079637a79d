/- Slices of blocks that a call makes: a literal of one, append of one; one of them. -/
import Derived.Test.YtonfnlohbgbffaaWalA
import Derived.Test.YtonfnlohbgbffaaInts
set_option linter.unusedVariables false
set_option linter.unusedSimpArgs false
namespace Go.Proofs.Ytonfnlohbgbffaa
open Go.RowKit

/-- n blocks as cells. -/
def pgsV (n : Nat) (V : Nat → Nat → Nat) : List Value := (rowArr (n * 64) (diskC V)).toList
theorem pgsV_len (n : Nat) (V : Nat → Nat → Nat) : (pgsV n V).length = n * 64 := by simp [pgsV, rowArr]
theorem pgsV_next (n : Nat) (V : Nat → Nat → Nat) : pgsV (n + 1) V = pgsV n V ++ (rowArr 64 (pgC (V n))).toList := by
  rw [← diskC_block]
  unfold pgsV rowArr
  simp only
  rw [show (n + 1) * 64 = n * 64 + 64 by omega, List.range_add, List.map_append, List.map_map]
  rfl
theorem pgsV_get (n : Nat) (V : Nat → Nat → Nat) (j : Nat) (hj : j < n * 64) : (pgsV n V)[j]? = some (diskC V j) := by simp [pgsV, rowArr, hj]
theorem pgsV_u8 (n : Nat) (V : Nat → Nat → Nat) (h : ∀ k i, V k i ≤ 255) : U8s (pgsV n V) := U8s.row (fun k _ => ⟨V (k / 64) (k % 64), rfl, by omega, by have := h (k / 64) (k % 64); omega⟩)
/-- Blocks of the call's own. -/
def OwnP (w : World) (base : Nat) (v : Value) (n : Nat) (V : Nat → Nat → Nat) : Prop := w.ownsRow base 52 64 v n (pgsV n V)
section
variable {w w' : World} {base n : Nat} {v : Value} {V : Nat → Nat → Nat}
theorem OwnP.nil (w : World) (base : Nat) (V : Nat → Nat → Nat) : OwnP w base (.slice none 0 0) 0 V := World.ownsRow_nil _ _ _ _
theorem OwnP.keep (h : OwnP w base v n V) (hb : Below w.heap.size w w') : OwnP w' base v n V := own_below h hb
theorem OwnP.form (h : OwnP w base v n V) : ∃ A c, v = .slice A n c := own_form h
theorem OwnP.chg {S : Nat → Prop} (h : OwnP w base v n V) (c : Chg S w w') (hS : ∀ k, base ≤ k → ¬ S k) : OwnP w' base v n V := own_keep h (fun k hk => c.block k (h.lt k hk).2 (hS k (h.lt k hk).1))
theorem OwnP.sr (h : OwnP w base v n V) : SR w v n 64 (pgsV n V) := SR.of_own h
theorem pgSlice (X : Array Value) (hX : X.size = 64) (w : World) : (Instr.buildSlice 50 1 #[(0, .agg X)]).run Try.prog w = .ok (.slice (some ⟨w.heap.size, 0, none⟩) 1 1) (w.alloc (.cells X 52)) := by
  obtain ⟨i, hi, hz, hz1, hz2⟩ := info_parts block_row
  refine run_buildSlice (P := Try.prog) w 50 52 1 #[(0, .agg X)] X i (.agg noughts) Try.underlying50 hi hz (by rw [hz1]; omega) (by rw [hz1]; omega) ?_
  rw [hz1]
  have := Great.fill_whole (s := 64) (by omega) [.agg X] ((Array.range (1 * 64)).map fun x => (Value.agg noughts).cells[x % (Value.agg noughts).cells.size]!) (by intro v hv; simp only [List.mem_singleton] at hv; subst hv; exact hX) (by simp)
  simpa [Value.cells] using this
/-- []Block{b}. -/
theorem wpList_lit_page {ops : Array Oper} {Q : Exit → Act → World → Prop} {a : Act} {w : World} {rest : List Oper} {o : Oper} (hg : o.guard = none) (x : Operand) (ho : o.op = .buildSlice 50 1 #[(0, x)]) (d : Option Tmp) (hd : o.dst = d) (f : Nat → Nat) (hx : a.eval x = .agg (rowArr 64 (pgC f)))
    (h : ∀ w' u, SR w' u 1 64 (rowArr 64 (pgC f)).toList → Below w.heap.size w w' → wpList Try.prog ops Q rest (a.put d u) w') : wpList Try.prog ops Q (o :: rest) a w :=
  wpList_slice_one hg 50 52 x ho d hd (.agg (rowArr 64 (pgC f))) hx (rowArr 64 (pgC f)) (fun w => pgSlice _ (rowArr_size _ _) w)
    (h _ _ (SR.of_row (m := 1) (rowIs_of_arr (heap_alloc_last w (.cells (rowArr 64 (pgC f)) 52))) (by omega) (by simp [maxLen])) (bnew _ _))
theorem pgC_one (f : Nat → Nat) : ∀ v ∈ (rowArr 64 (pgC f)).toList, v.oneCell' = true := fun v hv => by
  obtain ⟨i, hi⟩ := List.mem_iff_getElem?.1 hv
  obtain ⟨h2, rfl⟩ := rowArr_get _ _ _ _ hi
  rfl
/-- append(s, b) of one block. -/
theorem wpList_add_page {ops : Array Oper} {Q : Exit → Act → World → Prop} {a : Act} {w : World} {rest : List Oper} {o : Oper} (hg : o.guard = none) (s x : Operand)
    (ho : o.op = .call { callee := .builtin .append, args := #[s, x], argTypes := #[50, 50] }) (d : Option Tmp) (hd : o.dst = d) (base : Nat) (v u : Value) (n : Nat) (V : Nat → Nat → Nat)
    (hs : a.eval s = v) (hx : a.eval x = u) (hown : OwnP w base v n V) (hr : SR w u 1 64 (rowArr 64 (pgC (V n))).toList) (hl : n ≤ 1000000) (hbase : base ≤ w.heap.size)
    (h : ∀ v' w', OwnP w' base v' (n + 1) V → One w w' v.ownBlock → wpList Try.prog ops Q rest (a.put d v') w') : wpList Try.prog ops Q (o :: rest) a w :=
  wpList_append_sr hg s x 50 ho d hd base 52 (.agg noughts) 64 64 Try.underlying50 block_row noughts_size (by omega) v u n 1 (pgsV n V) (rowArr 64 (pgC (V n))).toList hs hown hx hr (pgC_one _)
    (by simp [maxLen]; omega) (by omega) hbase (fun v' w' h1 h2 _ => h v' w' (by
      unfold OwnP
      rw [pgsV_next]
      exact h1) (one_grown h2))
/-- One of them. -/
theorem SR.page {v : Value} (h : SR w v n 64 (pgsV n V)) (k : Nat) (hk : k < n) : ∃ g off cap, v = .slice (some ⟨g, off, none⟩) n cap ∧ n ≤ cap ∧ cap ≤ maxLen ∧ g < w.heap.size ∧ ∀ j v, (rowArr 64 (pgC (V k))).toList[j]? = some v → w.cell? ⟨g, off + k * 64 + j, none⟩ = some v := by
  rcases h.cases with ⟨h0, _⟩ | ⟨_, g, off, cap, h1, h2, h3, h4, h5⟩
  · omega
  · refine ⟨g, off, cap, h1, h2, h3, h4, fun j v hv => ?_⟩
    obtain ⟨hj, rfl⟩ := rowArr_get _ _ _ _ hv
    rw [Nat.add_assoc, h5 _ (by omega), pgsV_get _ _ _ (by omega)]
    unfold diskC pgC
    rw [show (k * 64 + j) / 64 = k by omega, show (k * 64 + j) % 64 = j by omega]
end
end Go.Proofs.Ytonfnlohbgbffaa
