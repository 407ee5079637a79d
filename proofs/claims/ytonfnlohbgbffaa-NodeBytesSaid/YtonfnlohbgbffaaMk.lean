/- append(s, make([]byte, n)...). -/
import Derived.Test.YtonfnlohbgbffaaSl
import Derived.Maps.AppendAt
set_option linter.unusedVariables false
set_option linter.unusedSimpArgs false
namespace Go.Proofs.Ytonfnlohbgbffaa
open Go.RowKit

def nul8 (m : Nat) : List Value := List.replicate m (.int .u8 0)
theorem zeroCells_u8 (m : Nat) : Builtin.zeroCells #[Value.int .u8 0] m = (nul8 m).toArray := by
  unfold Builtin.zeroCells nul8
  apply Array.ext
  · simp
  · intro i h1 h2
    simp [Nat.mod_one]
section
variable {P : Program} (w : World)
theorem run_append_make (base : Nat) (t ti ty e : TypeId) (i : TypeInfo) (ht : P.underlying t = some (.slice e)) (hti : P.underlying ti = some (.int .i64)) (hi : P.info? e = some i) (hz : i.zero = some (.int .u8 0))
    (hsize : i.size = 1) (hby : i.bytes = 1) (v : Value) (n : Nat) (xs : List Value) (hown : w.ownsRow base e 1 v n xs) (m : Nat) (hm : 0 < m)
    (h63 : n + m ≤ maxLen) (hbytes : (n + m) * 1 ≤ 140737488355328) (hbase : base ≤ w.heap.size) :
    ∃ v' w', (Builtin.append_ #[t, ti] ty #[v, .int .i64 m]).run P w = .ok v' w' ∧ w'.ownsRow base e 1 v' (n + m) (xs ++ nul8 m) ∧ w.grownBy w' v.ownBlock ∧ (v'.ownBlock = v.ownBlock ∨ v'.ownBlock = some w.heap.size) := by
  have hl : (nul8 m).length = m := List.length_replicate
  have hsmall : n + m ≤ 9223372036854775807 := by simp only [maxLen] at h63; omega
  have hlen : (xs ++ nul8 m).length = (n + m) * 1 := by rw [List.length_append, hown.1, hl]; omega
  have hwr : IntKind.i64.wrap (m : Int) = m := by rw [IntKind.wrap_i64]; omega
  have hneg : ¬ ((m : Int) < 0) := by omega
  have h48 : ¬ (281474976710656 < (m : Int)) := by omega
  have hm0 : ¬ m = 0 := by omega
  have grown : ∀ (old : Nat), old < n + m → ∀ (row : Option Nat),
      (w.drew.alloc (.cells (xs.toArray ++ (nul8 m).toArray ++ Builtin.zeroCells #[Value.int .u8 0] (grownCap w (n + m) old e - (n + m))) e)).ownsRow base e 1
        (.slice (some ⟨w.heap.size, 0, none⟩) (n + m) (grownCap w (n + m) old e)) (n + m) (xs ++ nul8 m) ∧
      w.grownBy (w.drew.alloc (.cells (xs.toArray ++ (nul8 m).toArray ++ Builtin.zeroCells #[Value.int .u8 0] (grownCap w (n + m) old e - (n + m))) e)) row := by
    intro old ho row
    have hge := grownCap_ge w (n + m) old e
    have hcm : grownCap w (n + m) old e ≤ maxLen := grownCap_le_maxLen w (n + m) old e h63
    refine ⟨⟨hlen, .inr ⟨w.heap.size, _, _, rfl, hbase, heap_alloc_new w.drew _, hge, hcm, ?_, ?_⟩⟩, ⟨rfl, rfl, rfl, by simp, fun k hk _ => heap_alloc_old w.drew _ hk⟩⟩
    · simp only [Array.size_append, List.size_toArray, size_zeroCells, hown.1, hl]
      simp
      omega
    · simp only [Array.toList_append, List.append_assoc]
      rw [← List.append_assoc, ← hlen]
      exact List.take_left
  rcases hown.2 with ⟨rfl, rfl⟩ | ⟨g, cap, cur, rfl, hbg, hg, hnc, hcm, hcs, htake⟩
  · have hx : xs = [] := List.eq_nil_of_length_eq_zero (by simpa using hown.1)
    subst hx
    have hgr := grown 0 (by omega) (Value.ownBlock (.slice none 0 0))
    refine ⟨_, _, ?_, hgr.1, hgr.2, .inr rfl⟩
    have hn : ¬ (m ≤ 0) := by omega
    have h48' : ¬ (281474976710656 < Builtin.nextslicecap m 0) := by have := growslice_fits (need := m) (old := 0) (bytes := 1) (by omega) (by omega); omega
    have h63' : ¬ (9223372036854775807 < (m : Int)) := by omega
    simp [Builtin.append_, run_underlying ht, run_underlying hti, sizeOf, typeInfo, zeroValue, hi, hz, hsize, hby, asInt, asIntOf, hwr, hneg, h48, hm0, hn, h48', h63', Question.forced, Builtin.firstCells, newRow, grownCap, zeroCells_u8, Value.cells]
  · by_cases hroom : n + m ≤ cap
    · have hfit : n * 1 + (nul8 m).length ≤ cur.size := by rw [hl, hcs]; omega
      have h1 : ∀ u ∈ nul8 m, u.oneCell' = true := fun u hu => by rw [List.eq_of_mem_replicate hu]; rfl
      have hst := run_storeCells_at P g (n * 1) e (nul8 m) 0 cur w hg (by simpa using hfit) h1
      simp only [Nat.add_zero, Nat.mul_one] at hst
      refine ⟨.slice (some ⟨g, 0, none⟩) (n + m) cap, w.setRow g (cur.toList.take (n * 1) ++ nul8 m ++ cur.toList.drop (n * 1 + (nul8 m).length)).toArray, ?_, ⟨hlen, .inr ⟨g, cap, _, rfl, hbg, setRow_heap w g cur _ e _ hg, hroom, hcm, ?_, ?_⟩⟩, ⟨rfl, rfl, rfl, by simp, fun k _ hk => setRow_other w g k _ (fun e => hk (by simp [Value.ownBlock, e]))⟩, .inl rfl⟩
      · simp [Builtin.append_, run_underlying ht, run_underlying hti, sizeOf, typeInfo, zeroValue, hi, hz, hsize, hby, asInt, asIntOf, hwr, hneg, h48, hm0, hroom, zeroCells_u8, Value.cells, Addr.add_lit, hst]
      · simp only [List.size_toArray, List.length_append, List.length_take, List.length_drop, Array.length_toList]
        omega
      · rw [htake, ← hlen]
        exact List.take_left
    · have hgr := grown cap (by omega) (Value.ownBlock (.slice (some ⟨g, 0, none⟩) n cap))
      refine ⟨_, _, ?_, hgr.1, hgr.2, .inr rfl⟩
      have holds : ∀ j u, xs[j]? = some u → w.cell? ((⟨g, 0, none⟩ : Addr).add j) = some u := hown.cells (g := g) rfl
      have ho := run_firstCells_some (P := P) w.drew 1 n ⟨g, 0, none⟩ n cap xs hown.1 (by simpa using holds)
      have h48' : ¬ (281474976710656 < Builtin.nextslicecap (n + m) cap) := by have := growslice_fits (need := n + m) (old := cap) (bytes := 1) (by omega) (by omega); omega
      have h63' : ¬ (9223372036854775807 < ((n : Int) + (m : Int))) := by omega
      simp [Builtin.append_, run_underlying ht, run_underlying hti, sizeOf, typeInfo, zeroValue, hi, hz, hsize, hby, asInt, asIntOf, hwr, hneg, h48, hm0, hroom, h48', h63', Question.forced, ho, newRow, grownCap, zeroCells_u8, Value.cells]
end
/-- append(s, make([]byte, m)...) onto a row of the call's own. -/
theorem wpList_append_make {P : Program} {w : World} {ops : Array Oper} {rest : List Oper} {o : Oper} {a : Act} {Q : Exit → Act → World → Prop} (hgd : o.guard = none) (s x : Operand) (t ti : TypeId)
    (ho : o.op = .call { callee := .builtin .append, args := #[s, x], argTypes := #[t, ti] }) (d : Option Tmp) (hd : o.dst = d)
    (base : Nat) (e : TypeId) (ht : P.underlying t = some (.slice e)) (hti : P.underlying ti = some (.int .i64)) (hinfo : (P.info? e).map (fun i => (i.zero, i.size, i.bytes)) = some (some (.int .u8 0), 1, 1))
    (v : Value) (n m : Nat) (xs : List Value) (hs : a.eval s = v) (hown : w.ownsRow base e 1 v n xs) (hx : a.eval x = .int .i64 m) (hm : 0 < m)
    (h63 : n + m ≤ maxLen) (hbytes : (n + m) * 1 ≤ 140737488355328) (hbase : base ≤ w.heap.size)
    (h : ∀ v' w', w'.ownsRow base e 1 v' (n + m) (xs ++ nul8 m) → w.grownBy w' v.ownBlock → (v'.ownBlock = v.ownBlock ∨ v'.ownBlock = some w.heap.size) → wpList P ops Q rest (a.put d v') w') :
    wpList P ops Q (o :: rest) a w := by
  subst hd
  refine wpList_plain hgd fun K hK => ?_
  obtain ⟨i, hi, hz, hz1, hz2⟩ := info_parts hinfo
  obtain ⟨v', w', hr, h2, h3, h5⟩ := run_append_make (P := P) w base t ti o.type e i ht hti hi hz hz1 hz2 v n xs hown m hm h63 hbytes hbase
  unfold Oper.wp execOp
  simp only [ho, resolve, invoke, builtin, Sem.run_bind, Sem.run_pure, Result.andThen_ok, List.map_toArray, List.map_cons, List.map_nil, hs, hx, hr]
  exact hK _ _ (h v' w' h2 h3 h5)
end Go.Proofs.Ytonfnlohbgbffaa
