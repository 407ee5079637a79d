/- Lists of numbers that a call makes: a literal of one, append of one; lists that are alike. -/
import Derived.Test.YtonfnlohbgbffaaRow
set_option linter.unusedVariables false
set_option linter.unusedSimpArgs false
namespace Go.Proofs.Ytonfnlohbgbffaa
open Go.RowKit

/-- Numbers as cells. -/
def natV (l : List Nat) : List Value := l.map fun (j : Nat) => Value.int .i64 (j : Int)
theorem natV_len (l : List Nat) : (natV l).length = l.length := by simp [natV]
theorem natV_app (l : List Nat) (k : Nat) : natV (l ++ [k]) = natV l ++ [.int .i64 k] := by simp [natV]
theorem natRow : (Try.prog.info? 3).map (fun i => (i.zero, i.size, i.bytes)) = some (some (.int .i64 0), 1, 8) := by kernel_rfl
/-- A list of numbers of the call's own. -/
def OwnN (w : World) (base : Nat) (v : Value) (l : List Nat) : Prop := w.ownsRow base 3 1 v l.length (natV l)
section
variable {P : Program} {ops : Array Oper} {Q : Exit → Act → World → Prop} {a : Act} {w w' : World} {rest : List Oper} {o : Oper} {base : Nat} {v : Value} {l : List Nat}
theorem OwnN.nil (w : World) (base : Nat) : OwnN w base (.slice none 0 0) [] := World.ownsRow_nil _ _ _ _
theorem OwnN.keep (h : OwnN w base v l) (hb : Below w.heap.size w w') : OwnN w' base v l := own_below h hb
theorem OwnN.form (h : OwnN w base v l) : ∃ A c, v = .slice A l.length c := own_form h
theorem OwnN.chg {S : Nat → Prop} (h : OwnN w base v l) (c : Chg S w w') (hS : ∀ k, base ≤ k → ¬ S k) : OwnN w' base v l := own_keep h (fun k hk => c.block k (h.lt k hk).2 (hS k (h.lt k hk).1))
theorem OwnN.one {x : Nat} (h : OwnN w base v l) (o : One w w' (some x)) (hx : ∀ k, v.ownBlock = some k → k ≠ x) : OwnN w' base v l := own_one h o (fun k hk e => hx k hk (by cases e; rfl))
theorem OwnN.lower {base' : Nat} (h : OwnN w base v l) (hb : base' ≤ base) : OwnN w base' v l := by
  refine ⟨h.1, ?_⟩
  rcases h.2 with h1 | ⟨g0, c0, cur, hv, hb0, hrest⟩
  · exact .inl h1
  · exact .inr ⟨g0, c0, cur, hv, Nat.le_trans hb hb0, hrest⟩
theorem OwnN.si (h : OwnN w base v l) (hl : ∀ c ∈ l, c ≤ 9223372036854775807) : SI w .i64 v (l.map fun (j : Nat) => (j : Int)) := by
  refine ⟨?_, fun z hz => ?_⟩
  · have := SR.of_own h
    rw [List.length_map, List.map_map]
    exact this
  · obtain ⟨j, hj, rfl⟩ := List.mem_map.1 hz
    have := hl j hj
    exact i64_wf ⟨by omega, by omega⟩
theorem one_grown {r : Option Nat} (h : w.grownBy w' r) : One w w' r := ⟨h.os, h.tape, h.output, h.size, fun k hk hr => h.block k hk (fun e => hr e.symm)⟩
theorem Chg.oneO {S : Nat → Prop} {w w1 w2 : World} {r : Option Nat} (a : Chg S w w1) (o : One w1 w2 r) (h : ∀ x, r = some x → S x ∨ w.heap.size ≤ x) : Chg S w w2 :=
  ⟨o.os.trans a.os, o.tape.trans a.tape, o.output.trans a.output, Nat.le_trans a.size o.size, fun k hk hS => (o.block k (Nat.lt_of_lt_of_le hk a.size) (fun e => by
    rcases h k e with h | h
    · exact hS h
    · omega)).trans (a.block k hk hS)⟩
/-- []int{x}. -/
theorem wpList_lit_int {ops : Array Oper} {Q : Exit → Act → World → Prop} {a : Act} {w : World} {rest : List Oper} {o : Oper} (hg : o.guard = none) (x : Operand) (ho : o.op = .buildSlice 65 1 #[(0, x)]) (d : Option Tmp) (hd : o.dst = d) (z : Int) (hx : a.eval x = .int .i64 z)
    (h : ∀ w' u, SR w' u 1 1 [.int .i64 z] → Below w.heap.size w w' → wpList Try.prog ops Q rest (a.put d u) w') : wpList Try.prog ops Q (o :: rest) a w :=
  wpList_slice_one hg 65 3 x ho d hd (.int .i64 z) hx #[.int .i64 z] (fun w => by
    go_simp) (h _ _ (SR.of_own (World.ownsRow_lit w #[.int .i64 z] 1 (Nat.le_refl _) (by simp [maxLen]) rfl)) (bnew _ _))
/-- append(s, x) of one number. -/
theorem wpList_add_int {ops : Array Oper} {Q : Exit → Act → World → Prop} {a : Act} {w : World} {rest : List Oper} {o : Oper} (hg : o.guard = none) (s x : Operand)
    (ho : o.op = .call { callee := .builtin .append, args := #[s, x], argTypes := #[65, 65] }) (d : Option Tmp) (hd : o.dst = d) (base : Nat) (v u : Value) (l : List Nat) (z : Nat)
    (hs : a.eval s = v) (hx : a.eval x = u) (hown : OwnN w base v l) (hr : SR w u 1 1 [.int .i64 z]) (hl : l.length ≤ 1000000) (hbase : base ≤ w.heap.size)
    (h : ∀ v' w', OwnN w' base v' (l ++ [z]) → One w w' v.ownBlock → wpList Try.prog ops Q rest (a.put d v') w') : wpList Try.prog ops Q (o :: rest) a w :=
  wpList_append_sr hg s x 65 ho d hd base 3 (.int .i64 0) 1 8 Try.underlying65 natRow rfl (by omega) v u l.length 1 (natV l) [.int .i64 z] hs hown hx hr (fun u hu => by simp only [List.mem_singleton] at hu; subst hu; rfl)
    (by simp [maxLen]; omega) (by omega) hbase (fun v' w' h1 h2 _ => h v' w' (by
      unfold OwnN
      rw [natV_app, List.length_append]
      exact h1) (one_grown h2))
end
set_option maxHeartbeats 4000000 in
theorem alikeInts (v u : Value) (xs : List Int) (w : World) (hv : SI w .i64 v xs) (hu : SI w .i64 u xs) (hn : xs.length ≤ 1000000) :
    Calls Try.prog 32 #[v, u] w fun e w' => e = .returned (.bool true) ∧ Below w.heap.size w w' := by
  obtain ⟨A, cap, rfl, hlc, hcm⟩ := hv.sr.form
  obtain ⟨A', cap', rfl, hlc', hcm'⟩ := hu.sr.form
  have HV := Lib.hid hv
  have HU := Lib.hid hu
  clear hv hu
  go_enter Try.func32, Try.ntmps32
  go_wp2_with fail
  go_loopw [5] (fun v wr => ∃ k : Nat, k ≤ xs.length ∧ v = .int .i64 k ∧ Below w.heap.size w wr) (fun v _ => (xs.length - intOf v).toNat)
  case atStart => exact ⟨0, by omega, rfl, Below.refl _ _⟩
  case round =>
    obtain ⟨k, hk, rfl, hB⟩ := hrel
    by_cases hlt : k < xs.length
    · rcases (HV.out.keep hB).cases with ⟨h, _⟩ | ⟨_, g, off, c1, hs, _, _, hg, hc⟩
      · rw [h] at hlt; simp at hlt
      rcases (HU.out.keep hB).cases with ⟨h, _⟩ | ⟨_, g', off', c1', hs', _, _, hg', hc'⟩
      · rw [h] at hlt; simp at hlt
      cases hs
      cases hs'
      have d0 := hc k hlt
      have d1 := hc' k hlt
      generalize xs.getD k 0 = x at *
      clear hc hc'
      go_wp2_with fail
      go_region
      go_wp2_with fail
      go_roundw
      case rel => exact ⟨k + 1, by omega, by go_num, bdrewN hB 1⟩
      case measure => simp [intOf]; omega
    · go_wp2_with fail
      go_ret
      exact ⟨rfl, hB⟩
end Go.Proofs.Ytonfnlohbgbffaa
