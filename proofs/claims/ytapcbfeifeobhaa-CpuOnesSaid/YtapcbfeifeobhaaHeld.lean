/- Regions that draw their order: what holds of the worlds may be made stronger on the way; an operation that makes memory; a conversion. -/
import Derived.Test.YtapcbfeifeobhaaBlk
set_option linter.unusedVariables false
namespace Go.Proofs.Ytapcbfeifeobhaa
open Go.RowKit

section
variable {P : Program} {ops : Array Oper} {Q : Exit → Act → World → Prop} {md : Region.Mode} {S S' : World → Prop}
theorem wpAnyH_mono (h : ∀ w, S' w → S w) : ∀ (fuel : Nat) (listed : Array Bool) (a : Act) (w : World), wpAnyH P md ops Q S' fuel listed a w → wpAnyH P md ops Q S fuel listed a w
  | 0, _, _, _, hh => hh
  | fuel + 1, listed, a, w, hh => ⟨hh.1, fun i hi => wpOp_mono (fun a' w' h3 => ⟨h _ h3.1, wpAnyH_mono h fuel _ a' w' h3.2⟩) (hh.2 i hi)⟩

variable {oi : Oper} {fuel : Nat} {listed : Array Bool} {a : Act} {w : World}
/-- The one operation that may come up makes memory: its run is known; what holds of the worlds from here on is S'. -/
theorem loudH (i : Nat) (hi : ops[i]? = some oi) (hw : Region.wanted oi (yielded ops a.tmps) = true) (hr : Region.ready md ops listed = [i]) (d : Option Tmp) (hd : oi.dst = d) (v : Value) (w' : World)
    (hrun : (execOp a.eval oi).run P w = .ok (.value v) w') (S' : World → Prop) (hS : ∀ w, S' w → S w) (hw' : S' w')
    (h : wpAnyH P md ops Q S' fuel (listed.setIfInBounds i true) (a.put d v) w') : wpAnyH P md ops Q S (fuel + 1) listed a w := by
  subst hd
  refine wpAnyH_ready (rs := [i]) hr (by simp) (AllReadyH.cons hi (fun K hK => ?_) AllReadyH.nil)
  rw [if_pos hw]
  unfold Oper.wp
  rw [hrun]
  exact hK.out _ _ (hS _ hw') (fun _ => wpAnyH_mono hS _ _ _ _ h)

/-- One of the operations that may come up makes memory: its branch of wpAnyH_all. -/
theorem loudBr (i : Nat) (hi : ops[i]? = some oi) (hw : Region.wanted oi (yielded ops a.tmps) = true) (d : Option Tmp) (hd : oi.dst = d) (v : Value) (w' : World)
    (hrun : (execOp a.eval oi).run P w = .ok (.value v) w') (hS : S w') (h : wpAnyH P md ops Q S fuel (listed.setIfInBounds i true) (a.put d v) w') :
    wpOp P ops Q i (fun a' w' => S w' ∧ wpAnyH P md ops Q S fuel (listed.setIfInBounds i true) a' w') a w := by
  subst hd
  unfold wpOp
  rw [hi]
  simp only
  rw [if_pos hw]
  left
  unfold Oper.wp
  rw [hrun]
  exact ⟨hS, h⟩
theorem wpAnyH_two (i j : Nat) (hr : Region.ready md ops listed = [i, j])
    (h1 : wpOp P ops Q i (fun a' w' => S w' ∧ wpAnyH P md ops Q S fuel (listed.setIfInBounds i true) a' w') a w)
    (h2 : wpOp P ops Q j (fun a' w' => S w' ∧ wpAnyH P md ops Q S fuel (listed.setIfInBounds j true) a' w') a w) : wpAnyH P md ops Q S (fuel + 1) listed a w :=
  wpAnyH_all hr (by simp) (fun k hk => by
    simp only [List.mem_cons, List.not_mem_nil, or_false] at hk
    rcases hk with rfl | rfl
    · exact h1
    · exact h2)
theorem loudK {K : Act → World → Prop} (i : Nat) (hi : ops[i]? = some oi) (hw : Region.wanted oi (yielded ops a.tmps) = true) (d : Option Tmp) (hd : oi.dst = d) (v : Value) (w' : World)
    (hrun : (execOp a.eval oi).run P w = .ok (.value v) w') (h : K (a.put d v) w') : wpOp P ops Q i K a w := by
  subst hd
  unfold wpOp
  rw [hi]
  simp only
  rw [if_pos hw]
  left
  unfold Oper.wp
  rw [hrun]
  exact h
theorem callK {K : Act → World → Prop} (i : Nat) (hi : ops[i]? = some oi) (hw : Region.wanted oi (yielded ops a.tmps) = true) (d : Option Tmp) (hd : oi.dst = d) (f : FuncId) (args : Array Value)
    (hrun : (execOp a.eval oi).run P w = .ok (.enter f args) w)
    (hc : Calls P f args w (fun e w' => ∃ v, e = .returned v ∧ K (a.put d v) w')) : wpOp P ops Q i K a w := by
  subst hd
  unfold wpOp
  rw [hi]
  simp only
  rw [if_pos hw]
  left
  unfold Oper.wp
  rw [hrun, Oper.upon_enter]
  refine hc.mono fun e w'' hh => ?_
  obtain ⟨v, rfl, h⟩ := hh
  exact h
/-- One of the operations that may come up is a call: its branch of wpAnyH_all. -/
theorem callBr (i : Nat) (hi : ops[i]? = some oi) (hw : Region.wanted oi (yielded ops a.tmps) = true) (d : Option Tmp) (hd : oi.dst = d) (f : FuncId) (args : Array Value)
    (hrun : (execOp a.eval oi).run P w = .ok (.enter f args) w)
    (hc : Calls P f args w (fun e w' => ∃ v, e = .returned v ∧ S w' ∧ wpAnyH P md ops Q S fuel (listed.setIfInBounds i true) (a.put d v) w')) :
    wpOp P ops Q i (fun a' w' => S w' ∧ wpAnyH P md ops Q S fuel (listed.setIfInBounds i true) a' w') a w := by
  subst hd
  unfold wpOp
  rw [hi]
  simp only
  rw [if_pos hw]
  left
  unfold Oper.wp
  rw [hrun, Oper.upon_enter]
  refine hc.mono fun e w'' hh => ?_
  obtain ⟨v, rfl, hS, h⟩ := hh
  exact ⟨hS, h⟩
theorem appendBr (i : Nat) (hi : ops[i]? = some oi) (hw : Region.wanted oi (yielded ops a.tmps) = true) (d : Option Tmp) (hd : oi.dst = d) (s x : Operand) (t : TypeId)
    (ho : oi.op = .call { callee := .builtin .append, args := #[s, x], argTypes := #[t, t] })
    (base : Nat) (e : TypeId) (z : Value) (size bytes : Nat) (ht : P.underlying t = some (.slice e)) (hinfo : (P.info? e).map (fun i => (i.zero, i.size, i.bytes)) = some (some z, size, bytes)) (hzs : z.cells.size = size) (hsz : 0 < size)
    (v u : Value) (n m : Nat) (xs news : List Value) (hs : a.eval s = v) (hown : w.ownsRow base e size v n xs) (hx : a.eval x = u) (hsr : SR w u m size news) (h1 : ∀ u ∈ news, u.oneCell' = true)
    (h63 : n + m ≤ maxLen) (hbytes : (n + m) * bytes ≤ 140737488355328) (hbase : base ≤ w.heap.size)
    (h : ∀ v' w', w'.ownsRow base e size v' (n + m) (xs ++ news) → w.grownBy w' v.ownBlock → (v'.ownBlock = v.ownBlock ∨ v'.ownBlock = some w.heap.size) → S w' ∧ wpAnyH P md ops Q S fuel (listed.setIfInBounds i true) (a.put d v') w') :
    wpOp P ops Q i (fun a' w' => S w' ∧ wpAnyH P md ops Q S fuel (listed.setIfInBounds i true) a' w') a w := by
  obtain ⟨v', w', hrun, h2, h3, h4⟩ := run_append_sr (P := P) oi.type t base e z size bytes ht hinfo hzs hsz v u n m xs news hown hsr h1 h63 hbytes hbase
  obtain ⟨k1, k2⟩ := h v' w' h2 h3 h4
  refine loudBr i hi hw d hd v' w' ?_ k1 k2
  unfold execOp
  simp only [ho, resolve, invoke, builtin, Sem.run_bind, Sem.run_pure, Result.andThen_ok, List.map_toArray, List.map_cons, List.map_nil, hs, hx, hrun]

/-- The one operation that may come up is an append onto a row of the call's own. -/
theorem appendH (i : Nat) (hi : ops[i]? = some oi) (hw : Region.wanted oi (yielded ops a.tmps) = true) (hr : Region.ready md ops listed = [i]) (d : Option Tmp) (hd : oi.dst = d) (s x : Operand) (t : TypeId)
    (ho : oi.op = .call { callee := .builtin .append, args := #[s, x], argTypes := #[t, t] })
    (base : Nat) (e : TypeId) (z : Value) (size bytes : Nat) (ht : P.underlying t = some (.slice e)) (hinfo : (P.info? e).map (fun i => (i.zero, i.size, i.bytes)) = some (some z, size, bytes)) (hzs : z.cells.size = size) (hsz : 0 < size)
    (v u : Value) (n m : Nat) (xs news : List Value) (hs : a.eval s = v) (hown : w.ownsRow base e size v n xs) (hx : a.eval x = u) (hsr : SR w u m size news) (h1 : ∀ u ∈ news, u.oneCell' = true)
    (h63 : n + m ≤ maxLen) (hbytes : (n + m) * bytes ≤ 140737488355328) (hbase : base ≤ w.heap.size)
    (h : ∀ v' w', w'.ownsRow base e size v' (n + m) (xs ++ news) → w.grownBy w' v.ownBlock → ∃ S' : World → Prop, (∀ w, S' w → S w) ∧ S' w' ∧ wpAnyH P md ops Q S' fuel (listed.setIfInBounds i true) (a.put d v') w') : wpAnyH P md ops Q S (fuel + 1) listed a w := by
  obtain ⟨v', w', hrun, h2, h3, _⟩ := run_append_sr (P := P) oi.type t base e z size bytes ht hinfo hzs hsz v u n m xs news hown hsr h1 h63 hbytes hbase
  obtain ⟨S', k1, k2, k3⟩ := h v' w' h2 h3
  refine loudH i hi hw hr d hd v' w' ?_ S' k1 k2 k3
  unfold execOp
  simp only [ho, resolve, invoke, builtin, Sem.run_bind, Sem.run_pure, Result.andThen_ok, List.map_toArray, List.map_cons, List.map_nil, hs, hx, hrun]

/-- A conversion whose run is known in every world that meets S. -/
theorem yi_convert {o : Oper} (hw : Region.wanted o (yielded ops a.tmps) = true) (src dst : TypeId) (x : Operand) (ho : o.op = .convert src dst x) (v s : Value) (hx : a.eval x = v) (hr : ∀ w, S w → (convert src dst v).run P w = .ok s w) : YieldsIf P ops S o s a :=
  .inl ⟨hw, fun w hS => by
    unfold execOp
    simp only [ho, hx, Sem.run_bind, hr w hS, Result.andThen_ok]
    rfl⟩

/-- '+' on strings. -/
theorem yi_cat {o : Oper} (hw : Region.wanted o (yielded ops a.tmps) = true) (t t' : TypeId) (x y : Operand) (ho : o.op = .binOp .add t x y t') (s u r : ByteArray) (hx : a.eval x = .string s) (hy : a.eval y = .string u) (hr : s ++ u = r) (hm : r.size ≤ maxLen) : YieldsIf P ops S o (.string r) a :=
  .inl ⟨hw, fun w hS => by
    subst hr
    unfold execOp
    have hsz : (s ++ u).size = s.size + u.size := by simp [ByteArray.size_append]
    have hc : ¬ (((s.size + u.size : Nat) : Int) > IntKind.i64.max) := by
      rw [hsz] at hm
      simp only [maxLen] at hm
      simp [IntKind.max, IntKind.bits, IntKind.signed]
      omega
    simp only [ho, hx, hy]
    have h1 : (eqGuard BinOp.add t x y (Value.string s) (Value.string u)).run P w = .ok () w := by simp [eqGuard]
    have h2 : (binOp BinOp.add t (Value.string s) (Value.string u)).run P w = .ok (.string (s ++ u)) w := by
      rw [binOp_string_add]
      simp only [Op.stringOp]
      rw [if_neg hc]
      rfl
    simp only [Sem.run_bind, h1, h2, Result.andThen_ok]
    rfl⟩
end

theorem put_comm (a : Act) (x y : Tmp) (u v : Value) (h : x ≠ y) : (a.put (some x) u).put (some y) v = (a.put (some y) v).put (some x) u := by
  unfold Act.put
  simp only
  rw [Array.setIfInBounds_comm _ _ h]

section
variable {P : Program} {ops : Array Oper} {Q : Exit → Act → World → Prop} {md : Region.Mode} {fuel : Nat} {l : Array Bool} {a : Act} {wd : World} {o3 o6 o8 : Oper}
/-- A literal, an append onto it, a new variable: whatever order. -/
theorem litAppendAlloc (i3 i6 i7 i8 : Nat) (d3 d6 d7 d8 : Tmp) {o7 : Oper} (n36 : i3 ≠ i6) (n38 : i3 ≠ i8) (n68 : i6 ≠ i8) (n78 : i7 ≠ i8) (e36 : d3 ≠ d6) (e38 : d3 ≠ d8) (e68 : d6 ≠ d8) (e78 : d7 ≠ d8)
    (h3 : ops[i3]? = some o3) (h6 : ops[i6]? = some o6) (h7 : ops[i7]? = some o7) (h8 : ops[i8]? = some o8) (g3 : o3.guard = none) (g6 : o6.guard = none) (g8 : o8.guard = none) (t3 : o3.dst = some d3) (t6 : o6.dst = some d6) (t7 : o7.dst = some d7) (t8 : o8.dst = some d8)
    (r0 : Region.ready md ops l = [i3, i8]) (r1 : Region.ready md ops (l.setIfInBounds i3 true) = [i6, i8]) (r2 : (Region.ready md ops ((l.setIfInBounds i3 true).setIfInBounds i6 true)).contains i7 = true) (r2' : Region.ready md ops (((l.setIfInBounds i3 true).setIfInBounds i6 true).setIfInBounds i7 true) = [i8])
    (r6 : (Region.ready md ops (((l.setIfInBounds i3 true).setIfInBounds i8 true).setIfInBounds i6 true)).contains i7 = true) (hsel : Region.noSelect ops = true) (f1 : Region.free md ops ((l.setIfInBounds i3 true).setIfInBounds i6 true) i7 = true) (f2 : Region.free md ops (((l.setIfInBounds i3 true).setIfInBounds i8 true).setIfInBounds i6 true) i7 = true)
    (hQ : ∀ v c a w, Q (.panic c) (a.put (some d7) v) w → Q (.panic c) a w) (r3 : Region.ready md ops ((l.setIfInBounds i3 true).setIfInBounds i8 true) = [i6])
    (r4 : Region.ready md ops (l.setIfInBounds i8 true) = [i3]) (r5 : Region.ready md ops ((l.setIfInBounds i8 true).setIfInBounds i3 true) = [i6])
    (e ty t : TypeId) (zc : Array Value)
    (run3 : ∀ (a : Act) w, (execOp a.eval o3).run P w = .ok (.value (.slice (some ⟨w.heap.size, 0, none⟩) 0 0)) (w.alloc (.cells #[] e)))
    (run8 : ∀ (a : Act) w, (execOp a.eval o8).run P w = .ok (.value (.pointer (some ⟨w.heap.size, 0, none⟩))) (w.alloc (.cells zc ty)))
    (x : Operand) (ho : o6.op = .call { callee := .builtin .append, args := #[.tmp d3, x], argTypes := #[t, t] }) (u : Value)
    (hd : ∀ v3, (a.put (some d3) v3).eval (.tmp d3) = v3) (hd' : ∀ v3 v8, ((a.put (some d3) v3).put (some d8) v8).eval (.tmp d3) = v3)
    (hx : ∀ v3, (a.put (some d3) v3).eval x = u) (hx' : ∀ v3 v8, ((a.put (some d3) v3).put (some d8) v8).eval x = u)
    (z : Value) (size bytes m : Nat) (news : List Value) (ht : P.underlying t = some (.slice e)) (hinfo : (P.info? e).map (fun i => (i.zero, i.size, i.bytes)) = some (some z, size, bytes)) (hzs : z.cells.size = size) (hsz : 0 < size)
    (hsr : SR wd u m size news) (h1 : ∀ u ∈ news, u.oneCell' = true) (h63 : m ≤ maxLen) (hbytes : m * bytes ≤ 140737488355328)
    (val7 : Option Addr → Nat → Value) (y1 : ∀ L ad c, YieldsIf P ops (fun w' => Below wd.heap.size wd w') o7 (val7 ad c) ((a.put (some d3) (.slice (some ⟨L, 0, none⟩) 0 0)).put (some d6) (.slice ad m c)))
    (y2 : ∀ L G ad c, YieldsIf P ops (fun w' => Below wd.heap.size wd w') o7 (val7 ad c) (((a.put (some d3) (.slice (some ⟨L, 0, none⟩) 0 0)).put (some d8) (.pointer (some ⟨G, 0, none⟩))).put (some d6) (.slice ad m c)))
    (rest : ∀ L G ad c w', Below wd.heap.size wd w' → wd.heap.size ≤ G → w'.heap[G]? = some (.cells zc ty (0, 0)) → w'.ownsRow wd.heap.size e size (.slice ad m c) m news → (Value.slice ad m c).ownBlock ≠ some G →
      wpAnyH P md ops Q (fun w' => Below wd.heap.size wd w') fuel ((((l.setIfInBounds i3 true).setIfInBounds i6 true).setIfInBounds i7 true).setIfInBounds i8 true) ((((a.put (some d3) (.slice (some ⟨L, 0, none⟩) 0 0)).put (some d6) (.slice ad m c)).put (some d7) (val7 ad c)).put (some d8) (.pointer (some ⟨G, 0, none⟩))) w') :
    wpAnyH P md ops Q (fun w' => Below wd.heap.size wd w') (fuel + 4) l a wd := by
  have w3 : ∀ a, Region.wanted o3 (yielded ops a) = true := fun a => by simp [Region.wanted, g3]
  have w6 : ∀ a, Region.wanted o6 (yielded ops a) = true := fun a => by simp [Region.wanted, g6]
  have w8 : ∀ a, Region.wanted o8 (yielded ops a) = true := fun a => by simp [Region.wanted, g8]
  have lit : ∀ w : World, Below wd.heap.size wd w → Below wd.heap.size wd (w.alloc (.cells #[] e)) ∧ (w.alloc (.cells #[] e)).ownsRow wd.heap.size e size (.slice (some ⟨w.heap.size, 0, none⟩) 0 0) 0 [] := fun w hb =>
    ⟨hb.alloc hb.size _, World.ownsRow_lit w #[] 0 hb.size (by simp [maxLen]) (by simp)⟩
  refine wpAnyH_all r0 (by simp) ?_
  intro i hi
  simp only [List.mem_cons, List.not_mem_nil, or_false] at hi
  rcases hi with rfl | rfl
  · -- the literal first
    obtain ⟨b1, own1⟩ := lit wd (Below.refl _ _)
    refine loudBr _ h3 (w3 _) _ t3 _ _ (run3 a wd) b1 ?_
    refine wpAnyH_all r1 (by simp) ?_
    intro j hj
    simp only [List.mem_cons, List.not_mem_nil, or_false] at hj
    rcases hj with rfl | rfl
    · refine appendBr _ h6 (w6 _) _ t6 (.tmp d3) x t ho wd.heap.size e z size bytes ht hinfo hzs hsz _ u 0 m [] news (hd _) own1 (hx _) (hsr.keep b1) h1 (by simpa using h63) (by simpa using hbytes) b1.size ?_
      intro v' w' own' gr' at'
      rw [Nat.zero_add, List.nil_append] at own'
      obtain ⟨ad, c, rfl⟩ := own_form own'
      have b2 : Below wd.heap.size wd w' := b1.grown gr' b1.size (fun j hj => by simp [Value.ownBlock] at hj; omega)
      refine ⟨b2, takeH i7 (val7 ad c) (some d7) h7 t7 hsel f1 r2 (hQ _) (y1 _ _ _) b2 (wpAnyH_all r2' (by simp) ?_)⟩
      intro k hk
      obtain rfl : k = i8 := by simpa using hk
      refine loudBr _ h8 (w8 _) _ t8 _ _ (run8 _ w') (b2.alloc b2.size _) ?_
      exact rest _ _ _ _ _ (b2.alloc b2.size _) b2.size (heap_alloc_last _ _) (own'.alloc _) (fun h => by have := (own'.lt _ h).2; omega)
    · refine loudBr _ h8 (w8 _) _ t8 _ _ (run8 _ _) (b1.alloc b1.size _) ?_
      refine wpAnyH_all r3 (by simp) ?_
      intro k hk
      obtain rfl : k = i6 := by simpa using hk
      refine appendBr _ h6 (w6 _) _ t6 (.tmp d3) x t ho wd.heap.size e z size bytes ht hinfo hzs hsz _ u 0 m [] news (hd' _ _) (own1.alloc _) (hx' _ _) (hsr.keep (b1.alloc b1.size _)) h1 (by simpa using h63) (by simpa using hbytes) (b1.alloc b1.size _).size ?_
      intro v' w' own' gr' at'
      rw [Nat.zero_add, List.nil_append] at own'
      obtain ⟨ad, c, rfl⟩ := own_form own'
      have b2 : Below wd.heap.size wd w' := (b1.alloc b1.size _).grown gr' (b1.alloc b1.size _).size (fun j hj => by simp [Value.ownBlock] at hj; omega)
      refine ⟨b2, takeH i7 (val7 ad c) (some d7) h7 t7 hsel f2 r6 (hQ _) (y2 _ _ _ _) b2 ?_⟩
      have hs1 : (wd.alloc (.cells #[] e)).heap.size = wd.heap.size + 1 := by simp
      have hs2 : ((wd.alloc (.cells #[] e)).alloc (.cells zc ty)).heap.size = wd.heap.size + 2 := by simp
      have hrow := (gr'.block (wd.alloc (.cells #[] e)).heap.size (by omega) (by intro h; simp only [Value.ownBlock, Option.some.injEq] at h; omega)).trans (heap_alloc_last (wd.alloc (.cells #[] e)) (.cells zc ty))
      have := rest wd.heap.size (wd.alloc (.cells #[] e)).heap.size ad c w' b2 (by rw [hs1]; omega) hrow own' (by
        rcases at' with h | h <;> rw [h] <;> intro h' <;> simp only [Value.ownBlock, Option.some.injEq] at h' <;> omega)
      rw [Array.setIfInBounds_comm _ _ n78, Array.setIfInBounds_comm _ _ n68, put_comm _ _ _ _ _ e78, put_comm _ _ _ _ _ e68] at this
      exact this
  · -- the variable first
    have b0 : Below wd.heap.size wd (wd.alloc (.cells zc ty)) := (Below.refl _ _).alloc (Nat.le_refl _) _
    have hs0 : (wd.alloc (.cells zc ty)).heap.size = wd.heap.size + 1 := by simp
    refine loudBr _ h8 (w8 _) _ t8 _ _ (run8 _ wd) b0 ?_
    refine wpAnyH_all r4 (by simp) ?_
    intro j hj
    obtain rfl : j = i3 := by simpa using hj
    obtain ⟨b1, own1⟩ := lit _ b0
    have hs1 : ((wd.alloc (.cells zc ty)).alloc (.cells #[] e)).heap.size = wd.heap.size + 2 := by simp
    refine loudBr _ h3 (w3 _) _ t3 _ _ (run3 _ _) b1 ?_
    refine wpAnyH_all r5 (by simp) ?_
    intro k hk
    obtain rfl : k = i6 := by simpa using hk
    rw [put_comm _ _ _ _ _ (Ne.symm e38)]
    refine appendBr _ h6 (w6 _) _ t6 (.tmp d3) x t ho wd.heap.size e z size bytes ht hinfo hzs hsz _ u 0 m [] news (hd' _ _) own1 (hx' _ _) (hsr.keep b1) h1 (by simpa using h63) (by simpa using hbytes) b1.size ?_
    intro v' w' own' gr' at'
    rw [Nat.zero_add, List.nil_append] at own'
    obtain ⟨ad, c, rfl⟩ := own_form own'
    have b2 : Below wd.heap.size wd w' := b1.grown gr' b1.size (fun j hj => by simp [Value.ownBlock] at hj; omega)
    rw [Array.setIfInBounds_comm _ _ (Ne.symm n38)]
    refine ⟨b2, takeH i7 (val7 ad c) (some d7) h7 t7 hsel f2 r6 (hQ _) (y2 _ _ _ _) b2 ?_⟩
    have hrow0 : ((wd.alloc (.cells zc ty)).alloc (.cells #[] e)).heap[wd.heap.size]? = some (.cells zc ty (0, 0)) := by
      rw [(bnew (wd.alloc (.cells zc ty)) (.cells #[] e)).block wd.heap.size (by omega)]
      exact heap_alloc_last wd (.cells zc ty)
    have hrow := (gr'.block wd.heap.size (by omega) (by intro h; simp only [Value.ownBlock, Option.some.injEq] at h; omega)).trans hrow0
    have := rest (wd.alloc (.cells zc ty)).heap.size wd.heap.size ad c w' b2 (Nat.le_refl _) hrow own' (by
      rcases at' with h | h <;> rw [h] <;> intro h' <;> simp only [Value.ownBlock, Option.some.injEq] at h' <;> omega)
    rw [Array.setIfInBounds_comm _ _ n78, Array.setIfInBounds_comm _ _ n68, put_comm _ _ _ _ _ e78, put_comm _ _ _ _ _ e68] at this
    exact this
end

theorem SR.prefix {w : World} {A : Option Addr} {n cap : Nat} {xs : List Value} (h : SR w (.slice A n cap) n 1 xs) (m : Nat) (hm : m ≤ n) : SR w (.slice A m cap) m 1 (xs.take m) := by
  have hl : xs.length = n := by simpa using h.1
  refine ⟨by simp [hl]; omega, ?_⟩
  rcases h.2 with ⟨h1, h2⟩ | ⟨a, c, h1, h2, h3, h4⟩
  · subst h2
    obtain rfl : m = 0 := by omega
    simp only [Value.slice.injEq] at h1
    obtain ⟨rfl, _, rfl⟩ := h1
    exact .inl ⟨rfl, rfl⟩
  · simp only [Value.slice.injEq] at h1
    obtain ⟨rfl, _, rfl⟩ := h1
    refine .inr ⟨a, cap, rfl, by omega, h3, fun h0 => ?_⟩
    obtain ⟨e1, e2, e3⟩ := h4 (by omega)
    refine ⟨e1, e2, fun i hi => ?_⟩
    rw [e3 i (by omega), List.getElem?_take_of_lt (by omega)]

end Go.Proofs.Ytapcbfeifeobhaa
