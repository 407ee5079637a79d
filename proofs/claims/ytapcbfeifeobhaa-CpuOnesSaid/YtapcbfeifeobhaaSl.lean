/- Slices that read as lists, whatever they are: nil, empty, a piece of a row: what is kept, what appends, what converts. -/
import Derived.Test.YtapcbfeifeobhaaBase
import Derived.OwnWalk
import Derived.Maps.AppendAt
import Derived.Laws.BytesArg
set_option linter.unusedVariables false
namespace Go.Proofs.Ytapcbfeifeobhaa
open Go.RowKit

/-- A slice value of n elements of so many cells each: it holds the cells xs. -/
def SR (w : World) (v : Value) (n size : Nat) (xs : List Value) : Prop :=
  xs.length = n * size ∧ ((v = .slice none 0 0 ∧ n = 0) ∨
    ∃ a cap, v = .slice (some a) n cap ∧ n ≤ cap ∧ cap ≤ maxLen ∧ (0 < n → a.spot = none ∧ a.block < w.heap.size ∧ ∀ i, i < n * size → w.cell? ⟨a.block, a.off + i, none⟩ = xs[i]?))

section
variable {w w' : World} {v : Value} {n size : Nat} {xs : List Value}

theorem SR.nil (w : World) (size : Nat) : SR w (.slice none 0 0) 0 size [] := ⟨by simp, .inl ⟨rfl, rfl⟩⟩

/-- Empty, or a row of cells at a place. -/
theorem SR.cases (h : SR w v n size xs) : (n = 0 ∧ xs = [] ∧ (v = .slice none 0 0 ∨ ∃ a cap, v = .slice (some a) 0 cap ∧ cap ≤ maxLen)) ∨
    (0 < n ∧ ∃ g off cap, v = .slice (some ⟨g, off, none⟩) n cap ∧ n ≤ cap ∧ cap ≤ maxLen ∧ g < w.heap.size ∧ ∀ i, i < n * size → w.cell? ⟨g, off + i, none⟩ = xs[i]?) := by
  obtain ⟨hl, h⟩ := h
  rcases Nat.eq_zero_or_pos n with rfl | hn
  · refine .inl ⟨rfl, List.eq_nil_of_length_eq_zero (by simpa using hl), ?_⟩
    rcases h with ⟨rfl, _⟩ | ⟨a, cap, rfl, _, h2, _⟩
    · exact .inl rfl
    · exact .inr ⟨a, cap, rfl, h2⟩
  · refine .inr ⟨hn, ?_⟩
    rcases h with ⟨_, h0⟩ | ⟨⟨g, off, spot⟩, cap, rfl, h1, h2, h3⟩
    · omega
    · obtain ⟨hs, hg, hc⟩ := h3 hn
      simp only at hs hg hc
      subst hs
      exact ⟨g, off, cap, rfl, h1, h2, hg, hc⟩

theorem SR.form (h : SR w v n size xs) : ∃ a cap, v = .slice a n cap ∧ n ≤ cap ∧ cap ≤ maxLen := by
  rcases h.2 with ⟨rfl, rfl⟩ | ⟨a, cap, rfl, h1, h2, _⟩
  · exact ⟨none, 0, rfl, by omega, by simp [maxLen]⟩
  · exact ⟨some a, cap, rfl, h1, h2⟩

theorem SR.keepAt (h : SR w v n size xs) (hs : w.heap.size ≤ w'.heap.size) (hk : ∀ a cap, v = .slice (some a) n cap → 0 < n → a.block < w.heap.size → w'.heap[a.block]? = w.heap[a.block]?) : SR w' v n size xs := by
  refine ⟨h.1, ?_⟩
  rcases h.2 with h | ⟨a, cap, rfl, h1, h2, h3⟩
  · exact .inl h
  · refine .inr ⟨a, cap, rfl, h1, h2, fun hn => ?_⟩
    obtain ⟨e1, e2, e3⟩ := h3 hn
    refine ⟨e1, by omega, fun i hi => ?_⟩
    rw [World.cell?_of_block (w := w) (a := ⟨a.block, a.off + i, none⟩) (hk a cap rfl hn e2)]
    exact e3 i hi

theorem SR.keep (h : SR w v n size xs) (hb : Below w.heap.size w w') : SR w' v n size xs := h.keepAt hb.size fun a _ _ _ hl => hb.block a.block hl
theorem SR.drewN (h : SR w v n size xs) (k : Nat) : SR (w.drewN k) v n size xs := h
theorem SR.alloc (h : SR w v n size xs) (o : Obj) : SR (w.alloc o) v n size xs := h.keep (bnew w o)

/-- What the call owns reads as it is. -/
theorem SR.of_own {base : Nat} {e : TypeId} (h : w.ownsRow base e size v n xs) : SR w v n size xs := by
  refine ⟨h.1, ?_⟩
  rcases h.2 with ⟨rfl, rfl⟩ | ⟨g, cap, cur, rfl, hb, hg, h1, h2, h3, h4⟩
  · exact .inl ⟨rfl, rfl⟩
  · refine .inr ⟨⟨g, 0, none⟩, cap, rfl, h1, h2, fun hn => ⟨rfl, rowlt hg, fun i hi => ?_⟩⟩
    show w.cell? ⟨g, 0 + i, none⟩ = _
    rw [Nat.zero_add, cell_of_row w g i cur e (0, 0) hg, ← h4, List.getElem?_take_of_lt hi, Array.getElem?_toList]

theorem mapM_get {α β : Type} (f : α → Option β) : ∀ (l : List α) (r : List β), l.mapM f = some r → r.length = l.length ∧ ∀ j, j < l.length → ∃ x, l[j]? = some x ∧ f x = r[j]? := by
  intro l
  induction l with
  | nil => intro r h; simp at h; subst h; exact ⟨rfl, fun j hj => by simp at hj⟩
  | cons a l ih =>
    intro r h
    simp only [List.mapM_cons, Option.bind_eq_bind, Option.pure_def, Option.bind_eq_some_iff, Option.some.injEq] at h
    obtain ⟨y, hy, ys, hys, rfl⟩ := h
    obtain ⟨h1, h2⟩ := ih ys hys
    refine ⟨by simp [h1], fun j hj => ?_⟩
    cases j with
    | zero => exact ⟨a, rfl, by simpa using hy⟩
    | succ j =>
      obtain ⟨x, hx, hf⟩ := h2 j (by simpa using hj)
      exact ⟨x, by simpa using hx, by simpa using hf⟩

theorem addr_add (a : Addr) (h : a.spot = none) (i : Nat) : a.add i = ⟨a.block, a.off + i, none⟩ := by
  obtain ⟨b, o, s⟩ := a
  simp only at h
  subst h
  unfold Addr.add; split <;> simp_all

/-- An argument: what its reading says. -/
theorem SR.of_arg {P : Program} {t e : TypeId} (hu : P.underlying t = some (.slice e)) (hs : 0 < P.cellsOf e) (h : Arg P w t v) :
    ∃ n xs, SR w v n (P.cellsOf e) xs ∧ ∀ i, i < n → ∃ m, Okay P w m e ((xs.drop (i * P.cellsOf e)).take (P.cellsOf e)) := by
  rcases Arg.slice hu h with rfl | ⟨a, len, cap, rfl, h1, h2, h3⟩
  · exact ⟨0, [], SR.nil w _, fun i hi => by omega⟩
  · generalize P.cellsOf e = c at *
    have hcell : ∀ i, i < len → ∃ l, l.length = c ∧ (∀ j, j < c → w.cell? ((a.add (i * c)).add j) = l[j]?) ∧ ∃ m, Okay P w m e l := by
      intro i hi
      obtain ⟨l, hl, ho⟩ := h3 i hi
      unfold World.cells? at hl
      rw [if_pos (Nat.zero_le _)] at hl
      obtain ⟨e1, e2⟩ := mapM_get _ _ _ hl
      refine ⟨l, by simpa using e1, fun j hj => ?_, ho⟩
      obtain ⟨x, hx, hf⟩ := e2 j (by simpa using hj)
      rw [List.getElem?_range hj] at hx
      cases hx
      exact hf
    rcases Nat.eq_zero_or_pos len with rfl | hn
    · exact ⟨0, [], ⟨by simp, .inr ⟨a, cap, rfl, h1, h2, fun h => by omega⟩⟩, fun i hi => by omega⟩
    · have hspot : a.spot = none ∧ a.block < w.heap.size := by
        obtain ⟨l, hl, hc, _⟩ := hcell 0 hn
        have h0 := hc 0 hs
        have e0 : (a.add (0 * c)).add 0 = a := by simp [Addr.add]
        rw [e0, List.getElem?_eq_getElem (by omega)] at h0
        exact ⟨World.cell?_spot h0, block_lt_of_cell h0⟩
      have key : ∀ i, i < len → ∃ l, l.length = c ∧ (∀ j, j < c → w.cell? ⟨a.block, a.off + (i * c + j), none⟩ = l[j]?) ∧ ∃ m, Okay P w m e l := by
        intro i hi
        obtain ⟨l, hl, hc, ho⟩ := hcell i hi
        refine ⟨l, hl, fun j hj => ?_, ho⟩
        have := hc j hj
        rw [addr_add a hspot.1, addr_add _ rfl] at this
        rw [← Nat.add_assoc]
        exact this
      have get : ∀ k, k < len * c → ∃ u, w.cell? ⟨a.block, a.off + k, none⟩ = some u := by
        intro k hk
        have hk' : k / c < len := Nat.div_lt_of_lt_mul (by rw [Nat.mul_comm]; exact hk)
        obtain ⟨l, hl, hc, _⟩ := key (k / c) hk'
        have := hc (k % c) (Nat.mod_lt _ hs)
        rw [Nat.mul_comm, Nat.div_add_mod, List.getElem?_eq_getElem (by rw [hl]; exact Nat.mod_lt _ hs)] at this
        exact ⟨_, this⟩
      refine ⟨len, (List.range (len * c)).map fun k => (w.cell? ⟨a.block, a.off + k, none⟩).getD undef, ⟨by simp, .inr ⟨a, cap, rfl, h1, h2, fun _ => ⟨hspot.1, hspot.2, fun k hk => ?_⟩⟩⟩, fun i hi => ?_⟩
      · obtain ⟨u, hu⟩ := get k hk
        rw [List.getElem?_map, List.getElem?_range hk, hu]
        simp [hu]
      · obtain ⟨l, hl, hc, m, ho⟩ := key i hi
        refine ⟨m, ?_⟩
        have e : (((List.range (len * c)).map fun k => (w.cell? ⟨a.block, a.off + k, none⟩).getD undef).drop (i * c)).take c = l := by
          apply List.ext_getElem?
          intro j
          by_cases hj : j < c
          · have hik : i * c + j < len * c := by
              have : (i + 1) * c ≤ len * c := Nat.mul_le_mul_right c hi
              rw [Nat.add_mul] at this
              omega
            rw [List.getElem?_take_of_lt hj, List.getElem?_drop, List.getElem?_map, List.getElem?_range hik, ← hc j hj]
            obtain ⟨u, hu⟩ := get (i * c + j) hik
            simp [hu]
          · rw [List.getElem?_eq_none (by simp; omega), List.getElem?_eq_none (by omega)]
        rw [e]
        exact ho
end

/-! ### Slices of integers -/

/-- A slice of integers of a kind: it reads as the numbers zs, each of which fits. -/
structure SI (w : World) (k : IntKind) (v : Value) (zs : List Int) : Prop where
  sr : SR w v zs.length 1 (zs.map (Value.int k))
  wf : ∀ z ∈ zs, (Lit.int k z).wf = true

section
variable {w w' : World} {v : Value} {k : IntKind} {zs : List Int}
theorem SI.keep (h : SI w k v zs) (hb : Below w.heap.size w w') : SI w' k v zs := ⟨h.sr.keep hb, h.wf⟩
theorem SI.nil (w : World) (k : IntKind) : SI w k (.slice none 0 0) [] := ⟨SR.nil w 1, fun z hz => by cases hz⟩

theorem SI.cases (h : SI w k v zs) : (zs = [] ∧ (v = .slice none 0 0 ∨ ∃ a cap, v = .slice (some a) 0 cap ∧ cap ≤ maxLen)) ∨
    (0 < zs.length ∧ ∃ g off cap, v = .slice (some ⟨g, off, none⟩) zs.length cap ∧ zs.length ≤ cap ∧ cap ≤ maxLen ∧ g < w.heap.size ∧ ∀ i, i < zs.length → w.cell? ⟨g, off + i, none⟩ = some (.int k (zs.getD i 0))) := by
  rcases h.sr.cases with ⟨h1, h2, h3⟩ | ⟨hn, g, off, cap, h1, h2, h3, h4, h5⟩
  · exact .inl ⟨List.eq_nil_of_length_eq_zero h1, h3⟩
  · refine .inr ⟨hn, g, off, cap, h1, h2, h3, h4, fun i hi => ?_⟩
    rw [h5 i (by omega), List.getElem?_map, List.getElem?_eq_getElem hi]
    simp [List.getD_eq_getElem?_getD, List.getElem?_eq_getElem hi]

theorem SI.of_arg {P : Program} {t e : TypeId} (hu : P.underlying t = some (.slice e)) (he : P.underlying e = some (.int k)) (hs : P.cellsOf e = 1) (h : Arg P w t v) : ∃ zs, SI w k v zs := by
  obtain ⟨n, xs, hr, ho⟩ := SR.of_arg hu (by omega) h
  rw [hs] at hr ho
  have hl : xs.length = n := by simpa using hr.1
  have each : ∀ (xs : List Value), (∀ i, i < xs.length → ∃ m, Okay P w m e ((xs.drop i).take 1)) → ∃ zs : List Int, xs = zs.map (.int k) ∧ ∀ z ∈ zs, (Lit.int k z).wf = true := by
    intro xs
    induction xs with
    | nil => intro _; exact ⟨[], rfl, fun z hz => by cases hz⟩
    | cons x xs ih =>
      intro ho
      obtain ⟨m, h0⟩ := ho 0 (by simp)
      obtain ⟨z, hz, wz⟩ := Okay.int he h0
      simp at hz
      obtain ⟨zs, e1, e2⟩ := ih (fun i hi => by simpa using ho (i + 1) (by simpa using hi))
      refine ⟨z :: zs, by simp [hz, e1], fun y hy => ?_⟩
      rcases List.mem_cons.1 hy with rfl | hy
      · exact wz
      · exact e2 y hy
  obtain ⟨zs, rfl, hw⟩ := each xs (fun i hi => by simpa using ho i (by omega))
  refine ⟨zs, ?_, hw⟩
  have : zs.length = n := by simpa using hl
  rw [this]
  exact hr

/-- The bytes of a slice as a string. -/
theorem SI.toString {P : Program} (h : SI w .u8 v zs) {src e dst : TypeId} (hs : P.underlying src = some (.slice e)) (he : P.underlying e = some (.int .u8)) (hd : P.underlying dst = some .string) :
    (convert src dst v).run P w = .ok (.string (strOfNums zs)) w := by
  rcases h.cases with ⟨rfl, rfl | ⟨a, cap, rfl, _⟩⟩ | ⟨hn, g, off, cap, rfl, h2, h3, h4, h5⟩
  · exact run_convert_bytes_nil w src e hs he 0 0 dst hd
  · rw [run_convert_bytes_string w src dst e _ 0 cap hs he hd, run_bytesToString w _ 0 cap [] (by simp [loadCells, loadCellsFrom])]
    rfl
  · exact run_convert_bytes_arg w src e hs he g off zs.length cap zs rfl h5 dst hd
end

theorem strOfNums_append (xs ys : List Int) : (strOfNums xs).data.toList ++ (strOfNums ys).data.toList = (strOfNums (xs ++ ys)).data.toList := by simp [strOfNums_data]

/-- append of whatever slice onto a row of the call's own: its run. -/
theorem run_append_sr {P : Program} {w : World} (ty : TypeId) (t : TypeId)
    (base : Nat) (e : TypeId) (z : Value) (size bytes : Nat) (ht : P.underlying t = some (.slice e)) (hinfo : (P.info? e).map (fun i => (i.zero, i.size, i.bytes)) = some (some z, size, bytes)) (hzs : z.cells.size = size) (hsz : 0 < size)
    (v u : Value) (n m : Nat) (xs news : List Value) (hown : w.ownsRow base e size v n xs) (hr : SR w u m size news) (h1 : ∀ u ∈ news, u.oneCell' = true)
    (h63 : n + m ≤ maxLen) (hbytes : (n + m) * bytes ≤ 140737488355328) (hbase : base ≤ w.heap.size) :
    ∃ v' w', (Builtin.append_ #[t, t] ty #[v, u]).run P w = .ok v' w' ∧ w'.ownsRow base e size v' (n + m) (xs ++ news) ∧ w.grownBy w' v.ownBlock ∧ (v'.ownBlock = v.ownBlock ∨ v'.ownBlock = some w.heap.size) := by
  obtain ⟨i, hi, hz, hz1, hz2⟩ := info_parts hinfo
  obtain ⟨hl, hc⟩ := hr
  rcases hc with ⟨rfl, rfl⟩ | ⟨ad, cap, rfl, _, _, hc⟩
  · have hn : news = [] := List.eq_nil_of_length_eq_zero (by simpa using hl)
    subst hn
    refine ⟨v, w, ?_, by simpa using hown, World.grownBy.refl w _, .inl rfl⟩
    rcases hown.2 with ⟨rfl, rfl⟩ | ⟨g, cap, cur, rfl, _, _, hnc, _⟩
    · simp [Builtin.append_, run_underlying ht, sizeOf, typeInfo, hi, Builtin.lenOf, Builtin.firstCells]
    · simp [Builtin.append_, run_underlying ht, sizeOf, typeInfo, hi, Builtin.lenOf, Builtin.firstCells, hnc, storeCells]
  · have hcells : ∀ j u, news[j]? = some u → w.cell? (ad.add j) = some u := by
      intro j u hu
      rcases Nat.eq_zero_or_pos m with h0 | h0
      · subst h0
        have hn : news = [] := List.eq_nil_of_length_eq_zero (by simpa using hl)
        subst hn
        simp at hu
      · obtain ⟨e1, e2, e3⟩ := hc h0
        have hj : j < news.length := by
          rcases Nat.lt_or_ge j news.length with h | h
          · exact h
          · rw [List.getElem?_eq_none h] at hu; cases hu
        have e4 : ad.add j = ⟨ad.block, ad.off + j, none⟩ := by
          obtain ⟨b, off, sp⟩ := ad
          simp only at e1
          subst e1
          unfold Addr.add; split <;> simp_all
        rw [e4, e3 j (by omega), hu]
    obtain ⟨v', w', hrun, h2, h3, _, h5⟩ := run_append_own_at (P := P) w base t ty e i z size bytes ht hi hz hz1 hz2 hzs hsz v n xs hown ad m cap news hl hcells h1 h63 hbytes hbase
    exact ⟨v', w', hrun, h2, h3, h5⟩

/-- append of whatever slice onto a row of the call's own. -/
theorem wpList_append_sr {P : Program} {w : World} {ops : Array Oper} {rest : List Oper} {o : Oper} {a : Act} {Q : Exit → Act → World → Prop} (hgd : o.guard = none) (s x : Operand) (t : TypeId)
    (ho : o.op = .call { callee := .builtin .append, args := #[s, x], argTypes := #[t, t] }) (d : Option Tmp) (hd : o.dst = d)
    (base : Nat) (e : TypeId) (z : Value) (size bytes : Nat) (ht : P.underlying t = some (.slice e)) (hinfo : (P.info? e).map (fun i => (i.zero, i.size, i.bytes)) = some (some z, size, bytes)) (hzs : z.cells.size = size) (hsz : 0 < size)
    (v u : Value) (n m : Nat) (xs news : List Value) (hs : a.eval s = v) (hown : w.ownsRow base e size v n xs) (hx : a.eval x = u) (hr : SR w u m size news) (h1 : ∀ u ∈ news, u.oneCell' = true)
    (h63 : n + m ≤ maxLen) (hbytes : (n + m) * bytes ≤ 140737488355328) (hbase : base ≤ w.heap.size)
    (h : ∀ v' w', w'.ownsRow base e size v' (n + m) (xs ++ news) → w.grownBy w' v.ownBlock → (v'.ownBlock = v.ownBlock ∨ v'.ownBlock = some w.heap.size) → wpList P ops Q rest (a.put d v') w') : wpList P ops Q (o :: rest) a w := by
  subst hd
  obtain ⟨v', w', hrun, h2, h3, h4⟩ := run_append_sr (P := P) o.type t base e z size bytes ht hinfo hzs hsz v u n m xs news hown hr h1 h63 hbytes hbase
  refine wpList_plain hgd fun K hK => ?_
  unfold Oper.wp execOp
  simp only [ho, resolve, invoke, builtin, Sem.run_bind, Sem.run_pure, Result.andThen_ok, List.map_toArray, List.map_cons, List.map_nil, hs, hx, hrun]
  exact hK _ _ (h v' w' h2 h3 h4)

/-- The same, as a step of a region that draws its order. -/
theorem step_append_sr {P : Program} {w : World} {ops : Array Oper} {o : Oper} {a : Act} {K : Act → World → Prop} {Q : Exit → Act → World → Prop} {E : Prop} (hgd : o.guard = none) (s x : Operand) (t : TypeId)
    (ho : o.op = .call { callee := .builtin .append, args := #[s, x], argTypes := #[t, t] })
    (base : Nat) (e : TypeId) (z : Value) (size bytes : Nat) (ht : P.underlying t = some (.slice e)) (hinfo : (P.info? e).map (fun i => (i.zero, i.size, i.bytes)) = some (some z, size, bytes)) (hzs : z.cells.size = size) (hsz : 0 < size)
    (v u : Value) (n m : Nat) (xs news : List Value) (hs : a.eval s = v) (hown : w.ownsRow base e size v n xs) (hx : a.eval x = u) (hr : SR w u m size news) (h1 : ∀ u ∈ news, u.oneCell' = true)
    (h63 : n + m ≤ maxLen) (hbytes : (n + m) * bytes ≤ 140737488355328) (hbase : base ≤ w.heap.size)
    (h : ∀ v' w', w'.ownsRow base e size v' (n + m) (xs ++ news) → w.grownBy w' v.ownBlock → (v'.ownBlock = v.ownBlock ∨ v'.ownBlock = some w.heap.size) → K (a.put o.dst v') w') :
    if Region.wanted o (yielded ops a.tmps) = true then Oper.wp P o a w K Q else E := by
  have hw : Region.wanted o (yielded ops a.tmps) = true := by simp [Region.wanted, hgd]
  rw [if_pos hw]
  obtain ⟨v', w', hrun, h2, h3, h4⟩ := run_append_sr (P := P) o.type t base e z size bytes ht hinfo hzs hsz v u n m xs news hown hr h1 h63 hbytes hbase
  unfold Oper.wp execOp
  simp only [ho, resolve, invoke, builtin, Sem.run_bind, Sem.run_pure, Result.andThen_ok, List.map_toArray, List.map_cons, List.map_nil, hs, hx, hrun]
  exact h v' w' h2 h3 h4

theorem ints_one (k : IntKind) (zs : List Int) : ∀ u ∈ zs.map (Value.int k), u.oneCell' = true := by
  intro u hu
  obtain ⟨z, _, rfl⟩ := List.mem_map.1 hu
  rfl

end Go.Proofs.Ytapcbfeifeobhaa
