/- Nodes: the law NodeTables. -/
import Derived.Test.YtonfnlohbgbffaaNodS
import Derived.Test.YtonfnlohbgbffaaCal
set_option linter.unusedVariables false
set_option linter.unusedSimpArgs false
namespace Go.Proofs.Ytonfnlohbgbffaa
open Go.RowKit
open Go.Maps (Keyed)

/-! ### Groups of small configurations -/
def regOk (r : RegL) : Prop := 8 ≤ r.bl ∧ r.bl ≤ 67 ∧ 8 ≤ r.no ∧ r.no ≤ 30
def geoGood (t : Nat) (g : GeoL) : Prop := 32 ≤ g.base ∧ g.data ≤ t ∧ g.base + g.bitmap + (g.nodes + 1) / 2 ≤ g.data ∧ g.nodes ≤ 30 ∧ 1 ≤ g.nodes
theorem geos_fold : ∀ (rs : List RegL) (s : List GeoL × Nat), (∀ r ∈ rs, regOk r) → 32 ≤ s.2 → (∀ g ∈ s.1, geoGood s.2 g) →
    32 ≤ (rs.foldl geoStep s).2 ∧ (rs.foldl geoStep s).2 ≤ s.2 + 100 * rs.length ∧ (∀ g ∈ (rs.foldl geoStep s).1, geoGood (rs.foldl geoStep s).2 g) ∧ (rs.foldl geoStep s).1.length = s.1.length + rs.length
  | [], s, _, h1, h2 => ⟨h1, by simp, h2, by simp⟩
  | r :: rs, s, hr, h1, h2 => by
    obtain ⟨b1, b2, n1, n2⟩ := hr r (by simp)
    have hstep : 32 ≤ (geoStep s r).2 ∧ s.2 ≤ (geoStep s r).2 ∧ (geoStep s r).2 ≤ s.2 + 100 := by
      unfold geoStep geoOf
      simp only
      omega
    have ih := geos_fold rs (geoStep s r) (fun q hq => hr q (by simp [hq])) hstep.1 (fun g hg => by
      unfold geoStep at hg
      simp only [List.mem_append, List.mem_singleton] at hg
      rcases hg with hg | rfl
      · obtain ⟨g1, g2, g3, g4, g5⟩ := h2 g hg
        exact ⟨g1, by have := hstep.2.1; omega, g3, g4, g5⟩
      · unfold geoGood geoStep geoOf
        simp only
        omega)
    obtain ⟨i1, i2, i3, i4⟩ := ih
    refine ⟨i1, ?_, i3, ?_⟩
    · show (rs.foldl geoStep (geoStep s r)).2 ≤ _
      simp only [List.length_cons]
      omega
    · show (rs.foldl geoStep (geoStep s r)).1.length = _
      rw [i4]
      unfold geoStep
      simp
      omega
theorem size_regOk (s : SizeL) : ∀ r ∈ sizeRegs s, regOk r := fun r hr => by
  obtain ⟨i, hi, rfl⟩ := List.getElem_of_mem hr
  rw [sizeRegs_get s i hi]
  unfold sizeReg sizeReg0 regOk
  simp only
  omega
theorem size_geos (s : SizeL) : 32 ≤ (geosOf (sizeRegs s)).2 ∧ (geosOf (sizeRegs s)).2 ≤ 532 ∧ (∀ g ∈ (geosOf (sizeRegs s)).1, geoGood (geosOf (sizeRegs s)).2 g) ∧ (geosOf (sizeRegs s)).1.length = (sizeRegs s).length := by
  have h := geos_fold (sizeRegs s) ([], 32) (size_regOk s) (by simp) (fun g hg => by cases hg)
  have hl := sizeRegs_length s
  have hm := manyOf_le s
  refine ⟨h.1, ?_, h.2.2.1, ?_⟩
  · have := h.2.1
    show ((sizeRegs s).foldl geoStep ([], 32)).2 ≤ _
    simp only at this
    omega
  · have := h.2.2.2
    show ((sizeRegs s).foldl geoStep ([], 32)).1.length = _
    simp only [List.length_nil, Nat.zero_add] at this
    exact this

section
variable {P : Program} {ops : Array Oper} {Q : Exit → Act → World → Prop} {md : Region.Mode} {oi : Oper} {fuel : Nat} {listed : Array Bool} {a : Act} {w : World} {S : World → Prop}
theorem storeRowX (i : Nat) (hi : ops[i]? = some oi) (hw : Region.wanted oi (yielded ops a.tmps) = true) (hr : Region.ready md ops listed = [i]) (hd : oi.dst = none) (T : TypeId) (x y : Operand) (ho : oi.op = .store T x y)
    (G n : Nat) (C D : Nat → Value) (hx : a.eval x = .pointer (some ⟨G, 0, none⟩)) (hy : a.eval y = .agg (rowArr n D)) (hrow : w.rowIs G T n C) (h1 : ∀ i, i < n → (D i).oneCell' = true) (hz : (P.info? T).map (·.size) = some n)
    (hk : ∀ w', w'.rowIs G T n D → One w w' (some G) → S w' ∧ wpAnyH P md ops Q S fuel (listed.setIfInBounds i true) a w') : wpAnyH P md ops Q S (fuel + 1) listed a w :=
  storeWholeH i hi hw hr hd T x y ho (rowArr n D) (rowArr n C) T hx hy (by rw [rowArr_size]; exact hz) (rowIs_arr hrow) (by rw [rowArr_size, rowArr_size])
    (fun v hv => by
      obtain ⟨i, hi⟩ := List.mem_iff_getElem?.1 hv
      obtain ⟨h2, rfl⟩ := rowArr_get _ _ _ _ hi
      exact h1 i h2) (fun w' hb o => hk w' (rowIs_of_arr hb) o)
end
/-! ### What is written -/
theorem eqNode_same (m : NodL) (h : m.ok) (w : World) : (Op.equalIn 10000 27 (.agg (nodA m)) (.agg (nodA m))).run Try.prog w = .ok true w := (eqNode m m h h w).trans (by rw [decide_eq_true rfl])
def nodV (m : NodL) : Value := .agg (nodA m)
theorem nodV_z : (Try.prog.info? 27).bind (·.zero) = some (nodV zeroN) := node_zero
def nOf (M : Int → Option NodL) (k : Nat) : NodL := (M k).getD zeroN
theorem nOf_put (M : Int → Option NodL) (num : Nat) (m : NodL) : nOf (putF M (num : Int) m) = setNod (nOf M) num m := by
  funext k
  unfold nOf putF setNod
  by_cases h : k = num
  · subst h; rw [if_pos rfl, if_pos rfl]; rfl
  · rw [if_neg (by omega), if_neg h]
theorem lk_nod (M : Int → Option NodL) (k : Nat) : lkV nodV (nodV zeroN) false (M (k : Int)) = .agg (nodA (nOf M k)) := by
  unfold nOf
  cases M (k : Int) <;> rfl
theorem zeroN_fine : zeroN.ok ∧ zeroN.right = true ∧ ∀ j, j < 32 → encN zeroN j = 0 := by
  refine ⟨by constructor <;> simp [zeroN], by decide, fun j hj => ?_⟩
  have key : ∀ j : Fin 32, encN zeroN j.val = 0 := by decide
  exact key ⟨j, hj⟩
theorem run_min_int3' {P : Program} {w : World} (ts : Array TypeId) (t : TypeId) (k k' k'' : IntKind) (x y z : Int) :
    (Builtin.min_ ts t #[.int k x, .int k' y, .int k'' z]).run P w = .ok (.int k (if z < (if y < x then y else x) then z else (if y < x then y else x))) w := by
  simp [Builtin.min_, Builtin.min2]
/-- A transaction on a table of nodes, and what was written. -/
structure LT (W w : World) (gd gb gl gt gm n q R : Nat) (g : GeoL) (M : Int → Option NodL) : Prop where
  ex : ∃ F D, TX w gd gb gl gt gm n 1 F 0 D (-1) false ∧ TabN F D g (nOf M) ∧ ∀ k, F k ≠ none → ((g.base + g.bitmap : Nat) : Int) ≤ k ∧ k < ((g.base + g.bitmap + 16 : Nat) : Int)
  mp : MB w Try.prog 3 q kvI nodV M
  ok : ∀ k m, M k = some m → m.ok ∧ m.right = true
  bl : Below W.heap.size W w
  lo : W.heap.size ≤ gd ∧ W.heap.size ≤ gb ∧ W.heap.size ≤ gm ∧ W.heap.size ≤ q
  ne : q ≠ gm
  geo : w.rowIs R 84 6 (geoF g)
section
variable {W w w' : World} {gd gb gl gt gm n q R : Nat} {g : GeoL} {M : Int → Option NodL}
theorem LT.fresh (h : LT W w gd gb gl gt gm n q R g M) {N : Nat} (hN : w.heap.size ≤ N) : ¬ (dset gd gb N ∨ N = gm) := by
  obtain ⟨F, D, h1, h2, h3⟩ := h.ex
  have hl := h1.lt
  intro e
  rcases e with (e | e) | e <;> omega
theorem nOf_fine (h : ∀ k m, M k = some m → m.ok ∧ m.right = true) (k : Nat) : (nOf M k).ok ∧ (nOf M k).right = true := by
  unfold nOf
  cases hm : M (k : Int) with
  | none => exact ⟨zeroN_fine.1, zeroN_fine.2.1⟩
  | some m => exact h _ m hm
theorem LT.keep (h : LT W w gd gb gl gt gm n q R g M) (hb : Below w.heap.size w w') : LT W w' gd gb gl gt gm n q R g M := by
  obtain ⟨F, D, h1, h2, h3⟩ := h.ex
  exact ⟨⟨F, D, h1.keep hb, h2, h3⟩, h.mp.keep hb, h.ok, h.bl.trans (hb.mono h.bl.size), h.lo, h.ne, rowIs_below h.geo hb⟩
theorem LT.newOne {w0 : World} {N : Nat} (h : LT W w gd gb gl gt gm n q R g M) (o : One w w' (some N)) (h0 : LT W w0 gd gb gl gt gm n q R g M) (hN : w0.heap.size ≤ N) : LT W w' gd gb gl gt gm n q R g M := by
  obtain ⟨F, D, h1, h2, h3⟩ := h.ex
  obtain ⟨F0, D0, h4, _, _⟩ := h0.ex
  have e1 := h0.mp.mp.lt
  have e2 := h0.geo.lt
  refine ⟨⟨F, D, h1.newOne o hN h4.lt, h2, h3⟩, h.mp.keepAt (o.block q h.mp.mp.lt (fun e => by injection e with e; omega)), h.ok, bone h.bl o (Nat.le_trans h0.bl.size hN) h.bl.size, h.lo, h.ne, rowIs_one h.geo o (fun e => by omega)⟩
theorem LT.apart (h : LT W w gd gb gl gt gm n q R g M) : (q ≠ gd ∧ q ≠ gb ∧ q ≠ gl ∧ q ≠ gt ∧ q ≠ gm ∧ q ≠ R) ∧ (R ≠ gd ∧ R ≠ gb ∧ R ≠ gm) := by
  obtain ⟨F, D, h1, h2, h3⟩ := h.ex
  obtain ⟨f, hf⟩ := h1.lx.dx.blk
  obtain ⟨f', hf'⟩ := h1.lx.dx.obj
  have e := h1.lx.dx.ne h.geo (by decide) (by decide)
  exact ⟨⟨(h.mp.notCells hf').symm, (h.mp.notCells hf).symm, (h.mp.notCells h1.lx.lg).symm, (h.mp.notCells h1.tx).symm, h.ne, (h.mp.notCells h.geo).symm⟩, e.1, e.2, h1.mp.notCells h.geo⟩
theorem LT.chg (h : LT W w gd gb gl gt gm n q R g M) {F : Int → Option (Nat → Nat)} {D : Nat → Nat → Nat} (ht : TX w' gd gb gl gt gm n 1 F 0 D (-1) false) (hT : TabN F D g (nOf M)) (hk : ∀ k, F k ≠ none → ((g.base + g.bitmap : Nat) : Int) ≤ k ∧ k < ((g.base + g.bitmap + 16 : Nat) : Int))
    (c : Chg (fun k => dset gd gb k ∨ k = gm) w w') : LT W w' gd gb gl gt gm n q R g M := by
  have ha := h.apart
  exact ⟨⟨F, D, ht, hT, hk⟩, h.mp.keepAt (c.block q h.mp.mp.lt (fun e => by rcases e with (e | e) | e; exact ha.1.1 e; exact ha.1.2.1 e; exact ha.1.2.2.2.2.1 e)), h.ok,
    Chg.go h.bl c (fun k hk => by rcases hk with (rfl | rfl) | rfl; exact h.lo.1; exact h.lo.2.1; exact h.lo.2.2.1) h.bl.size, h.lo, h.ne, c.row h.geo (fun e => by rcases e with (e | e) | e; exact ha.2.1 e; exact ha.2.2.1 e; exact ha.2.2.2 e)⟩
/-- A node is written, and then noted. -/
structure LT2 (W w : World) (gd gb gl gt gm n q R : Nat) (g : GeoL) (M : Int → Option NodL) (num : Nat) (m : NodL) : Prop where
  ex : ∃ F D, TX w gd gb gl gt gm n 1 F 0 D (-1) false ∧ TabN F D g (setNod (nOf M) num m) ∧ ∀ k, F k ≠ none → ((g.base + g.bitmap : Nat) : Int) ≤ k ∧ k < ((g.base + g.bitmap + 16 : Nat) : Int)
  mp : MB w Try.prog 3 q kvI nodV M
  ok : ∀ k m, M k = some m → m.ok ∧ m.right = true
  bl : Below W.heap.size W w
  lo : W.heap.size ≤ gd ∧ W.heap.size ≤ gb ∧ W.heap.size ≤ gm ∧ W.heap.size ≤ q
  ap : (q ≠ gd ∧ q ≠ gb ∧ q ≠ gl ∧ q ≠ gt ∧ q ≠ gm ∧ q ≠ R)
  geo : w.rowIs R 84 6 (geoF g)
  m1 : m.ok
  m2 : m.right = true
theorem LT2.keep {num : Nat} {m : NodL} (h : LT2 W w gd gb gl gt gm n q R g M num m) (hb : Below w.heap.size w w') : LT2 W w' gd gb gl gt gm n q R g M num m := by
  obtain ⟨F, D, h1, h2, h3⟩ := h.ex
  exact ⟨⟨F, D, h1.keep hb, h2, h3⟩, h.mp.keep hb, h.ok, h.bl.trans (hb.mono h.bl.size), h.lo, h.ap, rowIs_below h.geo hb, h.m1, h.m2⟩
theorem LT2.note {num : Nat} {m : NodL} (h : LT2 W w gd gb gl gt gm n q R g M num m) (o : One w w' (some q)) (hm : MB w' Try.prog 3 q kvI nodV (putF M (num : Int) m)) : LT W w' gd gb gl gt gm n q R g (putF M (num : Int) m) := by
  obtain ⟨F, D, h1, h2, h3⟩ := h.ex
  have ha := h.ap
  refine ⟨⟨F, D, h1.one o ⟨ha.1, ha.2.1, ha.2.2.1, ha.2.2.2.1, ha.2.2.2.2.1⟩, by rw [nOf_put]; exact h2, h3⟩, hm, fun k x hx => ?_, bone h.bl o h.lo.2.2.2 h.bl.size, h.lo, ha.2.2.2.2.1, rowIs_one h.geo o ha.2.2.2.2.2.symm⟩
  unfold putF at hx
  split at hx
  · cases hx; exact ⟨h.m1, h.m2⟩
  · exact h.ok k x hx
theorem ltKeys {F : Int → Option (Nat → Nat)} {P : Program} {t : TypeId} {kv : Int → Value} {vv : (Nat → Nat) → Value} {a : Nat} (h : MK w P t gm kv vv F) (hk : ∀ k, F k ≠ none → (a : Int) ≤ k ∧ k < ((a + 16 : Nat) : Int)) : mapN w gm ≠ 30 := by
  have := h.len_le ((List.range 16).map fun (j : Nat) => ((a + j : Nat) : Int)) (fun x hx => by
    have := hk x hx
    exact List.mem_map.2 ⟨(x - a).toNat, List.mem_range.2 (by omega), by omega⟩)
  simp at this
  omega
theorem ltWrite_ok (h : LT W w gd gb gl gt gm n q R g M) (hg : GeoOk g n) (num : Nat) (h1 : 1 ≤ num) (h2 : num ≤ g.nodes) (m : NodL) (hok : m.ok) (hr : m.right = true) :
    Calls Try.prog 39 #[.pointer (some ⟨gt, 0, none⟩), .agg (rowArr 6 (geoF g)), .int .i64 num, .agg (rowArr 12 (nodF m))] w fun e w' => e = .returned (.int .i64 0) ∧ LT2 W w' gd gb gl gt gm n q R g M num m ∧ Chg (fun k => dset gd gb k ∨ k = gm) w w' := by
  obtain ⟨F, D, e1, e2, e3⟩ := h.ex
  refine (nodeWrite_ok e1 rfl hg num h1 h2 m hok hr (ltKeys e1.mp.mp e3)).mono ?_
  rintro e w' ⟨rfl, ht, hc⟩
  have ha := h.apart
  have hno := hg.no
  refine ⟨rfl, ⟨⟨_, D, ht, e2.put num h1 m, fun k hk => ?_⟩, h.mp.keepAt (hc.block q h.mp.mp.lt (fun e => by rcases e with (e | e) | e; exact ha.1.1 e; exact ha.1.2.1 e; exact ha.1.2.2.2.2.1 e)), h.ok,
    Chg.go h.bl hc (fun k hk => by rcases hk with (rfl | rfl) | rfl; exact h.lo.1; exact h.lo.2.1; exact h.lo.2.2.1) h.bl.size, h.lo, ha.1, hc.row h.geo (fun e => by rcases e with (e | e) | e; exact ha.2.1 e; exact ha.2.2.1 e; exact ha.2.2.2 e), hok, hr⟩, hc⟩
  unfold putNode putF at hk
  split at hk
  · rename_i e
    rw [e]
    unfold atB
    omega
  · exact e3 k hk
theorem ltWrite_range (h : LT W w gd gb gl gt gm n q R g M) (num : Int) (hr : num < 1 ∨ (g.nodes : Int) < num) (m : NodL) :
    Calls Try.prog 39 #[.pointer (some ⟨gt, 0, none⟩), .agg (rowArr 6 (geoF g)), .int .i64 num, .agg (rowArr 12 (nodF m))] w fun e w' => e = .returned (.int .i64 27) ∧ Below w.heap.size w w' := by
  obtain ⟨F, D, e1, e2, e3⟩ := h.ex
  exact nodeWrite_range e1 num hr m
theorem ltRead (h : LT W w gd gb gl gt gm n q R g M) (hg : GeoOk g n) (num : Nat) (h1 : 1 ≤ num) (h2 : num ≤ g.nodes) :
    Calls Try.prog 41 #[.pointer (some ⟨gt, 0, none⟩), .agg (rowArr 6 (geoF g)), .int .i64 num] w fun e w' => e = .returned (.tuple #[.agg (rowArr 12 (nodF (nOf M num))), .int .i64 0]) ∧ LT W w' gd gb gl gt gm n q R g M ∧ w.heap.size ≤ w'.heap.size := by
  obtain ⟨F, D, e1, e2, e3⟩ := h.ex
  have hf := nOf_fine h.ok num
  refine (nodeRead_in e1 hg e2 num h1 h2 hf.1 hf.2).mono ?_
  rintro e w' ⟨rfl, ht, hc⟩
  exact ⟨rfl, h.chg ht e2 e3 (hc.mono (fun _ _ h => .inl h)), hc.size⟩
end
theorem tabN_first {g : GeoL} {n : Nat} (hg : GeoOk g n) (M : Int → Option NodL) (hM : ∀ k, M k = none) : TabN (fun _ => none) (setBlk (fun _ _ => 0) 1 (logB [])) g (nOf M) := by
  intro num h1 h2 j hj
  have h := hg.atB h1 h2
  have e : nOf M num = zeroN := by unfold nOf; rw [hM]; rfl
  rw [e, zeroN_fine.2.2 j hj]
  unfold viewB setBlk
  simp only [Option.getD_none]
  rw [if_neg (by omega)]
theorem lt_first {W w : World} {gd gb gl gt gm n R : Nat} {g : GeoL} (hg : GeoOk g n) (ht : TX w gd gb gl gt gm n 1 (fun _ => none) 0 (setBlk (fun _ _ => 0) 1 (logB [])) (-1) false) (hb : Below W.heap.size W w) (hlo : W.heap.size ≤ gd ∧ W.heap.size ≤ gb ∧ W.heap.size ≤ gm) (hr : w.rowIs R 84 6 (geoF g)) :
    LT W (w.alloc (.map #[] 0)) gd gb gl gt gm n w.heap.size R g (fun _ => none) :=
  ⟨⟨fun _ => none, _, ht.keep (bnew _ _), tabN_first hg _ (fun _ => rfl), fun k hk => absurd rfl hk⟩, ⟨MK.made w, BN.made w⟩, fun k m h => (by cases h), bnewAfter hb _, ⟨hlo.1, hlo.2.1, hlo.2.2, hb.size⟩, (Nat.ne_of_lt ht.lt.2.2.2.2).symm, rowIs_below hr (bnew _ _)⟩
theorem min_three (a b : Nat) : ∃ L : Nat, L ≤ a ∧ L ≤ b ∧ L ≤ 20 ∧ (if (20 : Int) < (if (b : Int) < a then (b : Int) else a) then (20 : Int) else (if (b : Int) < a then (b : Int) else a)) = (L : Int) := by
  refine ⟨min (min a b) 20, by omega, by omega, by omega, ?_⟩
  split <;> split <;> omega
def BgPost (w : World) (n : Nat) (e : Ending) (w' : World) : Prop := ∃ gd gb gl gt gm, e = .returned (.tuple #[.pointer (some ⟨gd, 0, none⟩), .pointer (some ⟨gl, 0, none⟩), .pointer (some ⟨gt, 0, none⟩)]) ∧
  TX w' gd gb gl gt gm n 1 (fun _ => none) 0 (setBlk (fun _ _ => 0) 1 (logB [])) (-1) false ∧ Below w.heap.size w w' ∧ w.heap.size ≤ gd ∧ w.heap.size ≤ gb ∧ w.heap.size ≤ gm
set_option maxRecDepth 10000 in
set_option maxHeartbeats 1000000 in
theorem begun6_in {w : World} {cg gT gN gL : Nat} {v m u : Value} {rs : List RegL} {ms : List (Nat × Nat)} (h : CF w cg gT gN gL v m u rs ms) (h1 : 32 ≤ (geosOf rs).2) (h2 : (geosOf rs).2 ≤ 65536) :
    Calls Try.prog 36 #[.pointer (some ⟨cg, 0, none⟩)] w (BgPost w (geosOf rs).2) := by
  have H := Lib.hid h
  obtain ⟨n, hn⟩ : ∃ n, n = (geosOf rs).2 := ⟨_, rfl⟩
  have HTO := Lib.hid (confTotal_in h)
  rw [← hn] at h1 h2 HTO ⊢
  clear h hn
  go_enter Try.func36, Try.ntmps36
  go_wp2_with (first | (go_at_call 76; refine HTO.out.mono ?_; rintro e w0 ⟨rfl, rfl⟩))
  refine (dxNew n h2 _).mono ?_
  rintro e w1 ⟨gd, gb, rfl, hd1, hl1, hl2, hb1⟩
  go_wp2_with fail
  refine (walOpen_ok hd1 1 (by omega)).mono ?_
  rintro e w2 ⟨gl, rfl, hx2, hl3, hb2⟩
  go_wp2_with fail
  refine (walFormat_ok hx2 rfl (by omega)).mono ?_
  rintro e w3 ⟨rfl, hx3, hc3⟩
  rw [show (if (0 : Int) < -1 then (-1 : Int) - 1 else -1) = -1 by decide] at hx3
  go_wp2_with fail
  refine (walBegin_ok hx3).mono ?_
  rintro e w4 ⟨gt, gm, rfl, ht4, hl4, hl5, hb4⟩
  go_wp2_with fail
  go_ret3
  have e2 := hb1.trans (hb2.mono hb1.size)
  have e3 := Chg.go e2 hc3 (fun k hk => by rcases hk with rfl | rfl <;> assumption) e2.size
  have e4 := e3.trans (hb4.mono e3.size)
  exact ⟨gd, gb, gl, gt, gm, rfl, ht4, e4, hl1, hl2, Nat.le_trans e3.size hl5⟩
set_option maxRecDepth 100000 in
set_option maxHeartbeats 16000000 in
theorem nodeTables_walk (W : World) (v0 v1 v2 v3 : Value) (o0 : Arg Try.prog W 77 v0) (o1 : Arg Try.prog W 5 v1) (o2 : Arg Try.prog W 65 v2) (o3 : Arg Try.prog W 34 v3) :
    Calls Try.prog 9 #[v0, v1, v2, v3] W fun e w' => e = .returned (.bool true) ∧ Below W.heap.size W w' := by
  obtain ⟨s, hsv⟩ := SizeV.of_arg o0
  obtain ⟨lab, rfl, hlab⟩ := Arg.int Try.underlying5 o1
  obtain ⟨zs, hzs⟩ := SI.of_arg Try.underlying65 Try.underlying3 (by kernel_rfl) o2
  obtain ⟨ks, hks⟩ := SI.of_arg Try.underlying34 Try.underlying5 (by kernel_rfl) o3
  obtain ⟨A2, cap2, hform2, hlc2, hcm2⟩ := hzs.sr.form
  obtain ⟨A3, cap3, hform3, hlc3, hcm3⟩ := hks.sr.form
  subst hform2
  subst hform3
  have HZS := Lib.hid hzs
  have HKS := Lib.hid hks
  have hl2 := wf_u8 hlab
  have hcap2 : cap2 ≤ 9223372036854775807 := hcm2
  have hcap3 : cap3 ≤ 9223372036854775807 := hcm3
  have HSV := Lib.hid hsv
  obtain ⟨X, tv, rfl, hX, hrest⟩ := hsv
  have hXr : X = rowArr 27 (fun i => X.getD i undef) := by
    apply Array.ext_getElem?
    intro i
    by_cases hi : i < 27
    · simp [rowArr, hi, hX, Array.getD]
    · rw [Array.getElem?_eq_none (by omega), Array.getElem?_eq_none (by rw [rowArr_size]; omega)]
  obtain ⟨C, hC⟩ : ∃ C, X = rowArr 27 C := ⟨_, hXr⟩
  clear hXr hX hrest
  subst hC
  have hl0 := hl2.1
  have hl1 := hl2.2
  have hsz : (Try.prog.info? 77).map (·.size) = some 27 := by kernel_rfl
  have HSZ := Lib.hid hsz
  clear o0 o1 o2 o3 hzs hks hlab hl2 hcm2 hcm3 hsz
  go_enter Try.func9, Try.ntmps9
  go_wp2_with (first
    | (refine wpList_box_row rfl 77 (.tmp 0) rfl (some 4) rfl 27 C (by go_simp) ?_; intro w1 R4 hg1 hr1 hb1; have HB1 := Lib.hid hb1; have HR4 := Lib.hid hr1; clear hr1 hb1 hg1))
  refine (nodeAwake_any _).mono ?_
  rintro e w2 ⟨rfl, hb2⟩
  have HB2 := Lib.hid (bnext HB1.out hb2)
  have HR42 := Lib.hid (rowIs_below HR4.out hb2)
  clear hb2
  go_wp2_with (first
    | (refine wpList_row_load (by kernel_rfl) 77 (.tmp 4) rfl (some 31) rfl R4 27 C (by go_simp) HR42.out _ Try.underlying77 rfl HSZ.out ?_))
  refine (sizeConf_in _ _ s (HSV.out.keep HB2.out)).mono ?_
  rintro e w3 ⟨hb3, cg, gT, gN, gL, v', m', u', rfl, hcf⟩
  have HCF := Lib.hid hcf
  have HB3 := Lib.hid (bnext HB2.out hb3)
  have hgs := size_geos s
  have HGS := Lib.hid hgs
  have hrl := sizeRegs_length s
  have hmy := manyOf_le s
  clear hcf hb3 hgs
  go_wp2_with fail
  refine (begun6_in HCF.out HGS.out.1 (by have := HGS.out.2.1; omega)).mono ?_
  rintro e w4 ⟨gd, gb, gl, gt, gm, rfl, ht4, hb4, hd1, hd2, hd3⟩
  have HT4 := Lib.hid ht4
  have HB4 := Lib.hid (bnext HB3.out hb4)
  have HCF4 := Lib.hid (HCF.out.keep hb4)
  have HLO := Lib.hid (show W.heap.size ≤ gd ∧ W.heap.size ≤ gb ∧ W.heap.size ≤ gm from ⟨Nat.le_trans HB3.out.size hd1, Nat.le_trans HB3.out.size hd2, Nat.le_trans HB3.out.size hd3⟩)
  clear ht4 hb4 hd1 hd2 hd3
  obtain ⟨n, hn⟩ : ∃ n, n = (geosOf (sizeRegs s)).2 := ⟨_, rfl⟩
  obtain ⟨rn, hrn⟩ : ∃ rn, rn = (sizeRegs s).length := ⟨_, rfl⟩
  obtain ⟨i0, hi0⟩ : ∃ i0 : Nat, (i0 : Int) = lab % (rn : Int) := ⟨(lab % (rn : Int)).toNat, by
    have : 0 ≤ lab % (rn : Int) := Int.emod_nonneg _ (by omega)
    omega⟩
  have hi0l : i0 < rn := by
    have := Int.emod_lt_of_pos lab (show (0 : Int) < rn by omega)
    omega
  obtain ⟨g, hg⟩ : ∃ g, (geosOf (sizeRegs s)).1[i0]? = some g := ⟨(geosOf (sizeRegs s)).1[i0]'(by rw [HGS.out.2.2.2, ← hrn]; exact hi0l), List.getElem?_eq_getElem _⟩
  have hgood := HGS.out.2.2.1 g (List.mem_of_getElem? hg)
  have hgok : GeoOk g n := by
    obtain ⟨g1, g2, g3, g4, g5⟩ := hgood
    exact ⟨g1, by rw [hn]; exact g2, by have := HGS.out.2.1; omega, g3, g4, g5⟩
  have HGK := Lib.hid hgok
  have HGET := Lib.hid (fun w' (hb : Below w4.heap.size w4 w') => confGeo_yes (HCF4.out.keep hb) i0 (by omega) (by omega) g hg)
  have HLEN := Lib.hid (fun w' (hb : Below w4.heap.size w4 w') => confLen_in (HCF4.out.keep hb))
  rw [← hn] at HT4
  rw [← hrn] at HLEN
  have f1 : lab % (rn : Int) = (i0 : Int) := hi0.symm
  have f2 : lab.tmod (rn : Int) = (i0 : Int) := by rw [Int.tmod_eq_emod_of_nonneg (by omega)]; omega
  have hrn0 : (rn : Int) ≠ 0 := by omega
  have hrn1 : (rn : Int) ≤ 5 := by omega
  have hrn2 : (0 : Int) < rn := by omega
  clear hn hrn hi0 hg hgood hgok hrl hmy HCF4 HCF HGS
  go_wp2_with (first
    | (go_at_call 38; refine (HLEN.out _ (Below.refl _ _)).mono ?_; rintro e w5 ⟨rfl, rfl⟩))
  refine (HGET.out _ (Below.refl _ _)).mono ?_
  rintro e w6 ⟨rfl, hb6⟩
  have HT6 := Lib.hid (HT4.out.keep hb6)
  have HB6 := Lib.hid (bnext HB4.out hb6)
  clear hb6
  have hmm := @run_makeMap Try.prog
  obtain ⟨L, hL1, hL2, hL3, hL4⟩ := min_three zs.length ks.length
  have hm3 : ∀ w ts t, (Builtin.min_ ts t #[.int .i64 (zs.length : Nat), .int .i64 (ks.length : Nat), .int .i64 20]).run Try.prog w = .ok (.int .i64 L) w := fun w ts t => (run_min_int3' ts t .i64 .i64 .i64 _ _ _).trans (by rw [hL4])
  clear hL4
  go_wp2_with (first
    | (refine wpList_new_row rfl 84 rfl (some 13) rfl 6 _ geo_zero ?_; intro w7 R hg7 hr7 hb7; have HR7 := Lib.hid hr7; have HT7 := Lib.hid (HT6.out.keep hb7); have HB7 := Lib.hid (bnext HB6.out hb7); have HG7 := Lib.hid hg7; clear hr7 hb7 hg7)
    | (refine wpList_row_store rfl 84 (.tmp 13) (.tmp 47) rfl rfl R 6 _ (geoF g) (by go_simp) (by go_simp) HR7.out (geoF_one g) geo_size ?_; intro w8 hr8 o8; have HR8 := Lib.hid hr8; have HT8 := Lib.hid (HT7.out.newOne o8 HG7.out HT6.out.lt); have HB8 := Lib.hid (bone HB7.out o8 (Nat.le_trans HB6.out.size HG7.out) HB7.out.size); clear hr8 o8))
  have HLT := Lib.hid (lt_first HGK.out HT8.out HB8.out HLO.out HR8.out)
  have hgn1 := HGK.out.n1
  have hgn2 := HGK.out.no
  clear hmm hm3 HR7 HT7 HG7 HT6 HB6 HB7 HT8 HB8 HR8 HT4 HB4 HLEN HGET HLO HB1 HB2 HB3 HSV HR4 HR42 HSZ hrn0 hrn1 hrn2 f1 f2 hi0l hl0 hl1
  generalize w8.heap.size = q at *
  generalize w8.alloc (.map #[] 0) = w9 at *
  go_loopw [55] (fun r wx => ∃ (k : Nat) (M : Int → Option NodL), k ≤ L ∧ r = .int .i64 k ∧ LT W wx gd gb gl gt gm n q R g M) (fun r _ => L - (intOf r).toNat)
  case atStart => exact ⟨0, _, by omega, rfl, HLT.out⟩
  case round =>
    obtain ⟨k, M, hk, rfl, hlt⟩ := hrel
    have HT := Lib.hid hlt
    clear hlt HLT
    by_cases hkl : k < L
    · have g1 : (k : Int) < L := by omega
      obtain ⟨x, hxe⟩ : ∃ x : Int, x = zs.getD k 0 := ⟨_, rfl⟩
      obtain ⟨y', hye⟩ : ∃ y : Int, y = ks.getD k 0 := ⟨_, rfl⟩
      rcases (HZS.out.keep HT.out.bl).cases with ⟨h, _⟩ | ⟨_, gz, off, c1, hs, _, _, hg1, hc1⟩
      · rw [h] at hL1; simp at hL1; omega
      cases hs
      rcases (HKS.out.keep HT.out.bl).cases with ⟨h, _⟩ | ⟨_, gk, off2, c2, hs, _, _, hg2, hc2⟩
      · rw [h] at hL2; simp at hL2; omega
      cases hs
      have hwx := wf_i64 (HZS.out.wf (zs.getD k 0) (by rw [List.getD_eq_getElem?_getD, List.getElem?_eq_getElem (by omega)]; exact List.getElem_mem (by omega)))
      have hwy := wf_u8 (HKS.out.wf (ks.getD k 0) (by rw [List.getD_eq_getElem?_getD, List.getElem?_eq_getElem (by omega)]; exact List.getElem_mem (by omega)))
      have hcz := hc1 k (by omega)
      have hck := hc2 k (by omega)
      rw [← hxe] at hcz hwx
      rw [← hye] at hck hwy
      have gk1 : (k : Int) < zs.length := by omega
      have gk2 : (k : Int) < ks.length := by omega
      obtain ⟨y, rfl⟩ : ∃ y : Nat, y' = (y : Int) := ⟨y'.toNat, by omega⟩
      have hy0 : y ≤ 255 := by omega
      have hk20 : k < 20 := by omega
      clear hc1 hc2 hwy hxe hye
      obtain ⟨r4, hr4⟩ : ∃ r : Nat, r = k % 4 := ⟨_, rfl⟩
      have f1 : (k : Int) % 4 = r4 := by omega
      have f2 : (k : Int).tmod 4 = r4 := by rw [Int.tmod_eq_emod_of_nonneg (by omega)]; omega
      clear hr4
      have c5 : wr.cell? ⟨R, 5, none⟩ = some (.int .i64 g.nodes) := HT.out.geo.cell (i := 5) (by omega)
      go_upto_if 64 with fail
      go_cut [17] (fun s17 wx => ∃ num : Int, s17 = .int .i64 num ∧ LT W wx gd gb gl gt gm n q R g M ∧ wx.cell? ⟨gk, off2 + k, none⟩ = some (.int .u8 y) ∧ gk < wx.heap.size)
      case first =>
        by_cases h0 : r4 = 0
        · subst h0
          go_wp2_with fail
          go_meet
          exact ⟨_, rfl, HT.out, hck, hg2⟩
        · have g2 : (0 : Int) < r4 := by omega
          go_wp2_with fail
          go_meet
          exact ⟨_, rfl, HT.out, hck, hg2⟩
      case rest =>
        obtain ⟨num, rfl, hlt, hck2, hgk⟩ := hcut
        have HT2 := Lib.hid hlt
        clear hlt hck HT f1 f2 c5 hwx hcz hg1
        go_at_K
        go_step
        go_upto_region 13 with fail
        obtain ⟨a7, ha7⟩ : ∃ a : Nat, a = y % 7 := ⟨_, rfl⟩
        obtain ⟨b7, hb7⟩ : ∃ a : Nat, a = y / 7 := ⟨_, rfl⟩
        obtain ⟨c3, hc3⟩ : ∃ a : Nat, a = b7 % 3 := ⟨_, rfl⟩
        have f1 : (y : Int) % 7 = a7 := by omega
        have f2 : (y : Int).tmod 7 = a7 := by rw [Int.tmod_eq_emod_of_nonneg (by omega)]; omega
        have f3 : (y : Int) / 7 = b7 := by omega
        have f4 : (y : Int).tdiv 7 = b7 := by rw [Int.tdiv_eq_ediv_of_nonneg (by omega)]; omega
        have f5 : (b7 : Int) % 3 = c3 := by omega
        have f6 : (b7 : Int).tmod 3 = c3 := by rw [Int.tmod_eq_emod_of_nonneg (by omega)]; omega
        have hbd : a7 ≤ 6 ∧ b7 ≤ 255 ∧ c3 ≤ 2 := by omega
        obtain ⟨hbd1, hbd2, hbd3⟩ := hbd
        clear ha7 hb7 hc3
        have hwr1 : IntKind.u8.wrap (b7 : Int) = b7 := by simp [IntKind.wrap, IntKind.bits, IntKind.signed]; omega
        have hwr2 : IntKind.u16.wrap (k : Int) = k := by simp [IntKind.wrap, IntKind.bits, IntKind.signed]; omega
        have hwr3 : IntKind.u32.wrap (y : Int) = y := by simp [IntKind.wrap, IntKind.bits, IntKind.signed]; omega
        obtain ⟨m, hm⟩ : ∃ m : NodL, m = ⟨a7, c3, k, y, 0, 0, 0, 0, 0, 0, 0, 0⟩ := ⟨_, rfl⟩
        have HMO := Lib.hid (show m.ok by rw [hm]; constructor <;> simp only [] <;> omega)
        have HMF := Lib.hid hm
        clear hm
        obtain ⟨wo, hwo⟩ : ∃ wo, wo = wc := ⟨_, rfl⟩
        subst hwo
        go_cut [18] (fun s18 wx => ∃ N : Nat, s18 = .pointer (some ⟨N, 0, none⟩) ∧ wo.heap.size ≤ N ∧ wx.rowIs N 27 12 (nodF m) ∧ LT W wx gd gb gl gt gm n q R g M ∧ N < wx.heap.size ∧ ¬ (dset gd gb N ∨ N = gm) ∧ N ≠ q)
        case first =>
          have HCK := Lib.hid (fun w' (hb : Below wo.heap.size wo w') => (hb.cell (p := ⟨gk, off2 + k, none⟩) hgk).trans hck2)
          clear hck2
          have hS : Below wo.heap.size wo (World.drew wo) := drewb wo
          refine wp_region_held (S := fun w' => Below wo.heap.size wo w') (by kernel_rfl) ?_
          change wpAnyH _ _ _ _ _ _ _ _ (World.drew _)
          refine takeH 0 (.slice (some ⟨gk, off2, none⟩) ks.length cap3) (some 73) rfl rfl (by kernel_rfl) (by kernel_rfl) (by kernel_rfl) (fun _ _ _ h => h) (.inl ⟨by kernel_rfl, fun w _ => by go_simp⟩) hS ?_
          refine takeH 1 (.int .i64 k) (some 74) rfl rfl (by kernel_rfl) (by kernel_rfl) (by kernel_rfl) (fun _ _ _ h => h) (.inl ⟨by kernel_rfl, fun w _ => by go_simp⟩) hS ?_
          refine takeH 2 (.pointer (some ⟨gk, off2 + k, none⟩)) (some 75) rfl rfl (by kernel_rfl) (by kernel_rfl) (by kernel_rfl) (fun _ _ _ h => h) (.inl ⟨by kernel_rfl, fun w _ => by go_simp⟩) hS ?_
          refine takeH 3 (.int .u8 y) (some 76) rfl rfl (by kernel_rfl) (by kernel_rfl) (by kernel_rfl) (fun _ _ _ h => h) (.inl ⟨by kernel_rfl, fun w hw => by have hc := HCK.out w hw; go_simp⟩) hS ?_
          refine takeH 4 (.int .u8 a7) (some 77) rfl rfl (by kernel_rfl) (by kernel_rfl) (by kernel_rfl) (fun _ _ _ h => h) (.inl ⟨by kernel_rfl, fun w _ => by go_simp⟩) hS ?_
          refine takeH 5 (.slice (some ⟨gk, off2, none⟩) ks.length cap3) (some 78) rfl rfl (by kernel_rfl) (by kernel_rfl) (by kernel_rfl) (fun _ _ _ h => h) (.inl ⟨by kernel_rfl, fun w _ => by go_simp⟩) hS ?_
          refine takeH 6 (.int .i64 k) (some 79) rfl rfl (by kernel_rfl) (by kernel_rfl) (by kernel_rfl) (fun _ _ _ h => h) (.inl ⟨by kernel_rfl, fun w _ => by go_simp⟩) hS ?_
          refine takeH 7 (.pointer (some ⟨gk, off2 + k, none⟩)) (some 80) rfl rfl (by kernel_rfl) (by kernel_rfl) (by kernel_rfl) (fun _ _ _ h => h) (.inl ⟨by kernel_rfl, fun w _ => by go_simp⟩) hS ?_
          refine takeH 8 (.int .u8 y) (some 81) rfl rfl (by kernel_rfl) (by kernel_rfl) (by kernel_rfl) (fun _ _ _ h => h) (.inl ⟨by kernel_rfl, fun w hw => by have hc := HCK.out w hw; go_simp⟩) hS ?_
          refine takeH 9 (.int .u8 b7) (some 82) rfl rfl (by kernel_rfl) (by kernel_rfl) (by kernel_rfl) (fun _ _ _ h => h) (.inl ⟨by kernel_rfl, fun w _ => by go_simp⟩) hS ?_
          refine takeH 10 (.int .u8 c3) (some 83) rfl rfl (by kernel_rfl) (by kernel_rfl) (by kernel_rfl) (fun _ _ _ h => h) (.inl ⟨by kernel_rfl, fun w _ => by go_simp⟩) hS ?_
          go_simp
          refine takeH 11 (.int .i64 k) (some 84) rfl rfl (by kernel_rfl) (by kernel_rfl) (by kernel_rfl) (fun _ _ _ h => h) (.inl ⟨by kernel_rfl, fun w _ => by go_simp⟩) hS ?_
          refine takeH 12 (.int .u16 k) (some 85) rfl rfl (by kernel_rfl) (by kernel_rfl) (by kernel_rfl) (fun _ _ _ h => h) (.inl ⟨by kernel_rfl, fun w _ => by go_simp⟩) hS ?_
          refine takeH 13 (.slice (some ⟨gk, off2, none⟩) ks.length cap3) (some 86) rfl rfl (by kernel_rfl) (by kernel_rfl) (by kernel_rfl) (fun _ _ _ h => h) (.inl ⟨by kernel_rfl, fun w _ => by go_simp⟩) hS ?_
          refine takeH 14 (.int .i64 k) (some 87) rfl rfl (by kernel_rfl) (by kernel_rfl) (by kernel_rfl) (fun _ _ _ h => h) (.inl ⟨by kernel_rfl, fun w _ => by go_simp⟩) hS ?_
          refine takeH 15 (.pointer (some ⟨gk, off2 + k, none⟩)) (some 88) rfl rfl (by kernel_rfl) (by kernel_rfl) (by kernel_rfl) (fun _ _ _ h => h) (.inl ⟨by kernel_rfl, fun w _ => by go_simp⟩) hS ?_
          refine takeH 16 (.int .u8 y) (some 89) rfl rfl (by kernel_rfl) (by kernel_rfl) (by kernel_rfl) (fun _ _ _ h => h) (.inl ⟨by kernel_rfl, fun w hw => by have hc := HCK.out w hw; go_simp⟩) hS ?_
          refine takeH 17 (.int .u32 y) (some 90) rfl rfl (by kernel_rfl) (by kernel_rfl) (by kernel_rfl) (fun _ _ _ h => h) (.inl ⟨by kernel_rfl, fun w _ => by go_simp⟩) hS ?_
          refine takeH 18 (.agg (nodA m)) (some 91) rfl rfl (by kernel_rfl) (by kernel_rfl) (by kernel_rfl) (fun _ _ _ h => h) (yi_build (by kernel_rfl) 27 #[(0, .tmp 77), (1, .tmp 83), (2, .tmp 85), (3, .tmp 90)] rfl (nodA m) (by go_simp; rw [HMF.out]; kernel_rfl)) hS ?_
          go_simp
          refine runH 19 _ (some 18) rfl (by kernel_rfl) (by kernel_rfl) rfl (exec_alloc 27 rfl (.agg (rowArr 12 (nodF zeroN))) node_zero) (bnext hS (bnew _ _)) ?_
          have hm := rowIs_of_arr (heap_alloc_last (World.drew wo) (.cells (rowArr 12 (nodF zeroN)) 27))
          have hS2 := bnext hS (bnew (World.drew wo) (.cells (rowArr 12 (nodF zeroN)) 27))
          refine storeRowX 20 rfl (by kernel_rfl) (by kernel_rfl) rfl 27 _ _ rfl wo.heap.size 12 _ (nodF m) (by go_simp; try rfl) (by go_simp; try rfl) hm (nodF_one m) node_size (fun w3 h3 o3 => ?_)
          have hS3 : Below wo.heap.size wo w3 := bone hS2 o3 (Nat.le_refl _) hS2.size
          refine ⟨hS3, ?_⟩
          refine wpAnyH_done (by kernel_rfl) ?_ _
          go_simp
          go_wp2_with fail
          go_meet
          exact ⟨_, rfl, Nat.le_refl _, h3, HT2.out.keep hS3, h3.lt, HT2.out.fresh (Nat.le_refl _), fun e => by have := HT2.out.mp.mp.lt; omega⟩
        case rest =>
          obtain ⟨N, rfl, hN1, hrow, hlt, hN2, hN3, hN4⟩ := hcut
          have HT3 := Lib.hid hlt
          have HRW := Lib.hid hrow
          have HN3 := Lib.hid hN3
          have HN4 := Lib.hid hN4
          clear hlt hrow hN1 hN2 hN3 hN4 hck2 HT2 hwr1 hwr2 hwr3 f1 f2 f3 f4 f5 f6 hbd1 hbd2 hbd3 hgk
          go_at_K
          go_step
          by_cases hr : num < 1 ∨ (g.nodes : Int) < num
          · go_wp2_with (first
              | (refine wpList_row_load (by kernel_rfl) 84 (.tmp 13) rfl (some 93) rfl R 6 (geoF g) (by go_simp) HT3.out.geo _ Try.underlying84 rfl geo_size ?_)
              | (refine wpList_row_load (by kernel_rfl) 27 (.tmp 18) rfl (some 95) rfl N 12 (nodF m) (by go_simp) HRW.out _ Try.underlying27 rfl node_size ?_))
            refine (ltWrite_range HT3.out num hr m).mono ?_
            rintro e w4 ⟨rfl, hb4⟩
            have HT4 := Lib.hid (HT3.out.keep hb4)
            clear hb4
            go_wp2_with (first
              | (refine wpList_row_load (by kernel_rfl) 84 (.tmp 13) rfl (some 98) rfl R 6 (geoF g) (by go_simp) HT4.out.geo _ Try.underlying84 rfl geo_size ?_))
            refine (nodePlace_no num hr _).mono ?_
            rintro e w5 ⟨rfl, hb5⟩
            have HT5 := Lib.hid (HT4.out.keep hb5)
            have c5 : w5.cell? ⟨R, 5, none⟩ = some (.int .i64 g.nodes) := HT5.out.geo.cell (i := 5) (by omega)
            clear hb5
            by_cases h1 : num < 1
            · go_wp2_with fail
              go_roundw
              case rel => exact ⟨k + 1, _, by omega, by go_num, HT5.out⟩
              case measure => simp [intOf]; omega
            · have h2 : (g.nodes : Int) < num := by omega
              have h1b : decide (num < 1) = false := by simpa using h1
              go_wp2_with fail
              go_roundw
              case rel => exact ⟨k + 1, _, by omega, by go_num, HT5.out⟩
              case measure => simp [intOf]; omega
          · obtain ⟨u, rfl⟩ : ∃ u : Nat, num = (u : Int) := ⟨num.toNat, by omega⟩
            have h1 : 1 ≤ u := by omega
            have h2 : u ≤ g.nodes := by omega
            have h1a : decide ((u : Int) < 1) = false := by simp; omega
            have h2a : decide ((g.nodes : Int) < (u : Int)) = false := by simp; omega
            have h1c : ¬ ((u : Int) < 1) := by omega
            have h2c : ¬ ((g.nodes : Int) < (u : Int)) := by omega
            by_cases hri : m.right = true
            · go_wp2_with (first
                | (refine wpList_row_load (by kernel_rfl) 84 (.tmp 13) rfl (some 93) rfl R 6 (geoF g) (by go_simp) HT3.out.geo _ Try.underlying84 rfl geo_size ?_)
                | (refine wpList_row_load (by kernel_rfl) 27 (.tmp 18) rfl (some 95) rfl N 12 (nodF m) (by go_simp) HRW.out _ Try.underlying27 rfl node_size ?_))
              refine (ltWrite_ok HT3.out HGK.out u h1 h2 m HMO.out hri).mono ?_
              rintro e w4 ⟨rfl, ht4, hc4⟩
              have HT4 := Lib.hid ht4
              have HR4 := Lib.hid (hc4.row HRW.out HN3.out)
              clear ht4 hc4
              go_wp2_with (first
                | (refine wpList_row_load (by kernel_rfl) 84 (.tmp 13) rfl (some 98) rfl R 6 (geoF g) (by go_simp) HT4.out.geo _ Try.underlying84 rfl geo_size ?_))
              refine (nodePlace_yes HGK.out u h1 h2).mono ?_
              rintro e w5 ⟨rfl, hb5⟩
              have HT5 := Lib.hid (HT4.out.keep hb5)
              have HR5 := Lib.hid (rowIs_below HR4.out hb5)
              have c5 : w5.cell? ⟨R, 5, none⟩ = some (.int .i64 g.nodes) := HT5.out.geo.cell (i := 5) (by omega)
              clear hb5
              go_wp2_with (first
                | (refine wpList_row_load (by kernel_rfl) 27 (.tmp 18) rfl (some 120) rfl N 12 (nodF m) (by go_simp) HR5.out _ Try.underlying27 rfl node_size ?_))
              rw [← nodA_row]
              refine (refCheck_in m HMO.out _).mono ?_
              rintro e w6 ⟨rfl, hb6⟩
              rw [if_pos hri]
              have HT6 := Lib.hid (HT5.out.keep hb6)
              have HR6 := Lib.hid (rowIs_below HR5.out hb6)
              clear hb6
              obtain ⟨ly, hly⟩ := key_int u (by omega)
              have HKY := Lib.hid hly
              clear hly
              go_wp2_with (first
                | (refine wpList_row_load (by kernel_rfl) 27 (.tmp 18) rfl (some 127) rfl N 12 (nodF m) (by go_simp) HR6.out _ Try.underlying27 rfl node_size ?_)
                | (refine wpList_update_mb (by kernel_rfl) rfl HT6.out.mp keyedInt kvI_inj Try.underlying87 _ _ _ rfl (by go_simp) (u : Int) (by go_simp; rfl) HKY.out m (by go_simp; rfl) ?_; intro w7 hm7 o7; have HT7 := Lib.hid (HT6.out.note o7 hm7); clear hm7 o7))
              go_roundw
              case rel => exact ⟨k + 1, _, by omega, by go_num, HT7.out⟩
              case measure => simp [intOf]; omega
            · have hrf : m.right = false := by simpa using hri
              go_wp2_with (first
                | (refine wpList_row_load (by kernel_rfl) 84 (.tmp 13) rfl (some 93) rfl R 6 (geoF g) (by go_simp) HT3.out.geo _ Try.underlying84 rfl geo_size ?_)
                | (refine wpList_row_load (by kernel_rfl) 27 (.tmp 18) rfl (some 95) rfl N 12 (nodF m) (by go_simp) HRW.out _ Try.underlying27 rfl node_size ?_))
              refine (nodeWrite_no HGK.out u h1 h2 m HMO.out hrf _ _).mono ?_
              rintro e w4 ⟨rfl, hb4⟩
              have HT4 := Lib.hid (HT3.out.keep hb4)
              have HR4 := Lib.hid (rowIs_below HRW.out hb4)
              clear hb4
              go_wp2_with (first
                | (refine wpList_row_load (by kernel_rfl) 84 (.tmp 13) rfl (some 98) rfl R 6 (geoF g) (by go_simp) HT4.out.geo _ Try.underlying84 rfl geo_size ?_))
              refine (nodePlace_yes HGK.out u h1 h2).mono ?_
              rintro e w5 ⟨rfl, hb5⟩
              have HT5 := Lib.hid (HT4.out.keep hb5)
              have HR5 := Lib.hid (rowIs_below HR4.out hb5)
              have c5 : w5.cell? ⟨R, 5, none⟩ = some (.int .i64 g.nodes) := HT5.out.geo.cell (i := 5) (by omega)
              clear hb5
              go_wp2_with (first
                | (refine wpList_row_load (by kernel_rfl) 27 (.tmp 18) rfl (some 120) rfl N 12 (nodF m) (by go_simp) HR5.out _ Try.underlying27 rfl node_size ?_))
              rw [← nodA_row]
              refine (refCheck_in m HMO.out _).mono ?_
              rintro e w6 ⟨rfl, hb6⟩
              rw [if_neg hri]
              have HT6 := Lib.hid (HT5.out.keep hb6)
              clear hb6
              go_wp2_with fail
              go_roundw
              case rel => exact ⟨k + 1, _, by omega, by go_num, HT6.out⟩
              case measure => simp [intOf]; omega
    · obtain rfl : k = L := by omega
      go_wp2_with fail
      go_loopw [23] (fun r wx => ∃ u : Nat, 1 ≤ u ∧ u ≤ g.nodes + 1 ∧ r = .int .i64 u ∧ LT W wx gd gb gl gt gm n q R g M) (fun r _ => g.nodes + 1 - (intOf r).toNat)
      case atStart => exact ⟨1, by omega, by omega, rfl, HT.out⟩
      case round =>
        obtain ⟨u, hu1, hu2, rfl, hlt⟩ := hrel
        have HT2 := Lib.hid hlt
        have c5 : wr.cell? ⟨R, 5, none⟩ = some (.int .i64 g.nodes) := hlt.geo.cell (i := 5) (by omega)
        clear hlt HT
        by_cases hul : u ≤ g.nodes
        · have g1 : (u : Int) ≤ g.nodes := by omega
          go_wp2_with (first
            | (refine wpList_row_load (by kernel_rfl) 84 (.tmp 13) rfl (some 137) rfl R 6 (geoF g) (by go_simp) HT2.out.geo _ Try.underlying84 rfl geo_size ?_))
          refine (ltRead HT2.out HGK.out u hu1 hul).mono ?_
          rintro e w2 ⟨rfl, ht2, hsz2⟩
          have HT3 := Lib.hid ht2
          have HOK := Lib.hid (nOf_fine ht2.ok u).1
          have HLK := Lib.hid (lk_nod M u)
          clear ht2 c5 hsz2
          obtain ⟨m, hm⟩ : ∃ m, m = nOf M u := ⟨_, rfl⟩
          rw [← hm] at HOK HLK ⊢
          clear hm
          go_wp2_with (first
            | (refine wpList_new_row rfl 27 rfl (some 24) rfl 12 (nodF zeroN) node_zero ?_; intro w3 N hg3 hr3 hb3; have HR3 := Lib.hid hr3; have HT4 := Lib.hid (HT3.out.keep hb3); have HF := Lib.hid (HT3.out.fresh hg3); have HFQ := Lib.hid (show N ≠ q from fun e => by have := HT3.out.mp.mp.lt; omega); have HFR := Lib.hid (show N ≠ R from fun e => by have := HT3.out.geo.lt; omega); have HFW := Lib.hid (show W.heap.size ≤ N from Nat.le_trans HT3.out.bl.size hg3); have HG3 := Lib.hid hg3; clear hr3 hb3 hg3)
            | (refine wpList_row_store rfl 27 (.tmp 24) (.tmp 140) rfl rfl N 12 _ (nodF m) (by go_simp) (by go_simp; try rfl) HR3.out (nodF_one m) node_size ?_; intro w4 hr4 o4; have HR4 := Lib.hid hr4; have HT5 := Lib.hid (HT4.out.newOne o4 HT3.out HG3.out); clear hr4 o4)
            | (refine wpList_row_load (by kernel_rfl) 84 (.tmp 13) rfl (some 143) rfl R 6 (geoF g) (by go_simp) HT5.out.geo _ Try.underlying84 rfl geo_size ?_))
          refine (nodePlace_yes HGK.out u hu1 hul).mono ?_
          rintro e w5 ⟨rfl, hb5⟩
          have HT6 := Lib.hid (HT5.out.keep hb5)
          have HR5 := Lib.hid (rowIs_below HR4.out hb5)
          have c0 : w5.cell? ⟨R, 0, none⟩ = some (.int .i64 g.base) := HT6.out.geo.cell (i := 0) (by omega)
          have c1 : w5.cell? ⟨R, 1, none⟩ = some (.int .i64 g.bitmap) := HT6.out.geo.cell (i := 1) (by omega)
          clear hb5
          obtain ⟨ly, hly⟩ := key_int u (by omega)
          have HKY := Lib.hid hly
          clear hly
          have e1 := HGK.out.d
          have e2 := HGK.out.n
          have e3 := HGK.out.t
          obtain ⟨v, hv⟩ : ∃ v : Nat, v = u - 1 := ⟨_, rfl⟩
          obtain ⟨d1, hd1⟩ : ∃ d1 : Nat, d1 = v / 2 := ⟨_, rfl⟩
          obtain ⟨r1, hr1⟩ : ∃ r1 : Nat, r1 = v % 2 := ⟨_, rfl⟩
          obtain ⟨s1, hs1⟩ : ∃ s1 : Nat, s1 = g.base + g.bitmap := ⟨_, rfl⟩
          obtain ⟨B, hB⟩ : ∃ B : Nat, B = atB g u := ⟨_, rfl⟩
          obtain ⟨O, hO⟩ : ∃ O : Nat, O = atO u := ⟨_, rfl⟩
          rw [← hB, ← hO]
          unfold atB at hB
          unfold atO at hO
          obtain ⟨gb0, hgb0⟩ : ∃ x : Nat, x = g.base := ⟨_, rfl⟩
          obtain ⟨gb1, hgb1⟩ : ∃ x : Nat, x = g.bitmap := ⟨_, rfl⟩
          rw [← hgb0] at c0
          rw [← hgb1] at c1
          have k1 : (u : Int) - 1 = (v : Int) := by omega
          have k2 : (v : Int) / 2 = (d1 : Int) := by omega
          have k3 : (v : Int).tdiv 2 = (d1 : Int) := by rw [Int.tdiv_eq_ediv_of_nonneg (by omega)]; omega
          have k4 : (v : Int) % 2 = (r1 : Int) := by omega
          have k5 : (v : Int).tmod 2 = (r1 : Int) := by rw [Int.tmod_eq_emod_of_nonneg (by omega)]; omega
          have k6 : (gb0 : Int) + (gb1 : Int) = (s1 : Int) := by omega
          have k7 : (s1 : Int) + (d1 : Int) = (B : Int) := by omega
          have k8 : (r1 : Int) * 32 = (O : Int) := by omega
          have q1 : gb0 ≤ 65536 ∧ gb1 ≤ 65536 ∧ s1 ≤ 65536 ∧ d1 ≤ 65536 ∧ B ≤ 65536 ∧ r1 ≤ 1 ∧ O ≤ 32 ∧ v ≤ 30 := by omega
          obtain ⟨q1, q2, q3, q4, q5, q6, q7, q8⟩ := q1
          clear hv hd1 hr1 hs1 hB hO hgb0 hgb1 e1 e2 e3
          go_wp2_with (first
            | (refine wpList_row_load (by kernel_rfl) 27 (.tmp 24) rfl (some 152) rfl N 12 (nodF m) (by go_simp) HR5.out _ Try.underlying27 rfl node_size ?_)
            | (refine wpList_lookup_mk (by kernel_rfl) (some 155) rfl HT6.out.mp.mp keyedInt kvI_inj Try.underlying87 nodV_z _ _ false rfl (by go_simp) (u : Int) (by go_simp; rfl) HKY.out _ HLK.out ?_)
            | (refine wpList_by (v := .bool false) (by kernel_rfl) (some 156) rfl (exec_neq (b := true) (xs := rowArr 12 (nodF m)) (ys := nodA m) rfl (by go_simp) (by go_simp) (by kernel_rfl) (eqNode_same m HOK.out _)) ?_))
          go_roundw
          case rel => exact ⟨u + 1, by omega, by omega, by go_num, HT6.out⟩
          case measure => simp [intOf]; omega
        · obtain rfl : u = g.nodes + 1 := by omega
          have g1 : ¬ (((g.nodes + 1 : Nat) : Int) ≤ g.nodes) := by omega
          go_wp2_with fail
          go_ret
          exact ⟨rfl, HT2.out.bl⟩
end Go.Proofs.Ytonfnlohbgbffaa
