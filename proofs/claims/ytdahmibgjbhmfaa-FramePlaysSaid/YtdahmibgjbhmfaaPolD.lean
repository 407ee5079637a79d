/- The document's pool, new: what holds while it is made. -/
import Derived.Test.YtdahmibgjbhmfaaPolC
set_option linter.unusedVariables false
set_option linter.unusedSimpArgs false
namespace Go.Proofs.Ytdahmibgjbhmfaa
open Go.RowKit
open Go.Maps (Keyed)

def newF (rv vT vB : Value) : Nat → Value
  | 0 => rv
  | 1 => vT
  | _ => vB
def rowsL (tb fr : Nat → Nat) (n : Nat) : List Value := (List.range n).map fun k => rowS (tb k) (fr k)
theorem rowsL_len (tb fr : Nat → Nat) (n : Nat) : (rowsL tb fr n).length = n := by simp [rowsL]
theorem rowsL_next (tb fr : Nat → Nat) (n b : Nat) : rowsL (setN tb n b) fr (n + 1) = rowsL tb fr n ++ [rowS b (fr n)] := by
  unfold rowsL
  rw [List.range_succ, List.map_append, List.map_cons, List.map_nil, setN_same]
  congr 1
  refine List.map_congr_left (fun k hk => ?_)
  rw [List.mem_range] at hk
  rw [setN_other _ _ (by omega)]
/-- A slice of rows, so many of them made: elements of type e, rows of type r of noughts z. -/
structure NP (e r : TypeId) (z : Value) (w : World) (gq : Nat) (fr : Nat → Nat) (n : Nat) (v : Value) (tb : Nat → Nat) : Prop where
  own : w.ownsRow (gq + 1) e 1 v n (rowsL tb fr n)
  row : ∀ k, k < n → w.rowIs (tb k) r (fr k) (fun _ => z)
  inj : ∀ k l, k < n → l < n → tb k = tb l → k = l
  ge : ∀ k, k < n → gq < tb k
section
variable {e r : TypeId} {z : Value} {w w' : World} {gq n : Nat} {fr : Nat → Nat} {v : Value} {tb : Nat → Nat}
theorem NP.keepAt (h : NP e r z w gq fr n v tb) (hk : ∀ (x : Nat) (cur : Array Value) (t : TypeId), w.heap[x]? = some (.cells cur t (0, 0)) → t = e ∨ t = r → w'.heap[x]? = w.heap[x]?) : NP e r z w' gq fr n v tb :=
  ⟨own_keep h.own fun k hk' => by
      obtain ⟨_, cur, hb⟩ := own_blk h.own hk'
      exact hk k cur e hb (.inl rfl), fun k hk' => (h.row k hk').of_block (by
      obtain ⟨c, hc⟩ := rowIs_blk (h.row k hk')
      exact hk _ c r hc (.inr rfl)), h.inj, h.ge⟩
theorem NP.keep (h : NP e r z w gq fr n v tb) (hb : Below w.heap.size w w') : NP e r z w' gq fr n v tb := h.keepAt fun x _ _ hx _ => hb.block x (rowlt hx)
/-- A block of another type turns. -/
theorem NP.one (h : NP e r z w gq fr n v tb) {x : Option Nat} (o : One w w' x) (hx : ∀ y, x = some y → ∃ c t, w.heap[y]? = some (.cells c t (0, 0)) ∧ t ≠ e ∧ t ≠ r) : NP e r z w' gq fr n v tb :=
  h.keepAt fun y cur t hy ht => o.block y (rowlt hy) (fun e2 => by
    obtain ⟨c, u, hc, h1, h2⟩ := hx y e2
    rw [hy] at hc
    injection hc with hc
    injection hc with _ hc _
    rcases ht with rfl | rfl
    · exact h1 hc.symm
    · exact h2 hc.symm)
/-- One more row. -/
theorem NP.next (h : NP e r z w gq fr n v tb) {w8 w9 : World} {G : Nat} {v' : Value} (her : e ≠ r) (hb : Below w.heap.size w w8) (hG : w.heap.size ≤ G) (hgq : gq < w.heap.size) (hr : w8.rowIs G r (fr n) (fun _ => z)) (o : One w8 w9 v.ownBlock)
    (hown : w9.ownsRow (gq + 1) e 1 v' (n + 1) (rowsL tb fr n ++ [rowS G (fr n)])) : NP e r z w9 gq fr (n + 1) v' (setN tb n G) := by
  have h8 := h.keep hb
  have hne : ∀ {g m : Nat} {f : Nat → Value}, w8.rowIs g r m f → v.ownBlock ≠ some g := fun hr e2 => by
    obtain ⟨_, cur, hb⟩ := own_blk h8.own e2
    obtain ⟨c, hc⟩ := rowIs_blk hr
    rw [hb] at hc
    injection hc with hc
    injection hc with _ hc _
    exact her hc
  refine ⟨by rw [rowsL_next]; exact hown, fun k hk => ?_, fun k l hk hl e2 => ?_, fun k hk => ?_⟩
  · by_cases ek : k = n
    · subst ek
      rw [setN_same]
      exact hr.of_block (o.block G hr.lt (hne hr))
    · rw [setN_other _ _ ek]
      have := h8.row k (by omega)
      exact this.of_block (o.block _ this.lt (hne this))
  · have lt : ∀ k, k < n → tb k < G := fun k hk => by have := (h.row k hk).lt; omega
    by_cases ek : k = n
    · by_cases el : l = n
      · omega
      · rw [ek, setN_same, setN_other _ _ el] at e2
        have := lt l (by omega)
        omega
    · by_cases el : l = n
      · rw [el, setN_same, setN_other _ _ ek] at e2
        have := lt k (by omega)
        omega
      · rw [setN_other _ _ ek, setN_other _ _ el] at e2
        exact h.inj k l (by omega) (by omega) e2
  · by_cases ek : k = n
    · rw [ek, setN_same]; omega
    · rw [setN_other _ _ ek]; exact h.ge k (by omega)
theorem NP.nil (w : World) (gq : Nat) (fr tb : Nat → Nat) : NP e r z w gq fr 0 (.slice none 0 0) tb :=
  ⟨World.ownsRow_nil _ _ _ _, fun k hk => by omega, fun k _ hk => by omega, fun k hk => by omega⟩
/-- The row of a slice that isn't empty. -/
theorem NP.at (h : NP e r z w gq fr n v tb) (hn : 0 < n) : ∃ g c cur, v = .slice (some ⟨g, 0, none⟩) n c ∧ gq < g ∧ n ≤ c ∧ c ≤ maxLen ∧ w.heap[g]? = some (.cells cur e (0, 0)) ∧ ∀ k, k < n → cur[k]? = some (rowS (tb k) (fr k)) := by
  rcases h.own.2 with ⟨_, h2⟩ | ⟨g, c, cur, h1, h2, h3, h4, h5, h6, h7⟩
  · omega
  · refine ⟨g, c, cur, h1, by omega, h4, h5, h3, fun k hk => ?_⟩
    have e2 : (cur.toList.take (n * 1))[k]? = (rowsL tb fr n)[k]? := by rw [h7]
    rw [List.getElem?_take_of_lt (by omega), Array.getElem?_toList] at e2
    rw [e2]
    unfold rowsL
    rw [List.getElem?_map, List.getElem?_range hk]
    rfl
end

structure NW (w0 w : World) (gq : Nat) (rv : Value) (fr : Nat → Nat) (nt nb : Nat) (vT vB : Value) (tb bb : Nat → Nat) : Prop where
  row : w.rowIs gq 52 3 (newF rv vT vB)
  pt : NP 48 4 (.bool false) w gq fr nt vT tb
  pb : NP 54 24 (.slice none 0 0) w gq fr nb vB bb
  bl : Below w0.heap.size w0 w
  g0 : w0.heap.size ≤ gq
section
variable {w0 w w8 w9 w' : World} {gq nt nb G : Nat} {fr : Nat → Nat} {rv vT vB v' : Value} {tb bb : Nat → Nat}
theorem NW.keep (h : NW w0 w gq rv fr nt nb vT vB tb bb) (hb : Below w.heap.size w w') : NW w0 w' gq rv fr nt nb vT vB tb bb :=
  ⟨h.row.of_block (hb.block gq h.row.lt), h.pt.keep hb, h.pb.keep hb, bnext h.bl hb, h.g0⟩
theorem NW.blk (h : NW w0 w gq rv fr nt nb vT vB tb bb) : ∃ c, w.heap[gq]? = some (.cells c 52 (0, 0)) := rowIs_blk h.row
theorem NW.addT (h : NW w0 w gq rv fr nt nb vT vB tb bb) (hb : Below w.heap.size w w8) (hG : w.heap.size ≤ G) (hr : w8.rowIs G 4 (fr nt) (fun _ => .bool false)) (o : One w8 w9 vT.ownBlock)
    (hown : w9.ownsRow (gq + 1) 48 1 v' (nt + 1) (rowsL tb fr nt ++ [rowS G (fr nt)])) (o10 : One w9 w' (some gq)) (hrow : w'.rowIs gq 52 3 (newF rv v' vB)) : NW w0 w' gq rv fr (nt + 1) nb v' vB (setN tb nt G) bb := by
  have h8 := h.keep hb
  have hgq : gq < w.heap.size := h.row.lt
  have hvT : ∀ y, vT.ownBlock = some y → gq < y ∧ ∃ c, w8.heap[y]? = some (.cells c 48 (0, 0)) := fun y e => by
    obtain ⟨h1, cur, h2⟩ := own_blk h8.pt.own e
    exact ⟨by omega, cur, h2⟩
  obtain ⟨c, hc⟩ := h8.blk
  have hc9 : w9.heap[gq]? = some (.cells c 52 (0, 0)) := o.blk hc (fun e => by have := (hvT gq e).1; omega)
  have pt9 := h.pt.next (by decide) hb hG hgq hr o hown
  have pb9 := h8.pb.one o (fun y e => by
    obtain ⟨_, c, hc⟩ := hvT y e
    exact ⟨c, _, hc, by decide, by decide⟩)
  refine ⟨hrow, pt9.one o10 (fun y e => ?_), pb9.one o10 (fun y e => ?_), ?_, h.g0⟩
  · cases e; exact ⟨c, _, hc9, by decide, by decide⟩
  · cases e; exact ⟨c, _, hc9, by decide, by decide⟩
  · have h0 := h.g0
    have b9 : Below w0.heap.size w0 w9 := h8.bl.trans (o.toBelow (fun k e => by have := (hvT k e).1; omega) h8.bl.size)
    exact bone b9 o10 h.g0 b9.size
theorem NW.addB (h : NW w0 w gq rv fr nt nb vT vB tb bb) (hb : Below w.heap.size w w8) (hG : w.heap.size ≤ G) (hr : w8.rowIs G 24 (fr nb) (fun _ => .slice none 0 0)) (o : One w8 w9 vB.ownBlock)
    (hown : w9.ownsRow (gq + 1) 54 1 v' (nb + 1) (rowsL bb fr nb ++ [rowS G (fr nb)])) (o10 : One w9 w' (some gq)) (hrow : w'.rowIs gq 52 3 (newF rv vT v')) : NW w0 w' gq rv fr nt (nb + 1) vT v' tb (setN bb nb G) := by
  have h8 := h.keep hb
  have hgq : gq < w.heap.size := h.row.lt
  have hvT : ∀ y, vB.ownBlock = some y → gq < y ∧ ∃ c, w8.heap[y]? = some (.cells c 54 (0, 0)) := fun y e => by
    obtain ⟨h1, cur, h2⟩ := own_blk h8.pb.own e
    exact ⟨by omega, cur, h2⟩
  obtain ⟨c, hc⟩ := h8.blk
  have hc9 : w9.heap[gq]? = some (.cells c 52 (0, 0)) := o.blk hc (fun e => by have := (hvT gq e).1; omega)
  have pb9 := h.pb.next (by decide) hb hG hgq hr o hown
  have pt9 := h8.pt.one o (fun y e => by
    obtain ⟨_, c, hc⟩ := hvT y e
    exact ⟨c, _, hc, by decide, by decide⟩)
  refine ⟨hrow, pt9.one o10 (fun y e => ?_), pb9.one o10 (fun y e => ?_), ?_, h.g0⟩
  · cases e; exact ⟨c, _, hc9, by decide, by decide⟩
  · cases e; exact ⟨c, _, hc9, by decide, by decide⟩
  · have h0 := h.g0
    have b9 : Below w0.heap.size w0 w9 := h8.bl.trans (o.toBelow (fun k e => by have := (hvT k e).1; omega) h8.bl.size)
    exact bone b9 o10 h.g0 b9.size
/-- All are made. -/
theorem NW.done (h : NW w0 w gq rv fr nt nt vT vB tb bb) (hn : 0 < nt) (h64 : nt ≤ 64) (hfr : ∀ k, k < nt → fr k ≤ 1000) (b : Nat) (hb : b ≤ w0.heap.size) : ∃ Y : PoolY, Y.gq = gq ∧ Y.m = nt ∧ Y.fr = fr ∧ Y.base = b ∧ RP w Y (fun _ _ => none) (fun _ _ => false) (fun _ _ _ => 0) := by
  obtain ⟨gt, ct, curT, e1, k1, k2, k3, k4, k5⟩ := h.pt.at hn
  obtain ⟨gb, cb, curB, f1, l1, l2, l3, l4, l5⟩ := h.pb.at hn
  have h0 := h.g0
  refine ⟨⟨gq, rv, nt, fr, b, gt, ct, gb, cb, tb, bb⟩, rfl, rfl, rfl, rfl, ?_⟩
  exact {
    row := h.row.congr (fun i hi => by
      rw [e1, f1]
      rcases (show i = 0 ∨ i = 1 ∨ i = 2 by omega) with rfl | rfl | rfl <;> rfl)
    tt := ⟨curT, k4, k5⟩
    bt := ⟨curB, l4, l5⟩
    rowT := fun k hk => h.pt.row k hk
    rowB := fun k hk => h.pb.row k hk
    pg := fun k n _ _ e => by cases e
    injT := h.pt.inj
    injB := h.pb.inj
    injP := fun k n l i b _ _ _ _ e => by cases e
    pgl := fun k n b _ _ e => by cases e
    ge0 := ⟨by show b ≤ gq; omega, by show b ≤ gt; omega, by show b ≤ gb; omega⟩
    geT := fun k hk => ⟨by have := h.pt.ge k hk; show b ≤ tb k; omega, by have := h.pb.ge k hk; show b ≤ bb k; omega⟩
    geP := fun k n b _ _ e => by cases e
    bd := fun _ _ _ => Nat.zero_le _
    m0 := hn
    m64 := h64
    caps := ⟨k2, k3, l2, l3⟩
    frs := hfr }
end
end Go.Proofs.Ytdahmibgjbhmfaa
