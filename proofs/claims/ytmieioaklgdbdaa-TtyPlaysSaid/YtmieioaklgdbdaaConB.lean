/- Configurations: keys, what a configuration holds, how it is kept. -/
import Derived.Test.YtmieioaklgdbdaaConA
import Derived.Test.YtmieioaklgdbdaaMapG
set_option linter.unusedVariables false
set_option linter.unusedSimpArgs false
namespace Go.Proofs.Ytmieioaklgdbdaa
open Go.RowKit
open Go.Maps (Keyed)

/-! ### Keys -/
theorem keyedStr : Keyed Try.prog 9 := Go.Maps.string_keyed Try.underlying9
def markV (p : Nat × Nat) : Value := .agg #[.int .u8 p.1, .int .u16 p.2]
theorem key_str (s : ByteArray) (h : s.size ≤ maxLen) : ∃ l, keyOf Try.prog 9 (.string s) = some l := ⟨_, Go.WideMaps.keyOf_string_mk Try.underlying9 h⟩
theorem labV_inj (a b : Nat × Nat) (h : labV a = labV b) : a = b := by
  unfold labV at h
  simp at h
  exact Prod.ext (by omega) (by omega)
theorem markV_inj (a b : Nat × Nat) (h : markV a = markV b) : a = b := labV_inj a b h
theorem str_inj (a b : ByteArray) (h : Value.string a = .string b) : a = b := by cases h; rfl

/-! ### Groups -/
/-- Where a label's group lies. -/
structure GeoL where
  base : Nat
  bitmap : Nat
  table : Nat
  data : Nat
  blocks : Nat
  nodes : Nat
def geoOf (at_ : Nat) (r : RegL) : GeoL := ⟨at_, (r.bl + 511) / 512, (r.no * 32 + 63) / 64, at_ + (r.bl + 511) / 512 + (r.no * 32 + 63) / 64, r.bl, r.no⟩
def geoStep (s : List GeoL × Nat) (r : RegL) : List GeoL × Nat := (s.1 ++ [geoOf s.2 r], (geoOf s.2 r).data + r.bl)
def geosOf (rs : List RegL) : List GeoL × Nat := rs.foldl geoStep ([], 32)
theorem geosOf_snoc (rs : List RegL) (r : RegL) : geosOf (rs ++ [r]) = ((geosOf rs).1 ++ [geoOf (geosOf rs).2 r], (geoOf (geosOf rs).2 r).data + r.bl) := by
  unfold geosOf
  rw [List.foldl_append]
  rfl
def geoArr (g : GeoL) : Array Value := #[.int .i64 g.base, .int .i64 g.bitmap, .int .i64 g.table, .int .i64 g.data, .int .i64 g.blocks, .int .i64 g.nodes]
def geoCells (gs : List GeoL) : List Value := gs.flatMap fun g => (geoArr g).toList
def regCells (rs : List RegL) : List Value := rs.flatMap fun r => (regArr r).toList
def markCells (ms : List (Nat × Nat)) : List Value := ms.flatMap labCells
def nameF (rs : List RegL) (s : ByteArray) : Option Nat := rs.findIdx? fun r => decide (r.name = s)
def labF (rs : List RegL) (p : Nat × Nat) : Option Nat := rs.findIdx? fun r => decide (r.lab = p)
def markF (ms : List (Nat × Nat)) (p : Nat × Nat) : Option Bool := if p ∈ ms then some true else none
def intV (n : Nat) : Value := .int .i64 n

/-- What a row's block is. -/
theorem own_blk {w : World} {B : Nat} {e : TypeId} {size : Nat} {v : Value} {n : Nat} {xs : List Value} (h : w.ownsRow B e size v n xs) {k : Nat} (hk : v.ownBlock = some k) : B ≤ k ∧ ∃ cur, w.heap[k]? = some (.cells cur e (0, 0)) := by
  rcases h.2 with ⟨rfl, _⟩ | ⟨g0, c0, cur, rfl, hb, hg, _⟩
  · cases hk
  · cases hk; exact ⟨hb, cur, hg⟩
theorem MK.notCells {κ α : Type} {w : World} {P : Program} {k : TypeId} {g : Nat} {kv : κ → Value} {vv : α → Value} {F : κ → Option α} (h : MK w P k g kv vv F) {cs : Array Value} {t : TypeId} {fr : Nat × Nat} : w.heap[g]? ≠ some (.cells cs t fr) := by
  obtain ⟨E, c, hb, _⟩ := h
  rw [hb]; simp
theorem Half.notCells {κ α : Type} {w : World} {P : Program} {k : TypeId} {g : Nat} {kv : κ → Value} {vv : α → Value} {F : κ → Option α} {a : κ} {z : Value} {c : Nat} (h : Half w P k g kv vv F a z c) {cs : Array Value} {t : TypeId} {fr : Nat × Nat} : w.heap[g]? ≠ some (.cells cs t fr) := by
  obtain ⟨E, hb, _⟩ := h
  rw [hb]; simp
theorem one_of_grown {w w' : World} {r : Option Nat} (h : w.grownBy w' r) : One w w' r := ⟨h.os, h.tape, h.output, h.size, fun k hk hr => h.block k hk (fun e => hr (by rw [← e]))⟩
theorem one_of_below {w w' : World} (h : Below w.heap.size w w') (r : Option Nat) : One w w' r := ⟨h.os, h.tape, h.output, h.size, fun k hk _ => h.block k hk⟩
theorem one_setCell (w : World) (g off : Nat) (v : Value) : One w (w.setCell ⟨g, off, none⟩ v) (some g) := One.setCells [v] off (One.refl w _)
theorem One.blk {w w' : World} {r : Option Nat} {g : Nat} {x : Obj} (o : One w w' r) (h : w.heap[g]? = some x) (hr : r ≠ some g) : w'.heap[g]? = some x := by rw [o.block g (rowlt h) hr]; exact h
/-- A cell of a block is written. -/
theorem heap_setCell_same {w : World} {g off : Nat} {cs : Array Value} {t : TypeId} {fr : Nat × Nat} (h : w.heap[g]? = some (.cells cs t fr)) (v : Value) (ho : off < cs.size) :
    (w.setCell ⟨g, off, none⟩ v).heap[g]? = some (.cells (cs.setIfInBounds off v) t fr) := by
  obtain ⟨hg, hx⟩ := Array.getElem?_eq_some_iff.1 h
  simp [World.setCell, h, hg, ho, Array.getElem_modify, hx]
theorem One.trans {w w' w'' : World} {r : Option Nat} (h : One w w' r) (k : One w' w'' r) : One w w'' r :=
  ⟨k.os.trans h.os, k.tape.trans h.tape, k.output.trans h.output, Nat.le_trans h.size k.size, fun i hi hr => (k.block i (Nat.lt_of_lt_of_le hi h.size) hr).trans (h.block i hi hr)⟩

section
variable {B : Nat} {w w' : World} {gT gN gL : Nat} {v m u : Value} {rs : List RegL} {gs : List GeoL} {nf : ByteArray → Option Nat} {lf : Nat × Nat → Option Nat} {tf : Nat × Nat → Option Bool} {ms : List (Nat × Nat)}
/-- Another block than all of these. -/
def CR.Off (gT gN gL : Nat) (v m u : Value) (x : Nat) : Prop := x ≠ gT ∧ x ≠ gN ∧ x ≠ gL ∧ v.ownBlock ≠ some x ∧ m.ownBlock ≠ some x ∧ u.ownBlock ≠ some x
theorem CR.rowOff {e : TypeId} {size n : Nat} {y : Value} {xs : List Value} (hy : w.ownsRow B e size y n xs) {g : Nat} (hg : ∀ cs t fr, w.heap[g]? ≠ some (.cells cs t fr)) {k : Nat} (hk : y.ownBlock = some k) : some g ≠ some k := fun e' => by
  obtain ⟨_, cur, hc⟩ := own_blk hy hk
  exact hg _ _ _ ((Option.some.inj e') ▸ hc)
/-- Two rows of different types lie apart. -/
theorem own_apart {e e' : TypeId} {size size' n n' : Nat} {x y : Value} {xs ys : List Value} (hx : w.ownsRow B e size x n xs) (hy : w.ownsRow B e' size' y n' ys) (hne : e ≠ e') : ∀ k, y.ownBlock = some k → x.ownBlock ≠ some k := fun k hk hk' => by
  obtain ⟨_, cur, hc⟩ := own_blk hx hk'
  obtain ⟨_, cur', hc'⟩ := own_blk hy hk
  rw [hc] at hc'
  simp at hc'
  exact hne hc'.2
theorem own_notMap {κ α : Type} {P : Program} {k : TypeId} {g : Nat} {kv : κ → Value} {vv : α → Value} {F : κ → Option α} (hm : MK w P k g kv vv F) {e : TypeId} {size n : Nat} {x : Value} {xs : List Value} (hx : w.ownsRow B e size x n xs) : x.ownBlock ≠ some g := fun hk => by
  obtain ⟨_, cur, hc⟩ := own_blk hx hk
  exact hm.notCells hc
end

theorem geosOf_length (rs : List RegL) : (geosOf rs).1.length = rs.length := by
  have : ∀ (l : List RegL) (s : List GeoL × Nat), (l.foldl geoStep s).1.length = s.1.length + l.length := by
    intro l
    induction l with
    | nil => intro s; rfl
    | cons r l ih => intro s; rw [List.foldl_cons, ih]; simp [geoStep]; omega
  have := this rs ([], 32)
  simpa [geosOf] using this
end Go.Proofs.Ytmieioaklgdbdaa
