/- Configurations: keys, what a configuration holds, how it is kept. -/
import Derived.Test.YtapcbfeifeobhaaConA
import Derived.Test.YtapcbfeifeobhaaMapG
set_option linter.unusedVariables false
set_option linter.unusedSimpArgs false
namespace Go.Proofs.Ytapcbfeifeobhaa
open Go.RowKit
open Go.Maps (Keyed)

/-! ### Keys -/
theorem keyedStr : Keyed Try.prog 9 := Go.Maps.string_keyed Try.underlying9
theorem keyedLab : Keyed Try.prog 136 := Keyed.of_law (deep_law_laid laidOut (m := 2) (by omega) (of_decide_eq_true (by kernel_rfl)) (by kernel_rfl) (by kernel_rfl))
theorem keyedMark : Keyed Try.prog 158 := Keyed.of_law (deep_law_laid laidOut (m := 2) (by omega) (of_decide_eq_true (by kernel_rfl)) (by kernel_rfl) (by kernel_rfl))

/-- A struct of a byte and a number of sixteen bits as a key. -/
theorem key_pair {t : TypeId} (h1 : Try.prog.keyType t = true) (h2 : Try.prog.cellsOf t = 2) (hu : ∃ fs, Try.prog.underlying t = some (.struct fs) ∧ fs.all (·.name != "_") = true ∧ (fs.toList.map fun f => (f.type, f.offset)) = [(5, 0), (80, 1)])
    (p : Nat × Nat) (ha : p.1 ≤ 255) (hb : p.2 ≤ 65535) : ∃ l, keyOf Try.prog t (.agg #[.int .u8 p.1, .int .u16 p.2]) = some l := by
  obtain ⟨fs, hu, hn, hf⟩ := hu
  obtain ⟨d, hd⟩ : ∃ d, Try.prog.types.size + 1 = d + 2 := ⟨Try.prog.types.size - 1, by have : 1 ≤ Try.prog.types.size := of_decide_eq_true (by kernel_rfl); omega⟩
  have wa : (Lit.int .u8 (p.1 : Int)).wf = true := u8_wf (by omega)
  have wb : (Lit.int .u16 (p.2 : Int)).wf = true := u16_wf (by omega)
  have c8 : Try.prog.cellsOf 5 = 1 := by kernel_rfl
  have c16 : Try.prog.cellsOf 80 = 1 := by kernel_rfl
  have e1 : Try.prog.keyLits (d + 1) 5 [.int .u8 p.1] = some [.int .u8 p.1] := by simp [Program.keyLits, Try.underlying5, wa]
  have e2 : Try.prog.keyLits (d + 1) 80 [.int .u16 p.2] = some [.int .u16 p.2] := by simp [Program.keyLits, Try.underlying80, wb]
  have hk : Try.prog.keyLits (d + 2) t [.int .u8 p.1, .int .u16 p.2] = some [.int .u8 p.1, .int .u16 p.2] := by
    unfold Program.keyLits
    simp only [hu]
    have hmap : (fs.toList.mapM fun f => Try.prog.keyLits (d + 1) f.type (([.int .u8 (p.1 : Int), .int .u16 (p.2 : Int)].drop f.offset).take (Try.prog.cellsOf f.type))) = some [[.int .u8 (p.1 : Int)], [.int .u16 (p.2 : Int)]] := by
      have key : ∀ l : List Field, (l.map fun f => (f.type, f.offset)) = [(5, 0), (80, 1)] → (l.mapM fun f => Try.prog.keyLits (d + 1) f.type (([.int .u8 (p.1 : Int), .int .u16 (p.2 : Int)].drop f.offset).take (Try.prog.cellsOf f.type))) = some [[.int .u8 (p.1 : Int)], [.int .u16 (p.2 : Int)]] := by
        intro l hl
        match l, hl with
        | [], hl => simp at hl
        | [f], hl => simp at hl
        | f :: g :: h :: r, hl => simp at hl
        | [f, g], hl =>
          simp only [List.map_cons, List.map_nil, List.cons.injEq, Prod.mk.injEq, and_true] at hl
          obtain ⟨⟨a1, a2⟩, b1, b2⟩ := hl
          simp [a1, a2, b1, b2, c8, c16, e1, e2]
      exact key _ hf
    rw [if_pos ⟨by rw [h2]; rfl, hn⟩, hmap]
    rfl
  have hform : (Value.agg #[.int .u8 (p.1 : Int), .int .u16 (p.2 : Int)]).formed Try.prog t = true := by
    simp [Value.formed, hu, h2]
  refine ⟨.string (keyBytes [.int .u8 p.1, .int .u16 p.2]), ?_⟩
  unfold keyOf
  simp only [hu, h1, hform, Bool.and_self, if_true]
  rw [hd]
  show (Try.prog.keyLits (d + 2) t [.int .u8 (p.1 : Int), .int .u16 (p.2 : Int)]).map _ = _
  rw [hk]
  rfl
def markV (p : Nat × Nat) : Value := .agg #[.int .u8 p.1, .int .u16 p.2]
theorem key_lab (p : Nat × Nat) (hp : okL p) : ∃ l, keyOf Try.prog 136 (labV p) = some l :=
  key_pair (by kernel_rfl) (by kernel_rfl) ⟨_, Try.underlying136, by kernel_rfl, by kernel_rfl⟩ p hp.1 (by have := hp.2; omega)
theorem key_mark (p : Nat × Nat) (h1 : p.1 ≤ 255) (h2 : p.2 ≤ 65535) : ∃ l, keyOf Try.prog 158 (markV p) = some l :=
  key_pair (by kernel_rfl) (by kernel_rfl) ⟨_, Try.underlying158, by kernel_rfl, by kernel_rfl⟩ p h1 h2
theorem key_str (s : ByteArray) (h : s.size ≤ maxLen) : ∃ l, keyOf Try.prog 9 (.string s) = some l := ⟨_, Go.WideMaps.keyOf_string_mk Try.underlying9 h⟩
theorem labV_inj (a b : Nat × Nat) (h : labV a = labV b) : a = b := by
  unfold labV at h
  simp at h
  exact Prod.ext (by omega) (by omega)
theorem markV_inj (a b : Nat × Nat) (h : markV a = markV b) : a = b := labV_inj a b h
theorem str_inj (a b : ByteArray) (h : Value.string a = .string b) : a = b := by cases h; rfl

/-! ### Groups -/
/-- Where a label's group lies. -/
structure GeoL where
  base : Nat
  bitmap : Nat
  table : Nat
  data : Nat
  blocks : Nat
  nodes : Nat
def geoOf (at_ : Nat) (r : RegL) : GeoL := ⟨at_, (r.bl + 511) / 512, (r.no * 32 + 63) / 64, at_ + (r.bl + 511) / 512 + (r.no * 32 + 63) / 64, r.bl, r.no⟩
def geoStep (s : List GeoL × Nat) (r : RegL) : List GeoL × Nat := (s.1 ++ [geoOf s.2 r], (geoOf s.2 r).data + r.bl)
def geosOf (rs : List RegL) : List GeoL × Nat := rs.foldl geoStep ([], 32)
theorem geosOf_snoc (rs : List RegL) (r : RegL) : geosOf (rs ++ [r]) = ((geosOf rs).1 ++ [geoOf (geosOf rs).2 r], (geoOf (geosOf rs).2 r).data + r.bl) := by
  unfold geosOf
  rw [List.foldl_append]
  rfl
def geoArr (g : GeoL) : Array Value := #[.int .i64 g.base, .int .i64 g.bitmap, .int .i64 g.table, .int .i64 g.data, .int .i64 g.blocks, .int .i64 g.nodes]
def geoCells (gs : List GeoL) : List Value := gs.flatMap fun g => (geoArr g).toList
def regCells (rs : List RegL) : List Value := rs.flatMap fun r => (regArr r).toList
def markCells (ms : List (Nat × Nat)) : List Value := ms.flatMap labCells
def nameF (rs : List RegL) (s : ByteArray) : Option Nat := rs.findIdx? fun r => decide (r.name = s)
def labF (rs : List RegL) (p : Nat × Nat) : Option Nat := rs.findIdx? fun r => decide (r.lab = p)
def markF (ms : List (Nat × Nat)) (p : Nat × Nat) : Option Bool := if p ∈ ms then some true else none
def intV (n : Nat) : Value := .int .i64 n

/-- A configuration: its block g; the maps' blocks; the slices. -/
structure CF (w : World) (g gT gN gL : Nat) (v m u : Value) (rs : List RegL) (ms : List (Nat × Nat)) : Prop where
  blk : w.heap[g]? = some (.cells #[v, .map (some gT), m, .map (some gN), .map (some gL), u, .int .i64 (geosOf rs).2] 155)
  mT : MK w Try.prog 158 gT markV Value.bool (markF ms)
  mN : MK w Try.prog 9 gN Value.string intV (nameF rs)
  mL : MK w Try.prog 136 gL labV intV (labF rs)
  sr : SR w v rs.length 9 (regCells rs)
  su : SR w u rs.length 6 (geoCells (geosOf rs).1)
  sm : SR w m ms.length 2 (markCells ms)
theorem CF.keep {w w' : World} {g gT gN gL : Nat} {v m u : Value} {rs : List RegL} {ms : List (Nat × Nat)} (h : CF w g gT gN gL v m u rs ms) (hb : Below w.heap.size w w') : CF w' g gT gN gL v m u rs ms :=
  ⟨bkeep hb h.blk, h.mT.keep hb, h.mN.keep hb, h.mL.keep hb, h.sr.keep hb, h.su.keep hb, h.sm.keep hb⟩

/-- What a row's block is. -/
theorem own_blk {w : World} {B : Nat} {e : TypeId} {size : Nat} {v : Value} {n : Nat} {xs : List Value} (h : w.ownsRow B e size v n xs) {k : Nat} (hk : v.ownBlock = some k) : B ≤ k ∧ ∃ cur, w.heap[k]? = some (.cells cur e (0, 0)) := by
  rcases h.2 with ⟨rfl, _⟩ | ⟨g0, c0, cur, rfl, hb, hg, _⟩
  · cases hk
  · cases hk; exact ⟨hb, cur, hg⟩
theorem MK.notCells {κ α : Type} {w : World} {P : Program} {k : TypeId} {g : Nat} {kv : κ → Value} {vv : α → Value} {F : κ → Option α} (h : MK w P k g kv vv F) {cs : Array Value} {t : TypeId} {fr : Nat × Nat} : w.heap[g]? ≠ some (.cells cs t fr) := by
  obtain ⟨E, c, hb, _⟩ := h
  rw [hb]; simp
theorem Half.notCells {κ α : Type} {w : World} {P : Program} {k : TypeId} {g : Nat} {kv : κ → Value} {vv : α → Value} {F : κ → Option α} {a : κ} {z : Value} {c : Nat} (h : Half w P k g kv vv F a z c) {cs : Array Value} {t : TypeId} {fr : Nat × Nat} : w.heap[g]? ≠ some (.cells cs t fr) := by
  obtain ⟨E, hb, _⟩ := h
  rw [hb]; simp
theorem one_of_grown {w w' : World} {r : Option Nat} (h : w.grownBy w' r) : One w w' r := ⟨h.os, h.tape, h.output, h.size, fun k hk hr => h.block k hk (fun e => hr (by rw [← e]))⟩
theorem one_of_below {w w' : World} (h : Below w.heap.size w w') (r : Option Nat) : One w w' r := ⟨h.os, h.tape, h.output, h.size, fun k hk _ => h.block k hk⟩
theorem one_setCell (w : World) (g off : Nat) (v : Value) : One w (w.setCell ⟨g, off, none⟩ v) (some g) := One.setCells [v] off (One.refl w _)
theorem One.blk {w w' : World} {r : Option Nat} {g : Nat} {x : Obj} (o : One w w' r) (h : w.heap[g]? = some x) (hr : r ≠ some g) : w'.heap[g]? = some x := by rw [o.block g (rowlt h) hr]; exact h
/-- A cell of a block is written. -/
theorem heap_setCell_same {w : World} {g off : Nat} {cs : Array Value} {t : TypeId} {fr : Nat × Nat} (h : w.heap[g]? = some (.cells cs t fr)) (v : Value) (ho : off < cs.size) :
    (w.setCell ⟨g, off, none⟩ v).heap[g]? = some (.cells (cs.setIfInBounds off v) t fr) := by
  obtain ⟨hg, hx⟩ := Array.getElem?_eq_some_iff.1 h
  simp [World.setCell, h, hg, ho, Array.getElem_modify, hx]
theorem One.trans {w w' w'' : World} {r : Option Nat} (h : One w w' r) (k : One w' w'' r) : One w w'' r :=
  ⟨k.os.trans h.os, k.tape.trans h.tape, k.output.trans h.output, Nat.le_trans h.size k.size, fun i hi hr => (k.block i (Nat.lt_of_lt_of_le hi h.size) hr).trans (h.block i hi hr)⟩

/-- What a configuration that the call makes has beside its own block, from block B on: three maps, three rows. -/
structure CR (B : Nat) (w : World) (gT gN gL : Nat) (v m u : Value) (rs : List RegL) (gs : List GeoL) (nf : ByteArray → Option Nat) (lf : Nat × Nat → Option Nat) (tf : Nat × Nat → Option Bool) (ms : List (Nat × Nat)) : Prop where
  mT : MK w Try.prog 158 gT markV Value.bool tf
  mN : MK w Try.prog 9 gN Value.string intV nf
  mL : MK w Try.prog 136 gL labV intV lf
  ov : w.ownsRow B 138 9 v rs.length (regCells rs)
  ou : w.ownsRow B 167 6 u gs.length (geoCells gs)
  om : w.ownsRow B 158 2 m ms.length (markCells ms)
  n1 : gT ≠ gN
  n2 : gT ≠ gL
  n3 : gN ≠ gL
  b1 : B ≤ gT
  b2 : B ≤ gN
  b3 : B ≤ gL
section
variable {B : Nat} {w w' : World} {gT gN gL : Nat} {v m u : Value} {rs : List RegL} {gs : List GeoL} {nf : ByteArray → Option Nat} {lf : Nat × Nat → Option Nat} {tf : Nat × Nat → Option Bool} {ms : List (Nat × Nat)}
theorem CR.keep (h : CR B w gT gN gL v m u rs gs nf lf tf ms) (hb : Below w.heap.size w w') : CR B w' gT gN gL v m u rs gs nf lf tf ms :=
  ⟨h.mT.keep hb, h.mN.keep hb, h.mL.keep hb, own_below h.ov hb, own_below h.ou hb, own_below h.om hb, h.n1, h.n2, h.n3, h.b1, h.b2, h.b3⟩
/-- Another block than all of these. -/
def CR.Off (gT gN gL : Nat) (v m u : Value) (x : Nat) : Prop := x ≠ gT ∧ x ≠ gN ∧ x ≠ gL ∧ v.ownBlock ≠ some x ∧ m.ownBlock ≠ some x ∧ u.ownBlock ≠ some x
theorem CR.one (h : CR B w gT gN gL v m u rs gs nf lf tf ms) {x : Nat} (o : One w w' (some x)) (hx : CR.Off gT gN gL v m u x) : CR B w' gT gN gL v m u rs gs nf lf tf ms := by
  obtain ⟨x1, x2, x3, x4, x5, x6⟩ := hx
  refine ⟨h.mT.one o (fun e => x1 (Option.some.inj e)), h.mN.one o (fun e => x2 (Option.some.inj e)), h.mL.one o (fun e => x3 (Option.some.inj e)), own_one h.ov o (fun k hk e => x4 ?_), own_one h.ou o (fun k hk e => x6 ?_), own_one h.om o (fun k hk e => x5 ?_), h.n1, h.n2, h.n3, h.b1, h.b2, h.b3⟩ <;> (rw [hk]; exact e.symm)
/-- A block of cells of no row's type. -/
theorem CR.off (h : CR B w gT gN gL v m u rs gs nf lf tf ms) {x : Nat} {cs : Array Value} {t : TypeId} {fr : Nat × Nat} (hx : w.heap[x]? = some (.cells cs t fr)) (t1 : t ≠ 138) (t2 : t ≠ 167) (t3 : t ≠ 158) : CR.Off gT gN gL v m u x := by
  refine ⟨fun e => h.mT.notCells (e ▸ hx), fun e => h.mN.notCells (e ▸ hx), fun e => h.mL.notCells (e ▸ hx), fun e => ?_, fun e => ?_, fun e => ?_⟩
  · obtain ⟨_, cur, hc⟩ := own_blk h.ov e; rw [hx] at hc; simp at hc; exact t1 hc.2.1
  · obtain ⟨_, cur, hc⟩ := own_blk h.om e; rw [hx] at hc; simp at hc; exact t3 hc.2.1
  · obtain ⟨_, cur, hc⟩ := own_blk h.ou e; rw [hx] at hc; simp at hc; exact t2 hc.2.1
/-- A block that was not there. -/
theorem CR.far (h : CR B w gT gN gL v m u rs gs nf lf tf ms) {x : Nat} (hx : w.heap.size ≤ x) : CR.Off gT gN gL v m u x := by
  have a1 := h.mT.lt
  have a2 := h.mN.lt
  have a3 := h.mL.lt
  refine ⟨by omega, by omega, by omega, fun e => ?_, fun e => ?_, fun e => ?_⟩
  · have := (h.ov.lt _ e).2; omega
  · have := (h.om.lt _ e).2; omega
  · have := (h.ou.lt _ e).2; omega
theorem CR.rowOff {e : TypeId} {size n : Nat} {y : Value} {xs : List Value} (hy : w.ownsRow B e size y n xs) {g : Nat} (hg : ∀ cs t fr, w.heap[g]? ≠ some (.cells cs t fr)) {k : Nat} (hk : y.ownBlock = some k) : some g ≠ some k := fun e' => by
  obtain ⟨_, cur, hc⟩ := own_blk hy hk
  exact hg _ _ _ ((Option.some.inj e') ▸ hc)
theorem CR.setN (h : CR B w gT gN gL v m u rs gs nf lf tf ms) (o : One w w' (some gN)) {nf' : ByteArray → Option Nat} (hm : MK w' Try.prog 9 gN Value.string intV nf') : CR B w' gT gN gL v m u rs gs nf' lf tf ms :=
  ⟨h.mT.one o (fun e => h.n1 (Option.some.inj e).symm), hm, h.mL.one o (fun e => h.n3 (Option.some.inj e)), own_one h.ov o (fun k hk => CR.rowOff h.ov (fun _ _ _ => h.mN.notCells) hk), own_one h.ou o (fun k hk => CR.rowOff h.ou (fun _ _ _ => h.mN.notCells) hk), own_one h.om o (fun k hk => CR.rowOff h.om (fun _ _ _ => h.mN.notCells) hk), h.n1, h.n2, h.n3, h.b1, h.b2, h.b3⟩
theorem CR.setL (h : CR B w gT gN gL v m u rs gs nf lf tf ms) (o : One w w' (some gL)) {lf' : Nat × Nat → Option Nat} (hm : MK w' Try.prog 136 gL labV intV lf') : CR B w' gT gN gL v m u rs gs nf lf' tf ms :=
  ⟨h.mT.one o (fun e => h.n2 (Option.some.inj e).symm), h.mN.one o (fun e => h.n3 (Option.some.inj e).symm), hm, own_one h.ov o (fun k hk => CR.rowOff h.ov (fun _ _ _ => h.mL.notCells) hk), own_one h.ou o (fun k hk => CR.rowOff h.ou (fun _ _ _ => h.mL.notCells) hk), own_one h.om o (fun k hk => CR.rowOff h.om (fun _ _ _ => h.mL.notCells) hk), h.n1, h.n2, h.n3, h.b1, h.b2, h.b3⟩
theorem CR.setT (h : CR B w gT gN gL v m u rs gs nf lf tf ms) (o : One w w' (some gT)) {tf' : Nat × Nat → Option Bool} (hm : MK w' Try.prog 158 gT markV Value.bool tf') : CR B w' gT gN gL v m u rs gs nf lf tf' ms :=
  ⟨hm, h.mN.one o (fun e => h.n1 (Option.some.inj e)), h.mL.one o (fun e => h.n2 (Option.some.inj e)), own_one h.ov o (fun k hk => CR.rowOff h.ov (fun _ _ _ => h.mT.notCells) hk), own_one h.ou o (fun k hk => CR.rowOff h.ou (fun _ _ _ => h.mT.notCells) hk), own_one h.om o (fun k hk => CR.rowOff h.om (fun _ _ _ => h.mT.notCells) hk), h.n1, h.n2, h.n3, h.b1, h.b2, h.b3⟩
/-- Two rows of different types lie apart. -/
theorem own_apart {e e' : TypeId} {size size' n n' : Nat} {x y : Value} {xs ys : List Value} (hx : w.ownsRow B e size x n xs) (hy : w.ownsRow B e' size' y n' ys) (hne : e ≠ e') : ∀ k, y.ownBlock = some k → x.ownBlock ≠ some k := fun k hk hk' => by
  obtain ⟨_, cur, hc⟩ := own_blk hx hk'
  obtain ⟨_, cur', hc'⟩ := own_blk hy hk
  rw [hc] at hc'
  simp at hc'
  exact hne hc'.2
theorem own_notMap {κ α : Type} {P : Program} {k : TypeId} {g : Nat} {kv : κ → Value} {vv : α → Value} {F : κ → Option α} (hm : MK w P k g kv vv F) {e : TypeId} {size n : Nat} {x : Value} {xs : List Value} (hx : w.ownsRow B e size x n xs) : x.ownBlock ≠ some g := fun hk => by
  obtain ⟨_, cur, hc⟩ := own_blk hx hk
  exact hm.notCells hc
theorem CR.setV (h : CR B w gT gN gL v m u rs gs nf lf tf ms) (hg : w.grownBy w' v.ownBlock) {v' : Value} {rs' : List RegL} (hown : w'.ownsRow B 138 9 v' rs'.length (regCells rs')) : CR B w' gT gN gL v' m u rs' gs nf lf tf ms :=
  have o := one_of_grown hg
  ⟨h.mT.one o (own_notMap h.mT h.ov), h.mN.one o (own_notMap h.mN h.ov), h.mL.one o (own_notMap h.mL h.ov), hown, own_one h.ou o (own_apart h.ov h.ou (by decide)), own_one h.om o (own_apart h.ov h.om (by decide)), h.n1, h.n2, h.n3, h.b1, h.b2, h.b3⟩
theorem CR.setM (h : CR B w gT gN gL v m u rs gs nf lf tf ms) (hg : w.grownBy w' m.ownBlock) {m' : Value} {ms' : List (Nat × Nat)} (hown : w'.ownsRow B 158 2 m' ms'.length (markCells ms')) : CR B w' gT gN gL v m' u rs gs nf lf tf ms' :=
  have o := one_of_grown hg
  ⟨h.mT.one o (own_notMap h.mT h.om), h.mN.one o (own_notMap h.mN h.om), h.mL.one o (own_notMap h.mL h.om), own_one h.ov o (own_apart h.om h.ov (by decide)), own_one h.ou o (own_apart h.om h.ou (by decide)), hown, h.n1, h.n2, h.n3, h.b1, h.b2, h.b3⟩
theorem CR.setU (h : CR B w gT gN gL v m u rs gs nf lf tf ms) (hg : w.grownBy w' u.ownBlock) {u' : Value} {gs' : List GeoL} (hown : w'.ownsRow B 167 6 u' gs'.length (geoCells gs')) : CR B w' gT gN gL v m u' rs gs' nf lf tf ms :=
  have o := one_of_grown hg
  ⟨h.mT.one o (own_notMap h.mT h.ou), h.mN.one o (own_notMap h.mN h.ou), h.mL.one o (own_notMap h.mL h.ou), own_one h.ov o (own_apart h.ou h.ov (by decide)), hown, own_one h.om o (own_apart h.ou h.om (by decide)), h.n1, h.n2, h.n3, h.b1, h.b2, h.b3⟩
end

/-- A configuration that the call makes, from block B on. -/
structure CB (B : Nat) (w : World) (g gT gN gL : Nat) (v m u : Value) (rs : List RegL) (ms : List (Nat × Nat)) : Prop where
  blk : w.heap[g]? = some (.cells #[v, .map (some gT), m, .map (some gN), .map (some gL), u, .int .i64 (geosOf rs).2] 155)
  b0 : B ≤ g
  cr : CR B w gT gN gL v m u rs (geosOf rs).1 (nameF rs) (labF rs) (markF ms) ms
theorem geosOf_length (rs : List RegL) : (geosOf rs).1.length = rs.length := by
  have : ∀ (l : List RegL) (s : List GeoL × Nat), (l.foldl geoStep s).1.length = s.1.length + l.length := by
    intro l
    induction l with
    | nil => intro s; rfl
    | cons r l ih => intro s; rw [List.foldl_cons, ih]; simp [geoStep]; omega
  have := this rs ([], 32)
  simpa [geosOf] using this
theorem CB.toCF {B : Nat} {w : World} {g gT gN gL : Nat} {v m u : Value} {rs : List RegL} {ms : List (Nat × Nat)} (h : CB B w g gT gN gL v m u rs ms) : CF w g gT gN gL v m u rs ms :=
  ⟨h.blk, h.cr.mT, h.cr.mN, h.cr.mL, SR.of_own h.cr.ov, by have := SR.of_own h.cr.ou; rwa [geosOf_length] at this, SR.of_own h.cr.om⟩
theorem CB.keep {B : Nat} {w w' : World} {g gT gN gL : Nat} {v m u : Value} {rs : List RegL} {ms : List (Nat × Nat)} (h : CB B w g gT gN gL v m u rs ms) (hb : Below w.heap.size w w') : CB B w' g gT gN gL v m u rs ms :=
  ⟨bkeep hb h.blk, h.b0, h.cr.keep hb⟩
end Go.Proofs.Ytapcbfeifeobhaa
