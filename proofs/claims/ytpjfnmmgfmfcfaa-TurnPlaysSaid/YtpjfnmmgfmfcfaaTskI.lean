/- Processes: Sleep, Wake. -/
import Derived.Test.YtpjfnmmgfmfcfaaTskH
set_option linter.unusedVariables false
set_option linter.unusedSimpArgs false
namespace Go.Proofs.Ytpjfnmmgfmfcfaa
open Go.RowKit
open Go.Maps (Keyed)

/-- For what a process waits. -/
structure RsL where
  cau : Nat
  nmd : Bool
  n0 : Nat
  n1 : Nat
  n2 : Nat
deriving DecidableEq
structure RsL.ok (r : RsL) : Prop where
  c : r.cau ≤ 255
  a : r.n0 ≤ 255
  b : r.n1 ≤ 65535
  d : r.n2 ≤ 65535
def rsA (r : RsL) : Array Value := #[.int .u8 r.cau, .bool r.nmd, .int .u8 r.n0, .int .u16 r.n1, .int .u16 r.n2]
def prR (p : PrL) : RsL := ⟨p.cau, p.nmd, p.n0, p.n1, p.n2⟩
theorem eqReason (r s : RsL) (hr : r.ok) (hs : s.ok) (w : World) : (Op.equalIn 10000 51 (.agg (rsA r)) (.agg (rsA s))).run Try.prog w = .ok (decide (r = s)) w := by
  have zR : Try.prog.cellsOf 51 = 5 := by kernel_rfl
  have zI : Try.prog.cellsOf 49 = 3 := by kernel_rfl
  have zC : Try.prog.cellsOf 47 = 1 := by kernel_rfl
  have z8 : Try.prog.cellsOf 5 = 1 := by kernel_rfl
  have z16 : Try.prog.cellsOf 40 = 1 := by kernel_rfl
  have zb : Try.prog.cellsOf 4 = 1 := by kernel_rfl
  have e8 : ∀ d (x : Nat), x ≤ 255 → Try.prog.keyLits (d + 1) 5 [.int .u8 (x : Int)] = some [.int .u8 x] := fun d x hx => by
    simp [Program.keyLits, Try.underlying5, show (Lit.int .u8 (x : Int)).wf = true by simp [Lit.wf, IntKind.min, IntKind.max, IntKind.bits, IntKind.signed]; omega]
  have eC : ∀ d (x : Nat), x ≤ 255 → Try.prog.keyLits (d + 1) 47 [.int .u8 (x : Int)] = some [.int .u8 x] := fun d x hx => by
    simp [Program.keyLits, Try.underlying47, show (Lit.int .u8 (x : Int)).wf = true by simp [Lit.wf, IntKind.min, IntKind.max, IntKind.bits, IntKind.signed]; omega]
  have e16 : ∀ d (x : Nat), x ≤ 65535 → Try.prog.keyLits (d + 1) 40 [.int .u16 (x : Int)] = some [.int .u16 x] := fun d x hx => by
    simp [Program.keyLits, Try.underlying40, show (Lit.int .u16 (x : Int)).wf = true by simp [Lit.wf, IntKind.min, IntKind.max, IntKind.bits, IntKind.signed]; omega]
  have eb : ∀ d (x : Bool), Try.prog.keyLits (d + 1) 4 [.bool x] = some [.bool x] := fun d x => by simp [Program.keyLits, Try.underlying4]
  have eI : ∀ d (x y z : Nat), x ≤ 255 → y ≤ 65535 → z ≤ 65535 → Try.prog.keyLits (d + 2) 49 [.int .u8 (x : Int), .int .u16 (y : Int), .int .u16 (z : Int)] = some [.int .u8 x, .int .u16 y, .int .u16 z] := by
    intro d x y z hx hy hz
    unfold Program.keyLits
    simp [Try.underlying49, zI, z8, z16, e8 d x hx, e16 d y hy, e16 d z hz]
  have key : ∀ r : RsL, r.ok → Try.prog.keyLits 3 51 (rsA r).toList = some [.int .u8 r.cau, .bool r.nmd, .int .u8 r.n0, .int .u16 r.n1, .int .u16 r.n2] := fun r h => by
    unfold Program.keyLits rsA
    simp [Try.underlying51, zR, zC, zI, zb, eC 1 _ h.c, eI 0 _ _ _ h.a h.b h.d, eb 1]
  have formed : ∀ r : RsL, (Value.agg (rsA r)).formed Try.prog 51 = true := fun r => by
    simp [Value.formed, Try.underlying51, zR, rsA]
  refine equal_key 3 (by omega) (by kernel_rfl) (formed r) (formed s) (key r hr) (key s hs) ?_
  cases r; cases s
  simp [RsL.mk.injEq]
  constructor
  · rintro ⟨h1, h2, h3, h4, h5⟩
    exact ⟨by omega, h2, by omega, by omega, by omega⟩
  · rintro ⟨h1, h2, h3, h4, h5⟩
    exact ⟨by omega, h2, by omega, by omega, by omega⟩
def sleepP (r : RsL) (u : Nat) (p : PrL) : PrL := { p with st := 2, cau := r.cau, nmd := r.nmd, n0 := r.n0, n1 := r.n1, n2 := r.n2, til := u }
theorem sleep_set (r : RsL) (u : Nat) (p : PrL) (j : Nat) : prF (sleepP r u p) j = if j = 11 then .int .u64 u else if j = 10 then .int .u16 r.n2 else if j = 9 then .int .u16 r.n1 else if j = 8 then .int .u8 r.n0 else if j = 7 then .bool r.nmd else if j = 6 then .int .u8 r.cau else if j = 5 then .int .u8 2 else prF p j := by
  by_cases h5 : j = 5
  · subst h5; rfl
  by_cases h6 : j = 6
  · subst h6; rfl
  by_cases h7 : j = 7
  · subst h7; rfl
  by_cases h8 : j = 8
  · subst h8; rfl
  by_cases h9 : j = 9
  · subst h9; rfl
  by_cases h10 : j = 10
  · subst h10; rfl
  by_cases h11 : j = 11
  · subst h11; rfl
  simp only [h5, h6, h7, h8, h9, h10, h11, if_false]
  simp only [prF, sleepP, h5, h6, h7, h8, h9, h10, h11, if_false]
/-- A process of a number is turned, if it is there and fits. -/
def updE (b : PrL → Bool) (f : PrL → PrL) (n : Nat) (t : TE) : TE := if t.pr.num = n ∧ b t.pr = true then ⟨t.blk, f t.pr⟩ else t
theorem updE_at {L : List TE} (hp : L.Pairwise fun a b => a.pr.num < b.pr.num) (b : PrL → Bool) (f : PrL → PrL) {j : Nat} (hj : j < L.length) : L.map (updE b f L[j].pr.num) = if b L[j].pr = true then L.set j ⟨L[j].blk, f L[j].pr⟩ else L := by
  apply List.ext_getElem?
  intro i
  rw [List.getElem?_map]
  by_cases hi : i < L.length
  · rw [List.getElem?_eq_getElem hi]
    by_cases e : i = j
    · subst e
      by_cases hb : b L[i].pr = true
      · rw [if_pos hb, List.getElem?_set_self hi]
        simp [updE, hb]
      · rw [if_neg hb, List.getElem?_eq_getElem hi]
        simp [updE, hb]
    · have hne : L[i].pr.num ≠ L[j].pr.num := by
        rcases Nat.lt_or_ge i j with h | h
        · have := List.pairwise_iff_getElem.1 hp i j hi hj h; omega
        · have := List.pairwise_iff_getElem.1 hp j i hj hi (by omega); omega
      have h1 : (if b L[j].pr = true then L.set j ⟨L[j].blk, f L[j].pr⟩ else L)[i]? = some L[i] := by
        split
        · rw [List.getElem?_set_ne (by omega), List.getElem?_eq_getElem hi]
        · rw [List.getElem?_eq_getElem hi]
      rw [h1]
      simp [updE, hne]
  · rw [List.getElem?_eq_none (by omega), List.getElem?_eq_none]
    · rfl
    · split
      · rw [List.length_set]; omega
      · omega
theorem updE_no {L : List TE} (b : PrL → Bool) (f : PrL → PrL) {n : Nat} (h : ∀ t ∈ L, t.pr.num ≠ n) : L.map (updE b f n) = L := by
  conv => rhs; rw [← List.map_id L]
  refine List.map_congr_left fun t ht => ?_
  unfold updE
  rw [if_neg (fun e => h t ht e.1)]
  rfl

theorem one_of_chg {w w' : World} {b : Nat} (h : Chg (fun k => k = b) w w') : One w w' (some b) := ⟨h.os, h.tape, h.output, h.size, fun k hk hr => h.block k hk (fun e => hr (by rw [e]))⟩
section
variable {B : Nat} {w0 w w' : World} {g gm : Nat} {a : Option Addr} {rs : List RegL} {T : Nat → List TE}
/-- A process of a table, by its number. -/
theorem tF_get {l n x : Nat} (ok : TOk B T) (h : tF T (l, n) = some x) : ∃ j, ∃ hj : j < (T l).length, (T l)[j].pr.num = n ∧ (T l)[j].blk = x := by
  obtain ⟨t, ht, h1, h2⟩ := tF_some h
  obtain ⟨j, hj, rfl⟩ := List.mem_iff_getElem.1 ht
  exact ⟨j, hj, h1, h2⟩
set_option maxRecDepth 20000 in
set_option maxHeartbeats 8000000 in
theorem taskSleep_in (h : TT B w g gm a T) (l n : Nat) (hl : l < 64) (hn : n ≤ 65535) (r : RsL) (hr : r.ok) (u : Nat) :
    Calls Try.prog 22 #[.pointer (some ⟨g, 0, none⟩), .agg #[.int .u8 l, .int .u16 n], .agg (rsA r), .int .u64 u] w fun e w' => e = .returned (.tuple #[]) ∧ TT B w' g gm a (setT T l ((T l).map (updE (fun p => decide (p.st = 1)) (sleepP r u) n))) ∧ Chg (tS g gm T) w w' := by
  have hbn := bnewAfter (bnew w (.cells #[.int .u8 l, .int .u16 n] 45)) (.cells #[.int .u8 r.cau, .bool r.nmd, .int .u8 r.n0, .int .u16 r.n1, .int .u16 r.n2] 51)
  have hl1 := bkeep (bnew (w.alloc (.cells #[.int .u8 l, .int .u16 n] 45)) (.cells #[.int .u8 r.cau, .bool r.nmd, .int .u8 r.n0, .int .u16 r.n1, .int .u16 r.n2] 51)) (heap_alloc_last w (.cells #[.int .u8 l, .int .u16 n] 45))
  have hl2 := heap_alloc_last (w.alloc (.cells #[.int .u8 l, .int .u16 n] 45)) (.cells #[.int .u8 r.cau, .bool r.nmd, .int .u8 r.n0, .int .u16 r.n1, .int .u16 r.n2] 51)
  rw [World.size_alloc] at hl2
  have HT := Lib.hid (h.keep hbn)
  have HB := Lib.hid hbn
  have HL1 := Lib.hid hl1
  have HL2 := Lib.hid hl2
  have c0 := rowcell hl1
  unfold rsA
  clear h hbn hl1 hl2
  go_enter Try.func22, Try.ntmps22
  go_wp2_with fail
  generalize hG : w.heap.size = G at *
  generalize (w.alloc (.cells #[.int .u8 l, .int .u16 n] 45)).alloc (.cells #[.int .u8 r.cau, .bool r.nmd, .int .u8 r.n0, .int .u16 r.n1, .int .u16 r.n2] 51) = w1 at *
  have HG := Lib.hid hG
  clear hG
  have hget := taskGet_in HT.out (l, n) (by show l ≤ 255; omega) hn
  unfold markV at hget
  refine hget.mono ?_
  rintro e w2 ⟨rfl, hb2⟩
  have HT2 := Lib.hid (HT.out.keep hb2)
  have HB2 := Lib.hid (show Below w.heap.size w w2 from by rw [HG.out]; exact HB.out.trans (hb2.mono (by have := HB.out.size; rw [HG.out] at this; exact this)))
  have HL22 := Lib.hid (bkeep hb2 HL2.out)
  obtain ⟨R, hR⟩ : ∃ R, R = G + 1 := ⟨_, rfl⟩
  rw [← hR] at HL22 ⊢
  clear hb2 c0 hget hR
  cases hf : tF T (l, n) with
  | none =>
    have hsame := updE_no (fun p => decide (p.st = 1)) (sleepP r u) (tF_none hf)
    have HSM := Lib.hid hsame
    simp only [ptrO, Option.map_none]
    clear hf hsame
    have hud : undef = Value.tuple #[] := rfl
    go_wp2_with fail
    go_end0
    rw [HSM.out, setT_self]
    exact ⟨rfl, HT2.out, Chg.of_below _ HB2.out⟩
  | some x =>
    obtain ⟨j, hj, h1, h2⟩ := tF_get HT2.out.ok hf
    have hmem : (T l)[j] ∈ T l := List.getElem_mem hj
    have hupd := updE_at (HT2.out.ok.asc l) (fun p => decide (p.st = 1)) (sleepP r u) hj
    rw [h1] at hupd
    obtain ⟨t, ht⟩ : ∃ t, t = (T l)[j] := ⟨_, rfl⟩
    rw [← ht] at h1 h2 hmem hupd
    subst h2
    have hrow := HT2.out.pr l t hmem
    have e5 : w2.cell? ⟨t.blk, 5, none⟩ = some (.int .u8 t.pr.st) := hrow.cell (i := 5) (by omega)
    simp only [ptrO, Option.map_some]
    have HR := Lib.hid hrow
    have HTT := Lib.hid ht
    have HMEM := Lib.hid hmem
    clear hf ht h1 hmem hrow
    by_cases hst : t.pr.st = 1
    · have g1 : ((t.pr.st : Int) == 1) = true := by rw [beq_iff_eq]; omega
      rw [if_pos (decide_eq_true hst)] at hupd
      have HU := Lib.hid hupd
      clear hupd hst
      have c6 : w2.cell? ⟨t.blk, 6, none⟩ = some (.int .u8 t.pr.cau) := HR.out.cell (i := 6) (by omega)
      have c7 : w2.cell? ⟨t.blk, 7, none⟩ = some (.bool t.pr.nmd) := HR.out.cell (i := 7) (by omega)
      have c8 : w2.cell? ⟨t.blk, 8, none⟩ = some (.int .u8 t.pr.n0) := HR.out.cell (i := 8) (by omega)
      have c9 : w2.cell? ⟨t.blk, 9, none⟩ = some (.int .u16 t.pr.n1) := HR.out.cell (i := 9) (by omega)
      have c10 : w2.cell? ⟨t.blk, 10, none⟩ = some (.int .u16 t.pr.n2) := HR.out.cell (i := 10) (by omega)
      have c11 : w2.cell? ⟨t.blk, 11, none⟩ = some (.int .u64 t.pr.til) := HR.out.cell (i := 11) (by omega)
      have cf := HR.out.frozen
      have cr := rowcell HL22.out
      go_wp2_with fail
      clear e5 c6 c7 c8 c9 c10 c11 cf cr g1
      have hne : R ≠ t.blk := fun e => by
        have h3 := rowIs_arr HR.out
        rw [← e] at h3
        exact absurd (cells_type HL22.out h3) (by decide)
      have HRC := Lib.hid (show ∀ w', Chg (fun k => k = t.blk) w2 w' → w'.heap[R]? = some (.cells #[.int .u8 r.cau, .bool r.nmd, .int .u8 r.n0, .int .u16 r.n1, .int .u16 r.n2] 51 (0, 0)) from fun w' h => h.blk HL22.out hne)
      refine wp_region_held (S := Chg (fun k => k = t.blk) w2) (by kernel_rfl) ?_
      change wpAnyH _ _ _ _ _ _ _ _ (World.drew _)
      have hS : Chg (fun k => k = t.blk) w2 (World.drew w2) := Chg.of_below _ (drewb w2)
      have hr3 : (World.drew w2).rowIs t.blk 63 57 (prF t.pr) := HR.out.of_block ((drewb w2).block _ HR.out.lt)
      have HR3 := Lib.hid hr3
      clear hr3
      obtain ⟨b, hb⟩ : ∃ b, b = t.blk := ⟨_, rfl⟩
      rw [← hb] at hS HR3 HRC ⊢
      have HBB := Lib.hid hb
      clear hb hne
      refine takeH 0 (.pointer (some ⟨b, 0, none⟩)) (some 21) rfl rfl (by kernel_rfl) (by kernel_rfl) (by kernel_rfl) (fun _ _ _ h => h) (.inl ⟨by kernel_rfl, fun w _ => by go_simp⟩) hS ?_
      refine takeH 1 (.pointer (some ⟨b, 0, none⟩)) (some 22) rfl rfl (by kernel_rfl) (by kernel_rfl) (by kernel_rfl) (fun _ _ _ h => h) (.inl ⟨by kernel_rfl, fun w _ => by go_simp⟩) hS ?_
      refine takeH 2 (.pointer (some ⟨b, 0, none⟩)) (some 23) rfl rfl (by kernel_rfl) (by kernel_rfl) (by kernel_rfl) (fun _ _ _ h => h) (.inl ⟨by kernel_rfl, fun w _ => by go_simp⟩) hS ?_
      refine takeH 3 (.agg #[.int .u8 r.cau, .bool r.nmd, .int .u8 r.n0, .int .u16 r.n1, .int .u16 r.n2]) (some 24) rfl rfl (by kernel_rfl) (by kernel_rfl) (by kernel_rfl) (fun _ _ _ h => h) (yi_piece (by kernel_rfl) 51 _ rfl R 0 (by go_simp) #[.int .u8 r.cau, .bool r.nmd, .int .u8 r.n0, .int .u16 r.n1, .int .u16 r.n2] _ (fun w hw j v hv => by rw [Nat.zero_add, rowcell (HRC.out w hw)]; simpa using hv) Try.underlying51 rfl (by kernel_rfl)) hS ?_
      refine takeH 4 (.int .u64 u) (some 25) rfl rfl (by kernel_rfl) (by kernel_rfl) (by kernel_rfl) (fun _ _ _ h => h) (.inl ⟨by kernel_rfl, fun w _ => by go_simp⟩) hS ?_
      refine takeH 5 (.pointer (some ⟨b, 0, none⟩)) (some 26) rfl rfl (by kernel_rfl) (by kernel_rfl) (by kernel_rfl) (fun _ _ _ h => h) (.inl ⟨by kernel_rfl, fun w _ => by go_simp⟩) hS ?_
      refine takeH 6 (.pointer (some ⟨b, 5, none⟩)) (some 27) rfl rfl (by kernel_rfl) (by kernel_rfl) (by kernel_rfl) (fun _ _ _ h => h) (.inl ⟨by kernel_rfl, fun w _ => by go_simp⟩) hS ?_
      have o4 := one_setCell (World.drew w2) b 5 (.int .u8 2)
      have HR4 := Lib.hid (HR3.out.set 5 (.int .u8 2))
      have hS4 : Chg (fun k => k = b) w2 ((World.drew w2).setCell ⟨b, 5, none⟩ (.int .u8 2)) := hS.trans (Chg.of_one (S := fun k => k = b) o4 rfl) (fun _ _ h => h)
      refine runSkipH 7 rfl (by kernel_rfl) (by kernel_rfl) rfl (exec_store_cell 46 _ _ rfl b 5 (.int .u8 2) (by go_simp) (by go_simp) (by kernel_rfl) (by kernel_rfl) rfl (by rw [HR3.out.cell (i := 5) (by omega)]; rfl) (HR3.out.frozen 5)) hS4 ?_
      generalize (World.drew w2).setCell ⟨b, 5, none⟩ (.int .u8 2) = w4 at *
      refine takeH 8 (.pointer (some ⟨b, 0, none⟩)) (some 28) rfl rfl (by kernel_rfl) (by kernel_rfl) (by kernel_rfl) (fun _ _ _ h => h) (.inl ⟨by kernel_rfl, fun w _ => by go_simp⟩) hS4 ?_
      refine takeH 9 (.pointer (some ⟨b, 6, none⟩)) (some 29) rfl rfl (by kernel_rfl) (by kernel_rfl) (by kernel_rfl) (fun _ _ _ h => h) (.inl ⟨by kernel_rfl, fun w _ => by go_simp⟩) hS4 ?_
      have o5 := One.setCells [.int .u8 r.cau, .bool r.nmd, .int .u8 r.n0, .int .u16 r.n1, .int .u16 r.n2] 6 (One.refl w4 (some b))
      have HR5 := Lib.hid (rowIs_setCells [.int .u8 r.cau, .bool r.nmd, .int .u8 r.n0, .int .u16 r.n1, .int .u16 r.n2] 6 _ _ HR4.out)
      have hS5 : Chg (fun k => k = b) w2 (w4.setCells b 6 [.int .u8 r.cau, .bool r.nmd, .int .u8 r.n0, .int .u16 r.n1, .int .u16 r.n2]) := hS4.trans (Chg.of_one (S := fun k => k = b) o5 rfl) (fun _ _ h => h)
      refine runSkipH 10 rfl (by kernel_rfl) (by kernel_rfl) rfl (exec_store_agg 51 _ _ rfl b 6 #[.int .u8 r.cau, .bool r.nmd, .int .u8 r.n0, .int .u16 r.n1, .int .u16 r.n2] (by go_simp) (by go_simp) (by kernel_rfl) (fun j hj => by rw [HR4.out.cell (i := 6 + j) (by simp at hj; omega)]; rfl) (fun j hj => HR4.out.frozen _) (by simp [Value.oneCell'])) hS5 ?_
      change wpAnyH _ _ _ _ _ _ _ _ (w4.setCells b 6 [.int .u8 r.cau, .bool r.nmd, .int .u8 r.n0, .int .u16 r.n1, .int .u16 r.n2])
      generalize w4.setCells b 6 [.int .u8 r.cau, .bool r.nmd, .int .u8 r.n0, .int .u16 r.n1, .int .u16 r.n2] = w5 at *
      refine takeH 11 (.pointer (some ⟨b, 0, none⟩)) (some 30) rfl rfl (by kernel_rfl) (by kernel_rfl) (by kernel_rfl) (fun _ _ _ h => h) (.inl ⟨by kernel_rfl, fun w _ => by go_simp⟩) hS5 ?_
      refine takeH 12 (.pointer (some ⟨b, 11, none⟩)) (some 31) rfl rfl (by kernel_rfl) (by kernel_rfl) (by kernel_rfl) (fun _ _ _ h => h) (.inl ⟨by kernel_rfl, fun w _ => by go_simp⟩) hS5 ?_
      have o6 := one_setCell w5 b 11 (.int .u64 u)
      have HR6 := Lib.hid (HR5.out.set 11 (.int .u64 u))
      have hS6 : Chg (fun k => k = b) w2 (w5.setCell ⟨b, 11, none⟩ (.int .u64 u)) := hS5.trans (Chg.of_one (S := fun k => k = b) o6 rfl) (fun _ _ h => h)
      refine runSkipH 13 rfl (by kernel_rfl) (by kernel_rfl) rfl (exec_store_cell 52 _ _ rfl b 11 (.int .u64 u) (by go_simp) (by go_simp) (by kernel_rfl) (by kernel_rfl) rfl (by rw [HR5.out.cell (i := 11) (by omega)]; rfl) (HR5.out.frozen 11)) hS6 ?_
      refine wpAnyH_done (by kernel_rfl) ?_ _
      go_simp
      go_wp2_with fail
      go_end0
      have hb := HBB.out
      subst hb
      have hrow : (w5.setCell ⟨t.blk, 11, none⟩ (.int .u64 u)).rowIs t.blk 63 57 (prF (sleepP r u t.pr)) := HR6.out.congr (fun i hi => by
        rw [sleep_set]
        by_cases h11 : i = 11
        · rw [if_pos h11, if_pos h11]
        rw [if_neg h11, if_neg h11]
        by_cases hin : 6 ≤ i ∧ i < 11
        · rw [if_pos (by simpa using hin)]
          rcases (show i = 6 ∨ i = 7 ∨ i = 8 ∨ i = 9 ∨ i = 10 by omega) with rfl | rfl | rfl | rfl | rfl <;> rfl
        · rw [if_neg (by simpa using hin)]
          have n6 : ¬ i = 6 := by omega
          have n7 : ¬ i = 7 := by omega
          have n8 : ¬ i = 8 := by omega
          have n9 : ¬ i = 9 := by omega
          have n10 : ¬ i = 10 := by omega
          simp only [n6, n7, n8, n9, n10, if_false])
      have ho : One w2 (w5.setCell ⟨t.blk, 11, none⟩ (.int .u64 u)) (some t.blk) := one_of_chg hS6
      have hT := HT2.out.setAt' rfl hj HTT.out.symm (p' := sleepP r u t.pr) rfl rfl ho hrow
      rw [HU.out]
      exact ⟨rfl, hT, (Chg.of_below _ HB2.out).trans (Chg.of_one (S := tS g gm T) ho (.inr (.inr ⟨l, t, HMEM.out, rfl⟩))) (fun _ _ h => h)⟩
    · have g1 : ((t.pr.st : Int) == 1) = false := by rw [beq_eq_false_iff_ne]; omega
      rw [if_neg (by simpa using hst)] at hupd
      have HU := Lib.hid hupd
      clear hupd hst
      go_wp2_with fail
      go_end0
      rw [HU.out, setT_self]
      exact ⟨rfl, HT2.out, Chg.of_below _ HB2.out⟩

def rsB (r : RsL) (p : PrL) : Bool := decide (p.st = 2) && decide (prR p = r)
end
end Go.Proofs.Ytpjfnmmgfmfcfaa
