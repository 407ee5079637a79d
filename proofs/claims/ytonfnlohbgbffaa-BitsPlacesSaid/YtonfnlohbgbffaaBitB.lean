/- Bits: Has, Set. -/
import Derived.Test.YtonfnlohbgbffaaBitA
set_option linter.unusedVariables false
set_option linter.unusedSimpArgs false
namespace Go.Proofs.Ytonfnlohbgbffaa
open Go.RowKit
open Go.Maps (Keyed)

theorem and_bit (x r : Nat) (hx : x ≤ 255) (hr : r < 8) : (bits .and .u8 (x : Int) ((2 ^ r : Nat) : Int) != 0) = x.testBit r := by
  have key : ∀ y : Fin 256, ∀ r : Fin 8, (bits .and .u8 ((y.val : Nat) : Int) ((2 ^ r.val : Nat) : Int) != 0) = y.val.testBit r.val := of_decide_eq_true (by kernel_rfl)
  exact key ⟨x, by omega⟩ ⟨r, hr⟩
theorem xor_bit (x r : Nat) (hx : x ≤ 255) (hr : r < 8) : bits .xor .u8 (x : Int) ((2 ^ r : Nat) : Int) = ((x ^^^ 2 ^ r : Nat) : Int) ∧ x ^^^ 2 ^ r ≤ 255 := by
  have key : ∀ y : Fin 256, ∀ r : Fin 8, bits .xor .u8 ((y.val : Nat) : Int) ((2 ^ r.val : Nat) : Int) = ((y.val ^^^ 2 ^ r.val : Nat) : Int) ∧ y.val ^^^ 2 ^ r.val ≤ 255 := of_decide_eq_true (by kernel_rfl)
  exact key ⟨x, by omega⟩ ⟨r, hr⟩
/-- A bit of blocks from one on. -/
def bitV (V : Nat → Nat → Nat) (first i : Nat) : Bool := (V (first + i / 512) (i / 8 % 64)).testBit (i % 8)
/-- A map of bits, its transaction. -/
structure BX (w : World) (gd gb gl gt gm g n lf first many : Nat) (F : Int → Option (Nat → Nat)) (bad : Int) (D : Nat → Nat → Nat) (left : Int) (dead : Bool) : Prop where
  tx : TX w gd gb gl gt gm n lf F bad D left dead
  bm : w.rowIs g 137 3 (bmF gt first many)
  h1 : first ≤ 65536
  h2 : many ≤ 65536
section
variable {W w w' : World} {gd gb gl gt gm n lf first many g : Nat} {F : Int → Option (Nat → Nat)} {bad : Int} {D : Nat → Nat → Nat} {left : Int} {dead : Bool}
theorem viewB_u8 (h : TX w gd gb gl gt gm n lf F bad D left dead) (k i : Nat) : viewB F D k i ≤ 255 := by
  unfold viewB
  cases hf : F (k : Int) with
  | none => exact h.lx.dx.u8 k i
  | some f => exact (h.ok _ _ hf).1 i
theorem BX.keep (h : BX w gd gb gl gt gm g n lf first many F bad D left dead) (hb : Below w.heap.size w w') : BX w' gd gb gl gt gm g n lf first many F bad D left dead := ⟨h.tx.keep hb, rowIs_below h.bm hb, h.h1, h.h2⟩
theorem BX.ne (h : BX w gd gb gl gt gm g n lf first many F bad D left dead) : g ≠ gd ∧ g ≠ gb ∧ g ≠ gl ∧ g ≠ gt ∧ g ≠ gm := by
  have h1 := h.tx.lx.dx.ne h.bm (by decide) (by decide)
  exact ⟨h1.1, h1.2, rowIs_ne h.bm h.tx.lx.lg (by decide), rowIs_ne h.bm h.tx.tx (by decide), h.tx.mp.notCells h.bm⟩
theorem BX.step (h : BX w gd gb gl gt gm g n lf first many F bad D left dead) {S : Nat → Prop} {F' : Int → Option (Nat → Nat)} {bad' : Int} {D' : Nat → Nat → Nat} {left' : Int} {dead' : Bool}
    (ht : TX w' gd gb gl gt gm n lf F' bad' D' left' dead') (c : Chg S w w') (hS : ¬ S g) : BX w' gd gb gl gt gm g n lf first many F' bad' D' left' dead' := ⟨ht, c.row h.bm hS, h.h1, h.h2⟩
theorem BX.c0 (h : BX w gd gb gl gt gm g n lf first many F bad D left dead) : w.cell? ⟨g, 0, none⟩ = some (.iface 42 (.pointer (some ⟨gt, 0, none⟩))) := h.bm.cell (i := 0) (by omega)
theorem BX.c1 (h : BX w gd gb gl gt gm g n lf first many F bad D left dead) : w.cell? ⟨g, 1, none⟩ = some (.int .i64 first) := h.bm.cell (i := 1) (by omega)
theorem BX.c2 (h : BX w gd gb gl gt gm g n lf first many F bad D left dead) : w.cell? ⟨g, 2, none⟩ = some (.int .i64 many) := h.bm.cell (i := 2) (by omega)
theorem BX.drewN (h : BX w gd gb gl gt gm g n lf first many F bad D left dead) (k : Nat) : BX (w.drewN k) gd gb gl gt gm g n lf first many F bad D left dead := h.keep (bdrewN (Below.refl _ _) k)
theorem BX.lt (h : BX w gd gb gl gt gm g n lf first many F bad D left dead) : g < w.heap.size := h.bm.lt
theorem BX.newOne (h : BX w gd gb gl gt gm g n lf first many F bad D left dead) {w0 : World} {x : Nat} (o : One w w' (some x)) (hb : w0.heap.size ≤ x) (hg : g < w0.heap.size) (h0 : gd < w0.heap.size ∧ gb < w0.heap.size ∧ gl < w0.heap.size ∧ gt < w0.heap.size ∧ gm < w0.heap.size) : BX w' gd gb gl gt gm g n lf first many F bad D left dead :=
  ⟨h.tx.newOne o hb h0, rowIs_one h.bm o (by omega), h.h1, h.h2⟩
def gset (g : Nat) (k : Nat) : Prop := k = g

set_option maxRecDepth 20000 in
set_option maxHeartbeats 2000000 in
theorem bitsHas_ok (h : BX w gd gb gl gt gm g n lf first many F bad D left dead) (i : Nat) (hi : i < many) (hn : first + i / 512 < n) :
    Calls Try.prog 30 #[.pointer (some ⟨g, 0, none⟩), .int .i64 i] w fun e w' => e = .returned (.tuple #[.bool (bitV (viewB F D) first i), .int .i64 0]) ∧ BX w' gd gb gl gt gm g n lf first many F bad D left dead ∧ Chg (dset gd gb) w w' := by
  have H := Lib.hid h
  have c0 := h.c0
  have c1 := h.c1
  have c2 := h.c2
  have hm := h.h2
  have f1 : (i : Int) < many := by omega
  have hpl := bitsPlace_in h.bm i (by omega) h.h1
  have hv := viewB_u8 h.tx (first + i / 512) (i / 8 % 64)
  have ha := and_bit _ (i % 8) hv (by omega)
  obtain ⟨hb, hhb⟩ : ∃ c, c = bitV (viewB F D) first i := ⟨_, rfl⟩
  rw [show ((viewB F D (first + i / 512) (i / 8 % 64)).testBit (i % 8)) = hb from hhb.symm] at ha
  rw [← hhb]
  obtain ⟨b, hbb⟩ : ∃ b, b = 2 ^ (i % 8) := ⟨_, rfl⟩
  obtain ⟨q, hq⟩ : ∃ q, q = i / 8 % 64 := ⟨_, rfl⟩
  obtain ⟨p, hp⟩ : ∃ p, p = first + i / 512 := ⟨_, rfl⟩
  rw [← hbb, ← hq, ← hp] at hpl
  rw [← hbb, ← hq, ← hp] at ha
  rw [← hp] at hn
  obtain ⟨x, hx⟩ : ∃ x, x = viewB F D p q := ⟨_, rfl⟩
  rw [← hx] at ha
  have HX := Lib.hid hx
  have HPL := Lib.hid hpl
  have hq64 : q < 64 := by omega
  have HG := Lib.hid (show g < w.heap.size ∧ gd < w.heap.size ∧ gb < w.heap.size ∧ ¬ dset gd gb g from ⟨h.lt, h.tx.lt.1, h.tx.lt.2.1, fun e => by have := h.ne; rcases e with e | e; exact this.1 e; exact this.2.1 e⟩)
  clear h hv hhb hbb hq hp hpl hx
  go_enter Try.func30, Try.ntmps30
  go_wp2_with fail
  refine HPL.out.mono ?_
  rintro e w1 ⟨rfl, k, rfl⟩
  have H1 := Lib.hid (H.out.drewN k)
  go_wp2_with fail
  refine (txnGet_ok H1.out.tx p hn).mono ?_
  rintro e w2 ⟨rfl, ht2, hc2⟩
  have H2 := Lib.hid (H1.out.step ht2 hc2 HG.out.2.2.2)
  have HC2 := Lib.hid (((Chg.refl (dset gd gb) w).drewN k).trans hc2 (fun _ _ h => h))
  clear ht2 hc2 c0 c1 c2
  go_wp2_with (first
    | (refine wpList_new_row rfl 52 rfl (some 9) rfl 64 _ page_zero ?_; intro w3 G hg3 hr3 hb3; have HG3 := Lib.hid (Nat.le_trans HC2.out.size hg3); have HR3 := Lib.hid hr3; have H3 := Lib.hid (H2.out.keep hb3); have HC3 := Lib.hid (HC2.out.next hb3); clear hg3 hr3 hb3)
    | (refine wpList_row_store rfl 52 (.tmp 9) (.tmp 39) rfl rfl G 64 _ (pgC (viewB F D p)) (by go_simp) (by go_simp; rfl) HR3.out (fun _ _ => rfl) block_size ?_; intro w4 hr4 o4; have c3 : w4.cell? ⟨G, q, none⟩ = some (.int .u8 x) := by { rw [HX.out]; exact hr4.cell hq64 }
       have HC4 := Lib.hid (HC3.out.one o4 (.inr HG3.out)); have hx4 : BX w4 gd gb gl gt gm g n lf first many F bad D left dead := H3.out.newOne o4 HG3.out HG.out.1 H.out.tx.lt; have H4 := Lib.hid hx4; clear hr4 o4 hx4))
  go_ret2
  exact ⟨rfl, H4.out, HC4.out⟩
set_option maxRecDepth 20000 in
set_option maxHeartbeats 2000000 in
theorem bitsHas_range (h : BX w gd gb gl gt gm g n lf first many F bad D left dead) (x : Int) (hx : x < 0 ∨ (many : Int) ≤ x) :
    Calls Try.prog 30 #[.pointer (some ⟨g, 0, none⟩), .int .i64 x] w fun e w' => e = .returned (.tuple #[.bool false, .int .i64 27]) ∧ w' = w := by
  have c2 := h.c2
  clear h
  by_cases h0 : x < 0
  · clear hx
    go_enter Try.func30, Try.ntmps30
    go_wp2_with fail
    go_ret2
    exact ⟨rfl, rfl⟩
  · have f1 : (many : Int) ≤ x := by omega
    clear hx
    go_enter Try.func30, Try.ntmps30
    go_wp2_with fail
    go_ret2
    exact ⟨rfl, rfl⟩
set_option maxRecDepth 20000 in
set_option maxHeartbeats 2000000 in
theorem bitsSet_range (h : BX w gd gb gl gt gm g n lf first many F bad D left dead) (x : Int) (hx : x < 0 ∨ (many : Int) ≤ x) (on : Bool) :
    Calls Try.prog 25 #[.pointer (some ⟨g, 0, none⟩), .int .i64 x, .bool on] w fun e w' => e = .returned (.int .i64 27) ∧ w' = w := by
  have c2 := h.c2
  clear h
  by_cases h0 : x < 0
  · clear hx
    go_enter Try.func25, Try.ntmps25
    go_wp2_with fail
    go_ret
    exact ⟨rfl, rfl⟩
  · have f1 : (many : Int) ≤ x := by omega
    clear hx
    go_enter Try.func25, Try.ntmps25
    go_wp2_with fail
    go_ret
    exact ⟨rfl, rfl⟩
def flipB (f : Nat → Nat) (q r : Nat) (j : Nat) : Nat := if j = q then f j ^^^ 2 ^ r else f j
/-- What a transaction has behind Set. -/
def setFn (F : Int → Option (Nat → Nat)) (D : Nat → Nat → Nat) (first i : Nat) (on : Bool) : Int → Option (Nat → Nat) :=
  if bitV (viewB F D) first i = on then F else putF F ((first + i / 512 : Nat) : Int) (flipB (viewB F D (first + i / 512)) (i / 8 % 64) (i % 8))
theorem viewB_put (F : Int → Option (Nat → Nat)) (D : Nat → Nat → Nat) (p : Nat) (f : Nat → Nat) (k : Nat) : viewB (putF F (p : Int) f) D k = if k = p then f else viewB F D k := by
  unfold viewB putF
  by_cases h : k = p
  · subst h; rw [if_pos rfl, if_pos rfl]; rfl
  · rw [if_neg (by omega), if_neg h]
theorem bitV_set (F : Int → Option (Nat → Nat)) (D : Nat → Nat → Nat) (first i : Nat) (on : Bool) (j : Nat) :
    bitV (viewB (setFn F D first i on) D) first j = if j = i then on else bitV (viewB F D) first j := by
  unfold setFn
  by_cases h : bitV (viewB F D) first i = on
  · rw [if_pos h]
    by_cases hj : j = i
    · rw [if_pos hj, hj, h]
    · rw [if_neg hj]
  · rw [if_neg h]
    unfold bitV at h ⊢
    rw [viewB_put]
    by_cases h1 : j / 512 = i / 512
    · rw [if_pos (by omega)]
      unfold flipB
      by_cases h2 : j / 8 % 64 = i / 8 % 64
      · rw [if_pos h2, Nat.testBit_xor, Nat.testBit_two_pow, h2]
        by_cases h3 : j % 8 = i % 8
        · rw [if_pos (by omega), h3]
          simp only [decide_true, Bool.xor_true]
          cases hx : (viewB F D (first + i / 512) (i / 8 % 64)).testBit (i % 8) <;> cases on <;> simp_all
        · rw [if_neg (by omega), h1]
          have : decide (i % 8 = j % 8) = false := by simp; omega
          rw [this]
          simp
      · rw [if_neg h2, if_neg (by omega), h1]
    · rw [if_neg (by omega), if_neg (by omega)]
def sset (gd gb gm : Nat) (k : Nat) : Prop := dset gd gb k ∨ k = gm
set_option maxRecDepth 100000 in
set_option maxHeartbeats 4000000 in
theorem bitsSet_ok (h : BX w gd gb gl gt gm g n lf first many F bad D left dead) (i : Nat) (hi : i < many) (hn : first + i / 512 < n) (hr : first + i / 512 < lf ∨ lf + 30 < first + i / 512) (hN : F ((first + i / 512 : Nat) : Int) ≠ none ∨ mapN w gm ≠ 30) (on : Bool) :
    Calls Try.prog 25 #[.pointer (some ⟨g, 0, none⟩), .int .i64 i, .bool on] w fun e w' => e = .returned (.int .i64 0) ∧ BX w' gd gb gl gt gm g n lf first many (setFn F D first i on) bad D left dead ∧ Chg (sset gd gb gm) w w' := by
  have H := Lib.hid h
  have c0 := h.c0
  have c1 := h.c1
  have c2 := h.c2
  have hm := h.h2
  have f1 : (i : Int) < many := by omega
  have hpl := bitsPlace_in h.bm i (by omega) h.h1
  have hv := viewB_u8 h.tx (first + i / 512) (i / 8 % 64)
  have ha := and_bit _ (i % 8) hv (by omega)
  have hxo := xor_bit _ (i % 8) hv (by omega)
  have HVU := Lib.hid (fun k i => viewB_u8 h.tx k i)
  obtain ⟨hb, hhb⟩ : ∃ c, c = bitV (viewB F D) first i := ⟨_, rfl⟩
  rw [show ((viewB F D (first + i / 512) (i / 8 % 64)).testBit (i % 8)) = hb from hhb.symm] at ha
  have HSF := Lib.hid (show setFn F D first i on = if hb = on then F else putF F ((first + i / 512 : Nat) : Int) (flipB (viewB F D (first + i / 512)) (i / 8 % 64) (i % 8)) by unfold setFn; rw [← hhb])
  obtain ⟨sf, hsf⟩ : ∃ f, f = setFn F D first i on := ⟨_, rfl⟩
  rw [← hsf] at HSF ⊢
  obtain ⟨b, hbb⟩ : ∃ b, b = 2 ^ (i % 8) := ⟨_, rfl⟩
  obtain ⟨r, hr'⟩ : ∃ r, r = i % 8 := ⟨_, rfl⟩
  obtain ⟨q, hq⟩ : ∃ q, q = i / 8 % 64 := ⟨_, rfl⟩
  obtain ⟨p, hp⟩ : ∃ p, p = first + i / 512 := ⟨_, rfl⟩
  rw [← hbb, ← hq, ← hp] at hpl
  rw [← hbb, ← hq, ← hp] at ha
  rw [← hbb, ← hq, ← hp] at hxo
  rw [← hp] at hn hr hN
  rw [← hq, ← hp, ← hr'] at HSF
  obtain ⟨x, hx⟩ : ∃ x, x = viewB F D p q := ⟨_, rfl⟩
  rw [← hx] at ha hxo
  obtain ⟨y, hy⟩ : ∃ y, y = x ^^^ b := ⟨_, rfl⟩
  rw [← hy] at hxo
  have hxo1 := hxo.1
  have HY := Lib.hid (show y = flipB (viewB F D p) q r q ∧ y ≤ 255 by
    unfold flipB
    rw [if_pos rfl, ← hx, hy, hbb, hr']
    exact ⟨rfl, by rw [← hbb, ← hy]; exact hxo.2⟩)
  have HX := Lib.hid hx
  have HPL := Lib.hid hpl
  have HN := Lib.hid hN
  have HLR := Lib.hid hr
  have hq64 : q < 64 := by omega
  have HG := Lib.hid (show g < w.heap.size ∧ gd < w.heap.size ∧ gb < w.heap.size ∧ ¬ dset gd gb g from ⟨h.lt, h.tx.lt.1, h.tx.lt.2.1, fun e => by have := h.ne; rcases e with e | e; exact this.1 e; exact this.2.1 e⟩)
  have HGM := Lib.hid (show g ≠ gm ∧ gm < w.heap.size ∧ ¬ dset gd gb gm from ⟨h.ne.2.2.2.2, h.tx.lt.2.2.2.2, fun e => by have := h.tx.ne; rcases e with e | e; exact this.2.1 e; exact this.2.2.1 e⟩)
  clear h hv hhb hbb hq hp hpl hx hsf hxo hy hr' hN hr
  go_enter Try.func25, Try.ntmps25
  go_wp2_with fail
  refine HPL.out.mono ?_
  rintro e w1 ⟨rfl, k, rfl⟩
  have H1 := Lib.hid (H.out.drewN k)
  go_wp2_with fail
  refine (txnGet_ok H1.out.tx p hn).mono ?_
  rintro e w2 ⟨rfl, ht2, hc2⟩
  have H2 := Lib.hid (H1.out.step ht2 hc2 HG.out.2.2.2)
  have HMN := Lib.hid (mapN_keep (hc2.block gm H1.out.tx.mp.mp.lt HGM.out.2.2))
  have HC2 := Lib.hid (((Chg.refl (dset gd gb) w).drewN k).trans hc2 (fun _ _ h => h))
  clear ht2 hc2 c0 c1 c2
  go_wp2_with (with_reducible refine wpList_stop (some 10) rfl ?_)
  refine Lib.hid ?_
  refine wpList_new_row rfl 52 rfl (some 10) rfl 64 _ page_zero ?_
  intro w3 G hg3 hr3 hb3
  have HG3 := Lib.hid (Nat.le_trans HC2.out.size hg3)
  have HR3 := Lib.hid hr3
  have H3 := Lib.hid (H2.out.keep hb3)
  have HC3 := Lib.hid (HC2.out.next hb3)
  have HMN3 := Lib.hid ((mapN_keep (hb3.block gm H2.out.tx.mp.mp.lt)).trans HMN.out)
  clear hg3 hr3 hb3
  refine wpList_row_store rfl 52 (.tmp 10) (.tmp 40) rfl rfl G 64 _ (pgC (viewB F D p)) (by go_simp) (by go_simp; rfl) HR3.out (fun _ _ => rfl) block_size ?_
  intro w4 hr4 o4
  have c3 : w4.cell? ⟨G, q, none⟩ = some (.int .u8 x) := by rw [HX.out]; exact hr4.cell hq64
  have df := hr4.frozen
  have HR4 := Lib.hid hr4
  have HC4 := Lib.hid (HC3.out.one o4 (.inr HG3.out))
  have HMN4 := Lib.hid ((mapN_keep (o4.block gm H3.out.tx.mp.mp.lt (fun e => by have h1 := HGM.out.2.1; have h2 := HG3.out; cases e; omega))).trans HMN3.out)
  have hx4 : BX w4 gd gb gl gt gm g n lf first many F bad D left dead := H3.out.newOne o4 HG3.out HG.out.1 H.out.tx.lt
  have H4 := Lib.hid hx4
  clear hr4 o4 hx4
  by_cases hon : hb = on
  · have HE := Lib.hid (show sf = F by rw [HSF.out, if_pos hon])
    subst hon
    clear HSF
    cases hb
    all_goals
      go_wp2_with fail
      go_ret
      rw [HE.out]
      exact ⟨rfl, H4.out, HC4.out.mono (fun _ _ h => .inl h)⟩
  · have HE := Lib.hid (show sf = putF F (p : Int) (flipB (viewB F D p) q r) by rw [HSF.out, if_neg hon])
    clear HSF
    cases hb <;> cases on
    case neg.false.false => exact absurd rfl hon
    case neg.true.true => exact absurd rfl hon
    all_goals
      clear hon
      go_wp2_with fail
      have h5 := (HR4.out.set q (.int .u8 y)).congr (g := pgC (flipB (viewB F D p) q r)) (fun j hj => by
        unfold pgC
        by_cases e : j = q
        · rw [if_pos e, e, ← HY.out.1]
        · rw [if_neg e]; unfold flipB; rw [if_neg e])
      have o5 := one_setCell w4 G q (.int .u8 (y : Int))
      have HR5 := Lib.hid h5
      have HC5 := Lib.hid (HC4.out.one o5 (.inr HG3.out))
      have HMN5 := Lib.hid ((mapN_keep (o5.block gm H4.out.tx.mp.mp.lt (fun e => by have h1 := HGM.out.2.1; have h2 := HG3.out; cases e; omega))).trans HMN4.out)
      have hx5 : BX (w4.setCell ⟨G, q, none⟩ (.int .u8 y)) gd gb gl gt gm g n lf first many F bad D left dead := H4.out.newOne o5 HG3.out HG.out.1 H.out.tx.lt
      have H5 := Lib.hid hx5
      clear h5 o5 hx5 c3 df
      generalize w4.setCell ⟨G, q, none⟩ (.int .u8 y) = w5 at *
      have hS : (World.drew w5).rowIs g 137 3 (bmF gt first many) ∧ (World.drew w5).rowIs G 52 64 (pgC (flipB (viewB F D p) q r)) := ⟨H5.out.bm, HR5.out⟩
      refine wp_region_held (S := fun w' => w'.rowIs g 137 3 (bmF gt first many) ∧ w'.rowIs G 52 64 (pgC (flipB (viewB F D p) q r))) (by kernel_rfl) ?_
      change wpAnyH _ _ _ _ _ _ _ _ (World.drew _)
      refine takeH 0 (.pointer (some ⟨g, 0, none⟩)) (some 59) rfl rfl (by kernel_rfl) (by kernel_rfl) (by kernel_rfl) (fun _ _ _ h => h) (.inl ⟨by kernel_rfl, fun w _ => by go_simp⟩) hS ?_
      refine takeH 1 (.pointer (some ⟨g, 0, none⟩)) (some 60) rfl rfl (by kernel_rfl) (by kernel_rfl) (by kernel_rfl) (fun _ _ _ h => h) (.inl ⟨by kernel_rfl, fun w _ => by go_simp⟩) hS ?_
      refine takeH 2 (.pointer (some ⟨g, 0, none⟩)) (some 61) rfl rfl (by kernel_rfl) (by kernel_rfl) (by kernel_rfl) (fun _ _ _ h => h) (.inl ⟨by kernel_rfl, fun w _ => by go_simp⟩) hS ?_
      refine takeH 3 (.iface 42 (.pointer (some ⟨gt, 0, none⟩))) (some 62) rfl rfl (by kernel_rfl) (by kernel_rfl) (by kernel_rfl) (fun _ _ _ h => h) (.inl ⟨by kernel_rfl, fun w hw => by have hc : w.cell? ⟨g, 0, none⟩ = some (.iface 42 (.pointer (some ⟨gt, 0, none⟩))) := hw.1.cell (i := 0) (by omega); go_simp⟩) hS ?_
      refine takeH 4 (.int .i64 p) (some 63) rfl rfl (by kernel_rfl) (by kernel_rfl) (by kernel_rfl) (fun _ _ _ h => h) (.inl ⟨by kernel_rfl, fun w _ => by go_simp⟩) hS ?_
      refine takeH 5 (.agg (rowArr 64 (pgC (flipB (viewB F D p) q r)))) (some 64) rfl rfl (by kernel_rfl) (by kernel_rfl) (by kernel_rfl) (fun _ _ _ h => h) (yi_row (by kernel_rfl) 52 (.tmp 10) rfl G 64 _ (by go_simp) (fun w hw => hw.2) _ block_under rfl block_size) hS ?_
      have HFU := Lib.hid (show ∀ j, flipB (viewB F D p) q r j ≤ 255 from fun j => by
        by_cases e : j = q
        · rw [e, ← HY.out.1]; exact HY.out.2
        · unfold flipB; rw [if_neg e]; exact HVU.out p j)
      have HND := Lib.hid (show mapN (World.drew w5) gm = mapN w gm from HMN5.out)
      refine callH 6 rfl (by kernel_rfl) (by kernel_rfl) (some 65) rfl 34 #[.pointer (some ⟨gt, 0, none⟩), .int .i64 p, pageV (flipB (viewB F D p) q r)] ?hrun ((txnPut_ok (H5.out.keep (drewb w5)).tx p hn HLR.out (by rw [HND.out]; exact HN.out) HFU.out).mono ?_)
      case hrun => go_simp; rfl
      rintro e w6 ⟨rfl, ht6, hc6⟩
      have hgm := HGM.out
      have hG3 := HG3.out
      have H6 := Lib.hid ((H5.out.keep (drewb w5)).step ht6 hc6 hgm.1)
      have hC : Chg (sset gd gb gm) w w6 := ((HC5.out.drewN 1).mono (T := sset gd gb gm) (fun _ _ h => .inl h)).trans hc6 (fun _ _ h => .inr h)
      have HC6 := Lib.hid hC
      have hS6 : w6.rowIs g 137 3 (bmF gt first many) ∧ w6.rowIs G 52 64 (pgC (flipB (viewB F D p) q r)) := ⟨H6.out.bm, hc6.row hS.2 (by omega)⟩
      clear hS hc6 ht6 hgm hG3 hC
      have hS := hS6
      refine ⟨_, rfl, hS, ?_⟩
      refine takeH 7 (.int .i64 0) (some 6) rfl rfl (by kernel_rfl) (by kernel_rfl) (by kernel_rfl) (fun _ _ _ h => h) (.inl ⟨by kernel_rfl, fun w _ => by go_simp⟩) hS ?_
      refine wpAnyH_done (by kernel_rfl) ?_ _
      go_simp
      go_wp2_with fail
      go_ret
      rw [HE.out]
      exact ⟨rfl, H6.out, HC6.out⟩
end
end Go.Proofs.Ytonfnlohbgbffaa
