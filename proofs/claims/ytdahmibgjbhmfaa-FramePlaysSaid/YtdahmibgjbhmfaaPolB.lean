/- The document's answer for pages: Has, Used, Take. -/
import Derived.Test.YtdahmibgjbhmfaaPolA
set_option linter.unusedVariables false
set_option linter.unusedSimpArgs false
namespace Go.Proofs.Ytdahmibgjbhmfaa
open Go.RowKit
open Go.Maps (Keyed)

theorem exec_make {P : Program} {ρ : Operand → Value} {o : Oper} {w w' : World} (t : TypeId) (x y : Operand) (ho : o.op = .makeSlice t x y) (v : Value) (hr : (Instr.makeSlice t (ρ x) (ρ y)).run P w = .ok v w') : (execOp ρ o).run P w = .ok (.value v) w' := by
  unfold execOp; simp only [ho, Sem.run_bind, hr, Result.andThen_ok]; rfl
theorem Duo.of_same {w w' : World} {x y : Nat} (a : Duo w w' y y) : Duo w w' x y := ⟨a.os, a.tape, a.output, a.size, fun k hk _ h2 => a.block k hk h2 h2⟩
def hasB (Y : PoolY) (T : Nat → Nat → Bool) (l n : Nat) : Bool := decide (l < Y.m) && (decide (n < Y.fr l) && T l n)
section
variable {w w' : World} {Y : PoolY} {pv : Nat → Nat → Option Nat} {T : Nat → Nat → Bool} {B : Nat → Nat → Nat → Nat}
set_option maxRecDepth 20000 in
set_option maxHeartbeats 4000000 in
theorem refHas_in (h : RP w Y pv T B) (l n : Nat) (hl1 : l ≤ 1000) (hn1 : n ≤ 1000) :
    Calls Try.prog 9 #[.pointer (some ⟨Y.gq, 0, none⟩), .int .i64 l, .int .i64 n] w fun e w' => e = .returned (.bool (hasB Y T l n)) ∧ w = w' := by
  have HH := Lib.hid h
  have c1 := h.c1
  have hm := h.m64
  obtain ⟨gq, hgq⟩ : ∃ x, x = Y.gq := ⟨_, rfl⟩
  obtain ⟨gt, hgt⟩ : ∃ x, x = Y.gt := ⟨_, rfl⟩
  obtain ⟨m, hmm⟩ : ∃ x, x = Y.m := ⟨_, rfl⟩
  obtain ⟨ct, hct⟩ : ∃ x, x = Y.ct := ⟨_, rfl⟩
  rw [← hgq, ← hgt, ← hmm, ← hct] at c1
  rw [← hmm] at hm
  rw [← hgq]
  have HM := Lib.hid hmm
  have HGT := Lib.hid hgt
  have hl0 : (0 : Int) ≤ l := by omega
  have hn0 : (0 : Int) ≤ n := by omega
  clear h hgq hgt hmm hct
  by_cases hl : l < m
  · have hlY : l < Y.m := by rw [← HM.out]; exact hl
    have c2 := HH.out.ct_cell hlY
    have hfr := HH.out.frs l hlY
    rw [← HGT.out] at c2
    have HLY := Lib.hid hlY
    obtain ⟨f, hf⟩ : ∃ f, f = Y.fr l := ⟨_, rfl⟩
    obtain ⟨x, hx⟩ : ∃ x, x = Y.tb l := ⟨_, rfl⟩
    rw [← hf] at hfr
    rw [← hf, ← hx] at c2
    unfold rowS at c2
    have HF := Lib.hid hf
    have HX := Lib.hid hx
    have hli : (l : Int) < m := by omega
    clear hf hx hlY
    by_cases hn : n < f
    · have c3 := HH.out.t_cell HLY.out (n := n) (by rw [← HF.out]; exact hn)
      rw [← HX.out] at c3
      have hni : (n : Int) < f := by omega
      have HB := Lib.hid (show hasB Y T l n = T l n from by unfold hasB; rw [decide_eq_true HLY.out, decide_eq_true (by rw [← HF.out]; exact hn)]; rfl)
      obtain ⟨b, hb⟩ : ∃ b, b = T l n := ⟨_, rfl⟩
      rw [← hb] at c3
      have HBB := Lib.hid hb
      clear hb
      go_enter Try.func9, Try.ntmps9
      go_wp2_with fail
      go_ret
      exact ⟨by rw [HB.out, ← HBB.out]; rfl, rfl⟩
    · have hni : decide ((n : Int) < f) = false := by rw [decide_eq_false_iff_not]; omega
      have hnn : decide (n < f) = false := by rw [decide_eq_false_iff_not]; omega
      have HB := Lib.hid (show hasB Y T l n = false from by unfold hasB; rw [decide_eq_false (p := n < Y.fr l) (by rw [← HF.out]; exact hn)]; simp)
      go_enter Try.func9, Try.ntmps9
      go_wp2_with fail
      go_ret
      exact ⟨by rw [HB.out]; rfl, rfl⟩
  · have hli : decide ((l : Int) < m) = false := by rw [decide_eq_false_iff_not]; omega
    have hln : decide (l < m) = false := by rw [decide_eq_false_iff_not]; omega
    have HB := Lib.hid (show hasB Y T l n = false from by unfold hasB; rw [decide_eq_false (p := l < Y.m) (by rw [← HM.out]; exact hl)]; simp)
    go_enter Try.func9, Try.ntmps9
    go_wp2_with fail
    go_ret
    exact ⟨by rw [HB.out]; rfl, rfl⟩

set_option maxRecDepth 20000 in
set_option maxHeartbeats 4000000 in
theorem refUsed_in (h : RP w Y pv T B) (l : Nat) (hlY : l < Y.m) :
    Calls Try.prog 17 #[.pointer (some ⟨Y.gq, 0, none⟩), .int .i64 l] w fun e w' => e = .returned (.int .i64 (cntT (T l) (Y.fr l))) ∧ w = w' := by
  have HH := Lib.hid h
  have c1 := h.c1
  have hm := h.m64
  obtain ⟨gq, hgq⟩ : ∃ x, x = Y.gq := ⟨_, rfl⟩
  obtain ⟨gt, hgt⟩ : ∃ x, x = Y.gt := ⟨_, rfl⟩
  obtain ⟨m, hmm⟩ : ∃ x, x = Y.m := ⟨_, rfl⟩
  obtain ⟨ct, hct⟩ : ∃ x, x = Y.ct := ⟨_, rfl⟩
  rw [← hgq, ← hgt, ← hmm, ← hct] at c1
  rw [← hmm] at hm
  rw [← hgq]
  have hl : l < m := by rw [hmm]; exact hlY
  have c2 := HH.out.ct_cell hlY
  have hfr := HH.out.frs l hlY
  rw [← hgt] at c2
  have HLY := Lib.hid hlY
  obtain ⟨f, hf⟩ : ∃ f, f = Y.fr l := ⟨_, rfl⟩
  obtain ⟨x, hx⟩ : ∃ x, x = Y.tb l := ⟨_, rfl⟩
  rw [← hf] at hfr ⊢
  rw [← hf, ← hx] at c2
  unfold rowS at c2
  have HF := Lib.hid hf
  have HX := Lib.hid hx
  have hli : (l : Int) < m := by omega
  have hl0 : ¬ ((l : Int) < 0) := by omega
  have hl0' : (0 : Int) ≤ l := by omega
  have hlm : decide ((m : Int) ≤ l) = false := by rw [decide_eq_false_iff_not]; omega
  have hlmn : decide (m ≤ l) = false := by rw [decide_eq_false_iff_not]; omega
  have hl64 : l ≤ 64 := by omega
  clear hf hx hlY h hgq hgt hmm hct
  go_enter Try.func17, Try.ntmps17
  go_wp2_with fail
  go_loop [5, 6] (fun a b => ∃ k : Nat, k ≤ f ∧ b = .int .i64 k ∧ a = .int .i64 (cntT (T l) k)) (fun _ b => f - (intOf b).toNat)
  case atStart => exact ⟨0, Nat.zero_le _, rfl, rfl⟩
  case round =>
    obtain ⟨k, hk, rfl, rfl⟩ := hrel
    have hc := cntT_le (T l) k
    obtain ⟨p, hp⟩ : ∃ p, p = cntT (T l) k := ⟨_, rfl⟩
    rw [← hp] at hc ⊢
    have HP := Lib.hid hp
    clear hp
    by_cases hlt : k < f
    · have f1 : (k : Int) < f := by omega
      have c3 := HH.out.t_cell HLY.out (n := k) (by rw [← HF.out]; exact hlt)
      rw [← HX.out] at c3
      have HN := Lib.hid (show cntT (T l) (k + 1) = cntT (T l) k + if T l k then 1 else 0 from rfl)
      cases hb : T l k with
      | true =>
        rw [hb] at c3 HN
        go_wp2_with fail
        go_round
        case rel => exact ⟨k + 1, by omega, by go_num, by rw [HN.out, ← HP.out]; go_num⟩
        case measure => simp [intOf]; omega
      | false =>
        rw [hb] at c3 HN
        go_wp2_with fail
        go_round
        case rel => exact ⟨k + 1, by omega, by go_num, by rw [HN.out, ← HP.out]; rfl⟩
        case measure => simp [intOf]; omega
    · obtain rfl : k = f := by omega
      go_wp2_with fail
      go_ret
      exact ⟨by rw [← HP.out]; rfl, rfl⟩

set_option maxRecDepth 20000 in
set_option maxHeartbeats 4000000 in
theorem refTake_no (h : RP w Y pv T B) (l : Nat) (hl : ¬ l < Y.m) :
    Calls Try.prog 15 #[.pointer (some ⟨Y.gq, 0, none⟩), .int .i64 l] w fun e w' => e = .returned (.tuple #[.int .i64 0, .int .i64 27]) ∧ w = w' := by
  have c1 := h.c1
  have hm := h.m64
  obtain ⟨gq, hgq⟩ : ∃ x, x = Y.gq := ⟨_, rfl⟩
  obtain ⟨gt, hgt⟩ : ∃ x, x = Y.gt := ⟨_, rfl⟩
  obtain ⟨m, hmm⟩ : ∃ x, x = Y.m := ⟨_, rfl⟩
  obtain ⟨ct, hct⟩ : ∃ x, x = Y.ct := ⟨_, rfl⟩
  rw [← hgq, ← hgt, ← hmm, ← hct] at c1
  rw [← hmm] at hm hl
  rw [← hgq]
  have hl0 : ¬ ((l : Int) < 0) := by omega
  have hli : (m : Int) ≤ l := by omega
  have hli' : m ≤ l := by omega
  clear h hgq hgt hmm hct
  go_enter Try.func15, Try.ntmps15
  go_wp2_with fail
  go_ret2
  exact ⟨rfl, rfl⟩

set_option maxRecDepth 20000 in
set_option maxHeartbeats 4000000 in
theorem refTake_full (h : RP w Y pv T B) (l : Nat) (hlY : l < Y.m) (hall : ∀ n, n < Y.fr l → T l n = true) :
    Calls Try.prog 15 #[.pointer (some ⟨Y.gq, 0, none⟩), .int .i64 l] w fun e w' => e = .returned (.tuple #[.int .i64 0, .int .i64 10]) ∧ w = w' := by
  have HH := Lib.hid h
  have c1 := h.c1
  have hm := h.m64
  obtain ⟨gq, hgq⟩ : ∃ x, x = Y.gq := ⟨_, rfl⟩
  obtain ⟨gt, hgt⟩ : ∃ x, x = Y.gt := ⟨_, rfl⟩
  obtain ⟨m, hmm⟩ : ∃ x, x = Y.m := ⟨_, rfl⟩
  obtain ⟨ct, hct⟩ : ∃ x, x = Y.ct := ⟨_, rfl⟩
  rw [← hgq, ← hgt, ← hmm, ← hct] at c1
  rw [← hmm] at hm
  rw [← hgq]
  have hl : l < m := by rw [hmm]; exact hlY
  have c2 := HH.out.ct_cell hlY
  have hfr := HH.out.frs l hlY
  rw [← hgt] at c2
  have HLY := Lib.hid hlY
  have HALL := Lib.hid hall
  obtain ⟨f, hf⟩ : ∃ f, f = Y.fr l := ⟨_, rfl⟩
  obtain ⟨x, hx⟩ : ∃ x, x = Y.tb l := ⟨_, rfl⟩
  rw [← hf] at hfr
  rw [← hf, ← hx] at c2
  unfold rowS at c2
  have HF := Lib.hid hf
  have HX := Lib.hid hx
  have hli : (l : Int) < m := by omega
  have hl0 : ¬ ((l : Int) < 0) := by omega
  have hl0' : (0 : Int) ≤ l := by omega
  have hlm : decide ((m : Int) ≤ l) = false := by rw [decide_eq_false_iff_not]; omega
  have hlmn : decide (m ≤ l) = false := by rw [decide_eq_false_iff_not]; omega
  have hl64 : l ≤ 64 := by omega
  clear hf hx hlY h hgq hgt hmm hct hall
  go_enter Try.func15, Try.ntmps15
  go_wp2_with fail
  go_loop [4, 5, 6] (fun r4 r5 b => r4 = .int .i64 0 ∧ r5 = .int .i64 0 ∧ ∃ k : Nat, k ≤ f ∧ b = .int .i64 k) (fun _ _ b => f - (intOf b).toNat)
  case atStart => exact ⟨rfl, rfl, 0, Nat.zero_le _, rfl⟩
  case round =>
    obtain ⟨rfl, rfl, k, hk, rfl⟩ := hrel
    by_cases hlt : k < f
    · have f1 : (k : Int) < f := by omega
      have c3 := HH.out.t_cell HLY.out (n := k) (by rw [← HF.out]; exact hlt)
      rw [← HX.out, HALL.out k (by rw [← HF.out]; exact hlt)] at c3
      go_wp2_with fail
      go_round
      case rel => exact ⟨rfl, rfl, k + 1, by omega, by go_num⟩
      case measure => simp [intOf]; omega
    · obtain rfl : k = f := by omega
      go_wp2_with fail
      go_ret2
      exact ⟨rfl, rfl⟩

set_option maxRecDepth 20000 in
set_option maxHeartbeats 4000000 in
theorem refTake_ok (h : RP w Y pv T B) (l n : Nat) (hlY : l < Y.m) (hnY : n < Y.fr l) (hT : T l n = false) (hall : ∀ i, i < n → T l i = true) (hbase : Y.base ≤ w.heap.size) :
    Calls Try.prog 15 #[.pointer (some ⟨Y.gq, 0, none⟩), .int .i64 l] w fun e w' => e = .returned (.tuple #[.int .i64 n, .int .i64 0]) ∧ (∃ b, RP w' Y (set2 pv l n (some b)) (set2 T l n true) (set2 B l n fun _ => 0)) ∧ Duo w w' (Y.tb l) (Y.bb l) := by
  have HH := Lib.hid h
  have c1 := h.c1
  have cc := h.c2
  have hm := h.m64
  obtain ⟨gq, hgq⟩ : ∃ x, x = Y.gq := ⟨_, rfl⟩
  obtain ⟨gt, hgt⟩ : ∃ x, x = Y.gt := ⟨_, rfl⟩
  obtain ⟨gb, hgb⟩ : ∃ x, x = Y.gb := ⟨_, rfl⟩
  obtain ⟨m, hmm⟩ : ∃ x, x = Y.m := ⟨_, rfl⟩
  obtain ⟨ct, hct⟩ : ∃ x, x = Y.ct := ⟨_, rfl⟩
  obtain ⟨cb, hcb⟩ : ∃ x, x = Y.cb := ⟨_, rfl⟩
  rw [← hgq, ← hgt, ← hmm, ← hct] at c1
  rw [← hgq, ← hgb, ← hmm, ← hcb] at cc
  rw [← hmm] at hm
  rw [← hgq]
  have hl : l < m := by rw [hmm]; exact hlY
  have c2 := HH.out.ct_cell hlY
  have cc2 := HH.out.cb_cell hlY
  have hfr := HH.out.frs l hlY
  rw [← hgt] at c2
  rw [← hgb] at cc2
  have HLY := Lib.hid hlY
  have HNY := Lib.hid hnY
  have HALL := Lib.hid hall
  have HTF := Lib.hid hT
  obtain ⟨f, hf⟩ : ∃ f, f = Y.fr l := ⟨_, rfl⟩
  obtain ⟨x, hx⟩ : ∃ x, x = Y.tb l := ⟨_, rfl⟩
  obtain ⟨y, hy⟩ : ∃ y, y = Y.bb l := ⟨_, rfl⟩
  rw [← hf] at hfr hnY
  rw [← hf, ← hx] at c2
  rw [← hf, ← hy] at cc2
  rw [← hx, ← hy]
  unfold rowS at c2 cc2
  have HF := Lib.hid hf
  have HX := Lib.hid hx
  have HY := Lib.hid hy
  have HGQ := Lib.hid hgq
  have HGB := Lib.hid hgb
  have HCB := Lib.hid hcb
  have HMM := Lib.hid hmm
  have HBASE := Lib.hid hbase
  have hli : (l : Int) < m := by omega
  have hl0 : ¬ ((l : Int) < 0) := by omega
  have hl0' : (0 : Int) ≤ l := by omega
  have hlm : decide ((m : Int) ≤ l) = false := by rw [decide_eq_false_iff_not]; omega
  have hlmn : decide (m ≤ l) = false := by rw [decide_eq_false_iff_not]; omega
  have hl64 : l ≤ 64 := by omega
  have HCC := Lib.hid (And.intro cc cc2)
  clear hf hx hy hlY h hgq hgt hgb hmm hct hcb hall hT hbase cc cc2
  go_enter Try.func15, Try.ntmps15
  go_wp2_with fail
  go_loop [4, 5, 6] (fun r4 r5 b => r4 = .int .i64 0 ∧ r5 = .int .i64 0 ∧ ∃ k : Nat, k ≤ n ∧ b = .int .i64 k) (fun _ _ b => f - (intOf b).toNat)
  case atStart => exact ⟨rfl, rfl, 0, Nat.zero_le _, rfl⟩
  case round =>
    obtain ⟨rfl, rfl, k, hk, rfl⟩ := hrel
    have f1 : (k : Int) < f := by omega
    have f2 : k < f := by omega
    have c3 := HH.out.t_cell HLY.out (n := k) (by rw [← HF.out]; omega)
    rw [← HX.out] at c3
    by_cases hlt : k < n
    · rw [HALL.out k hlt] at c3
      go_wp2_with fail
      go_round
      case rel => exact ⟨rfl, rfl, k + 1, by omega, by go_num⟩
      case measure => simp [intOf]; omega
    · obtain rfl : k = n := by omega
      rw [HTF.out] at c3
      have fz := (HH.out.rowT l HLY.out).frozen k
      rw [← HX.out] at fz
      go_upto_region 8 with fail
      have o1 := one_setCell w x k (.bool true)
      have r1 := (HH.out.rowT l HLY.out).set k (.bool true)
      have hxy : Y.bb l ≠ x := by rw [HX.out]; exact row_ne' (HH.out.rowB l HLY.out) (HH.out.rowT l HLY.out) (by decide)
      have rb1 := (HH.out.rowB l HLY.out).of_block (o1.block _ (HH.out.rowB l HLY.out).lt (fun e => hxy (by cases e; rfl)))
      have rq1 := HH.out.row.of_block (w' := w.setCell ⟨x, k, none⟩ (.bool true)) (o1.block _ HH.out.row.lt (fun e => row_ne' HH.out.row (HH.out.rowT l HLY.out) (by decide) (by cases e; exact HX.out)))
      have cc1 : (w.setCell ⟨x, k, none⟩ (.bool true)).cell? ⟨gb, l, none⟩ = some (.slice (some ⟨y, 0, none⟩) f f) := by
        obtain ⟨c, hc, h2⟩ := HH.out.bt
        obtain ⟨d1, hd1⟩ := rowIs_blk (HH.out.rowT l HLY.out)
        have hg := row_ne hc hd1 (by decide)
        rw [HGB.out, World.cell?_of_block (w := w) (a := ⟨Y.gb, l, none⟩) (o1.block _ (rowlt hc) (fun e => hg (by cases e; exact HX.out))), ← HGB.out]
        exact HCC.out.2
      have HNE := Lib.hid (show gq ≠ y ∧ gb ≠ y from ⟨by rw [HGQ.out, HY.out]; exact row_ne' HH.out.row (HH.out.rowB l HLY.out) (by decide), by
        obtain ⟨c, hc, h2⟩ := HH.out.bt
        obtain ⟨d1, hd1⟩ := rowIs_blk (HH.out.rowB l HLY.out)
        rw [HGB.out, HY.out]
        exact row_ne hc hd1 (by decide)⟩)
      rw [← HX.out] at r1
      rw [← HY.out] at rb1
      rw [← HGQ.out] at rq1
      have HR1 := Lib.hid r1
      have HRB := Lib.hid rb1
      have HRQ := Lib.hid rq1
      have HC1 := Lib.hid cc1
      have HO1 := Lib.hid o1
      obtain ⟨w1, hw1⟩ : ∃ w1, w1 = w.setCell ⟨x, k, none⟩ (.bool true) := ⟨_, rfl⟩
      rw [← hw1] at HR1 HRB HRQ HC1 HO1 ⊢
      clear hw1 r1 rb1 rq1 cc1 o1 hxy c1 c2 c3 fz
      have hmk : ∀ w, (Instr.makeSlice 24 (.int .i64 64) (.int .i64 64)).run Try.prog w = .ok (.slice (some ⟨w.heap.size, 0, none⟩) 64 64) (w.alloc (.cells (madeCells #[.int .u8 0] 64) 5)) := fun w => run_make_row' (P := Try.prog) 24 5 (.int .u8 0) 1 Try.underlying24 (by kernel_rfl) rfl .i64 .i64 64 (by omega) (by omega) w
      have hSd : Duo w1.drew w1.drew y y := Duo.refl _ _ _
      have hq2 : ∀ w', Duo w1.drew w' y y → w'.cell? ⟨gq, 2, none⟩ = some (.slice (some ⟨gb, 0, none⟩) m cb) := fun w' hb => by
        rw [((HRQ.out.of_block (w' := w1.drew) rfl).of_block (hb.block _ HRQ.out.lt HNE.out.1 HNE.out.1)).cell (i := 2) (by omega)]
        show some (Value.slice (some ⟨Y.gb, 0, none⟩) Y.m Y.cb) = _
        rw [← HGB.out, ← HMM.out, ← HCB.out]
      have hq3 : ∀ w', Duo w1.drew w' y y → w'.cell? ⟨gb, l, none⟩ = some (.slice (some ⟨y, 0, none⟩) f f) := fun w' hb => by
        rw [World.cell?_of_block (w := w1) (a := ⟨gb, l, none⟩) (hb.block gb (block_lt_of_cell HC1.out) HNE.out.2 HNE.out.2)]
        exact HC1.out
      refine wp_region_held (S := fun w' => Duo w1.drew w' y y) (by kernel_rfl) ?_
      change wpAnyH _ _ _ _ _ _ _ _ (World.drew _)
      refine takeH 0 (.pointer (some ⟨gq, 0, none⟩)) (some 50) rfl rfl (by kernel_rfl) (by kernel_rfl) (by kernel_rfl) (fun _ _ _ h => h) (.inl ⟨by kernel_rfl, fun w _ => by go_simp⟩) hSd ?_
      refine takeH 1 (.pointer (some ⟨gq, 0, none⟩)) (some 51) rfl rfl (by kernel_rfl) (by kernel_rfl) (by kernel_rfl) (fun _ _ _ h => h) (.inl ⟨by kernel_rfl, fun w _ => by go_simp⟩) hSd ?_
      refine takeH 2 (.pointer (some ⟨gq, 2, none⟩)) (some 52) rfl rfl (by kernel_rfl) (by kernel_rfl) (by kernel_rfl) (fun _ _ _ h => h) (.inl ⟨by kernel_rfl, fun w _ => by go_simp⟩) hSd ?_
      go_simp
      refine takeH 3 (.slice (some ⟨gb, 0, none⟩) m cb) (some 53) rfl rfl (by kernel_rfl) (by kernel_rfl) (by kernel_rfl) (fun _ _ _ h => h) (.inl ⟨by kernel_rfl, fun w hw => by have hc := hq2 w hw; go_simp⟩) hSd ?_
      refine takeH 4 (.int .i64 l) (some 54) rfl rfl (by kernel_rfl) (by kernel_rfl) (by kernel_rfl) (fun _ _ _ h => h) (.inl ⟨by kernel_rfl, fun w _ => by go_simp⟩) hSd ?_
      refine takeH 5 (.pointer (some ⟨gb, l, none⟩)) (some 55) rfl rfl (by kernel_rfl) (by kernel_rfl) (by kernel_rfl) (fun _ _ _ h => h) (.inl ⟨by kernel_rfl, fun w _ => by go_simp⟩) hSd ?_
      go_simp
      refine takeH 6 (.slice (some ⟨y, 0, none⟩) f f) (some 56) rfl rfl (by kernel_rfl) (by kernel_rfl) (by kernel_rfl) (fun _ _ _ h => h) (.inl ⟨by kernel_rfl, fun w hw => by have hc := hq3 w hw; go_simp⟩) hSd ?_
      refine takeH 7 (.int .i64 k) (some 57) rfl rfl (by kernel_rfl) (by kernel_rfl) (by kernel_rfl) (fun _ _ _ h => h) (.inl ⟨by kernel_rfl, fun w _ => by go_simp⟩) hSd ?_
      refine runH 8 (.slice (some ⟨w1.heap.size, 0, none⟩) 64 64) (some 58) rfl (by kernel_rfl) (by kernel_rfl) rfl (w' := w1.drew.alloc (.cells (madeCells #[.int .u8 0] 64) 5)) (exec_make 24 (.const (.int .i64 64)) (.const (.int .i64 64)) rfl _ (hmk w1.drew)) (hSd.trans (Duo.of_below (bnew _ _))) ?_
      have hpg := World.rowIs_made w1.drew (.int .u8 0) 64 5
      have hSM : Duo w1.drew (w1.drew.alloc (.cells (madeCells #[.int .u8 0] 64) 5)) y y := hSd.trans (Duo.of_below (bnew _ _))
      have hgM : w1.drew.heap.size = w1.heap.size := rfl
      rw [hgM] at hpg
      have HPG := Lib.hid hpg
      have rbM := (HRB.out.of_block (w' := w1.drew) rfl).alloc (.cells (madeCells #[.int .u8 0] 64) 5)
      have rtM := (HR1.out.of_block (w' := w1.drew) rfl).alloc (.cells (madeCells #[.int .u8 0] 64) 5)
      obtain ⟨wM, hwM⟩ : ∃ wM, wM = w1.drew.alloc (.cells (madeCells #[.int .u8 0] 64) 5) := ⟨_, rfl⟩
      rw [← hwM] at HPG hSM rbM rtM ⊢
      have HRBM := Lib.hid rbM
      have HRTM := Lib.hid rtM
      clear hwM hpg hgM hmk rtM
      have cy := rbM.cell (i := k) (by rw [← HF.out]; exact f2)
      have fy := rbM.frozen k
      clear rbM
      refine takeH 9 (.pointer (some ⟨y, k, none⟩)) (some 59) rfl rfl (by kernel_rfl) (by kernel_rfl) (by kernel_rfl) (fun _ _ _ h => h) (.inl ⟨by kernel_rfl, fun w _ => by go_simp⟩) hSM ?_
      go_simp
      refine runSkipH 10 (w' := wM.setCell ⟨y, k, none⟩ (.slice (some ⟨w1.heap.size, 0, none⟩) 64 64)) rfl (by kernel_rfl) (by kernel_rfl) rfl (by go_simp) (hSM.trans (Duo.of_one (one_setCell _ _ _ _))) ?_
      refine wpAnyH_done (by kernel_rfl) ?_ _
      go_simp
      have oM := one_setCell wM y k (.slice (some ⟨w1.heap.size, 0, none⟩) 64 64)
      have rB := HRBM.out.set k (.slice (some ⟨w1.heap.size, 0, none⟩) 64 64)
      have hTB := row_ne' HRTM.out HRBM.out (by decide)
      have hPB := row_ne' HPG.out HRBM.out (by decide)
      have rT := row_oneN HRTM.out oM hTB
      have rP := row_oneN HPG.out oM hPB
      have hD : Duo w (wM.setCell ⟨y, k, none⟩ (.slice (some ⟨w1.heap.size, 0, none⟩) 64 64)) x y :=
        ((Duo.of_one HO1.out).trans (Duo.of_below (drewb w1))).trans ((Duo.of_same hSM).trans (Duo.of_one' oM))
      have HRP := Lib.hid (HH.out.take (b := w1.heap.size) HLY.out (by rw [← HF.out]; exact f2) HTF.out HO1.out.size HBASE.out (by rw [← HX.out, ← HY.out]; exact hD) (by rw [← HX.out]; exact rT) (by rw [← HY.out]; exact rB) rP)
      have HD := Lib.hid hD
      clear oM rB hTB hPB rT rP hD
      go_wp2_with fail
      go_ret2
      exact ⟨rfl, ⟨_, HRP.out⟩, HD.out⟩
end
end Go.Proofs.Ytdahmibgjbhmfaa
