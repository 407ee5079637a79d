/- Numbers of a process: a set that is there: Get, Put, Cut, Turn. -/
import Derived.Test.YtfnkbgcgajgppaaFdsE
set_option linter.unusedVariables false
set_option linter.unusedSimpArgs false
namespace Go.Proofs.Ytfnkbgcgajgppaa
open Go.RowKit

/-- The cells of a set. -/
def slotF (M : Nat → Option (Nat × Nat)) (j : Nat) : Value :=
  if j % 3 = 0 then .bool (M (j / 3)).isSome else if j % 3 = 1 then .int .u8 (((M (j / 3)).getD (0, 0)).1 : Nat) else .int .u16 (((M (j / 3)).getD (0, 0)).2 : Nat)
def setM (M : Nat → Option (Nat × Nat)) (k : Nat) (x : Option (Nat × Nat)) : Nat → Option (Nat × Nat) := fun j => if j = k then x else M j
abbrev NS (w : World) (g : Nat) (M : Nat → Option (Nat × Nat)) : Prop := w.rowIs g 123 24 (slotF M)

section
variable {w : World} {g : Nat} {M : Nat → Option (Nat × Nat)}
theorem NS.used (h : NS w g M) {n : Nat} (hn : n < 8) : w.cell? ⟨g, n * 3, none⟩ = some (.bool (M n).isSome) := by
  rw [h.cell (i := n * 3) (by omega)]
  unfold slotF
  rw [if_pos (by omega), Nat.mul_div_cancel _ (by omega)]
theorem NS.lab (h : NS w g M) {n : Nat} (hn : n < 8) : w.cell? ⟨g, n * 3 + 1, none⟩ = some (.int .u8 (((M n).getD (0, 0)).1 : Nat)) := by
  rw [h.cell (i := n * 3 + 1) (by omega)]
  unfold slotF
  rw [if_neg (by omega), if_pos (by omega), show (n * 3 + 1) / 3 = n by omega]
theorem NS.num (h : NS w g M) {n : Nat} (hn : n < 8) : w.cell? ⟨g, n * 3 + 1 + 1, none⟩ = some (.int .u16 (((M n).getD (0, 0)).2 : Nat)) := by
  rw [h.cell (i := n * 3 + 1 + 1) (by omega)]
  unfold slotF
  rw [if_neg (by omega), if_neg (by omega), show (n * 3 + 1 + 1) / 3 = n by omega]
theorem NS.set3 (h : NS w g M) (k : Nat) (x : Option (Nat × Nat)) :
    NS (((w.setCell ⟨g, k * 3, none⟩ (.bool x.isSome)).setCell ⟨g, k * 3 + 1, none⟩ (.int .u8 ((x.getD (0, 0)).1 : Nat))).setCell ⟨g, k * 3 + 1 + 1, none⟩ (.int .u16 ((x.getD (0, 0)).2 : Nat))) g (setM M k x) := by
  refine (((h.set (k * 3) _).set (k * 3 + 1) _).set (k * 3 + 1 + 1) _).congr (fun j hj => ?_)
  unfold slotF setM
  by_cases e2 : j = k * 3 + 1 + 1
  · rw [if_pos e2, if_neg (by omega), if_neg (by omega), if_pos (by omega)]
  · rw [if_neg e2]
    by_cases e1 : j = k * 3 + 1
    · rw [if_pos e1, if_neg (by omega), if_pos (by omega), if_pos (by omega)]
    · rw [if_neg e1]
      by_cases e0 : j = k * 3
      · rw [if_pos e0, if_pos (by omega), if_pos (by omega)]
      · rw [if_neg e0, if_neg (show ¬ j / 3 = k by omega)]
theorem NS.setId (h : NS w g M) (k : Nat) (hk : (M k).isSome = true) (p : Nat × Nat) :
    NS ((w.setCell ⟨g, k * 3 + 1, none⟩ (.int .u8 p.1)).setCell ⟨g, k * 3 + 1 + 1, none⟩ (.int .u16 p.2)) g (setM M k (some p)) := by
  refine ((h.set (k * 3 + 1) _).set (k * 3 + 1 + 1) _).congr (fun j hj => ?_)
  unfold slotF setM
  by_cases e2 : j = k * 3 + 1 + 1
  · rw [if_pos e2, if_neg (by omega), if_neg (by omega), if_pos (by omega)]; rfl
  · rw [if_neg e2]
    by_cases e1 : j = k * 3 + 1
    · rw [if_pos e1, if_neg (by omega), if_pos (by omega), if_pos (by omega)]; rfl
    · rw [if_neg e1]
      by_cases e0 : j = k * 3
      · have e3 : j / 3 = k := by omega
        rw [if_pos (by omega), if_pos (by omega), if_pos e3, e3, hk]; rfl
      · rw [if_neg (show ¬ j / 3 = k by omega)]
theorem one_new {w w1 w2 : World} {g x : Nat} (a : One w w1 (some g)) (b : One w1 w2 (some x)) (hx : w.heap.size ≤ x) : One w w2 (some g) :=
  ⟨b.os.trans a.os, b.tape.trans a.tape, b.output.trans a.output, Nat.le_trans a.size b.size, fun k hk h => (b.block k (Nat.lt_of_lt_of_le hk a.size) (fun e => by cases e; omega)).trans (a.block k hk h)⟩
theorem three_one (w : World) (g a b c : Nat) (x y z : Value) : One w (((w.setCell ⟨g, a, none⟩ x).setCell ⟨g, b, none⟩ y).setCell ⟨g, c, none⟩ z) (some g) :=
  ((one_setCell w g a x).trans (one_setCell _ g b y)).trans (one_setCell _ g c z)

set_option maxRecDepth 20000 in
set_option maxHeartbeats 4000000 in
theorem setGet_yes (h : NS w g M) (n : Nat) (hn : n < 8) (q : Nat × Nat) (hM : M n = some q) :
    Calls Try.prog 56 #[.pointer (some ⟨g, 0, none⟩), .int .i64 n] w fun e w' => e = .returned (.tuple #[.agg #[.int .u8 q.1, .int .u16 q.2], .int .i64 0]) ∧ Below w.heap.size w w' := by
  have hb := bnew w (.cells #[.int .u8 0, .int .u16 0] 69)
  have ha := heap_alloc_last w (.cells #[.int .u8 0, .int .u16 0] 69)
  have h1 : NS _ g M := h.of_block (hb.block g h.lt)
  have HB := Lib.hid hb
  have HA := Lib.hid ha
  have c1 := h1.used hn
  have c2 := h1.lab hn
  have c3 := h1.num hn
  rw [hM] at c1 c2 c3
  have c4 : ¬ ((n : Int) < 0) := by omega
  have c5 : (n : Int) < 8 := by omega
  have c6 : ¬ (8 ≤ (n : Int)) := by omega
  have c7 := rowcell ha
  have c8 := rowfree ha
  clear h hb ha h1 hM
  go_enter Try.func56, Try.ntmps56
  go_wp2_with fail
  have hrun := idLoad _ w.heap.size q.1 q.2 (heap_alloc_last w _)
  exact bodyPost_ret (v := .tuple #[.agg #[.int .u8 q.1, .int .u16 q.2], .int .i64 0]) (by simp [results, Try.results56, Act.put, asAddr, hrun]) rfl ⟨rfl, bnew _ _⟩
set_option maxRecDepth 20000 in
set_option maxHeartbeats 4000000 in
theorem setGet_no (h : NS w g M) (i : Int) (hi : i < 0 ∨ 8 ≤ i ∨ ∃ n : Nat, i = n ∧ n < 8 ∧ M n = none) :
    Calls Try.prog 56 #[.pointer (some ⟨g, 0, none⟩), .int .i64 i] w fun e w' => e = .returned (.tuple #[.agg #[.int .u8 0, .int .u16 0], .int .i64 13]) ∧ Below w.heap.size w w' := by
  have hb := bnew w (.cells #[.int .u8 0, .int .u16 0] 69)
  have ha := heap_alloc_last w (.cells #[.int .u8 0, .int .u16 0] 69)
  have h1 : NS _ g M := h.of_block (hb.block g h.lt)
  have H1 := Lib.hid h1
  have c7 := rowcell ha
  have c8 := rowfree ha
  clear h hb ha h1
  have hrun := fun x => idLoad x w.heap.size 0 0
  by_cases h0 : i < 0
  · clear hi
    go_enter Try.func56, Try.ntmps56
    go_wp2_with fail
    have hrun := idLoad _ w.heap.size 0 0 (heap_alloc_last w _)
    exact bodyPost_ret (v := .tuple #[.agg #[.int .u8 0, .int .u16 0], .int .i64 13]) (by simp [results, Try.results56, Act.put, asAddr, hrun]) rfl ⟨rfl, bnew _ _⟩
  · by_cases h8 : 8 ≤ i
    · clear hi
      go_enter Try.func56, Try.ntmps56
      go_wp2_with fail
      have hrun := idLoad _ w.heap.size 0 0 (heap_alloc_last w _)
      exact bodyPost_ret (v := .tuple #[.agg #[.int .u8 0, .int .u16 0], .int .i64 13]) (by simp [results, Try.results56, Act.put, asAddr, hrun]) rfl ⟨rfl, bnew _ _⟩
    · obtain ⟨n, rfl, hn, hM⟩ : ∃ n : Nat, i = n ∧ n < 8 ∧ M n = none := by
        rcases hi with h | h | h
        · omega
        · omega
        · exact h
      have c1 := H1.out.used hn
      rw [hM] at c1
      have c5 : (n : Int) < 8 := by omega
      clear hM hi
      go_enter Try.func56, Try.ntmps56
      go_wp2_with fail
      have hrun := idLoad _ w.heap.size 0 0 (heap_alloc_last w _)
      exact bodyPost_ret (v := .tuple #[.agg #[.int .u8 0, .int .u16 0], .int .i64 13]) (by simp [results, Try.results56, Act.put, asAddr, hrun]) rfl ⟨rfl, bnew _ _⟩

set_option maxRecDepth 20000 in
set_option maxHeartbeats 4000000 in
theorem setPut_free (h : NS w g M) (p : Nat × Nat) (k : Nat) (hk : k < 8) (hf : M k = none) (hl : ∀ j, j < k → (M j).isSome = true) :
    Calls Try.prog 53 #[.pointer (some ⟨g, 0, none⟩), .agg #[.int .u8 p.1, .int .u16 p.2]] w fun e w' => e = .returned (.tuple #[.int .i64 k, .int .i64 0]) ∧ NS w' g (setM M k (some p)) ∧ One w w' (some g) := by
  have hb := bnew w (.cells #[.int .u8 p.1, .int .u16 p.2] 69)
  have ha := heap_alloc_last w (.cells #[.int .u8 p.1, .int .u16 p.2] 69)
  have h1 : NS _ g M := h.of_block (hb.block g h.lt)
  have HB := Lib.hid hb
  have HA := Lib.hid ha
  have H1 := Lib.hid h1
  have HF := Lib.hid hf
  have HL := Lib.hid hl
  clear h hb ha h1 hf hl
  go_enter Try.func53, Try.ntmps53
  go_wp2_with fail
  generalize hG : w.heap.size = G at *
  generalize w.alloc (.cells #[.int .u8 p.1, .int .u16 p.2] 69) = w1 at *
  have HG := Lib.hid hG
  clear hG
  go_loop [9] (fun t => ∃ n : Nat, n ≤ k ∧ t = .int .i64 n) (fun t => 8 - (intOf t).toNat)
  case atStart => exact ⟨0, Nat.zero_le _, rfl⟩
  case round =>
    obtain ⟨n, hn, rfl⟩ := hrel
    have c1 := H1.out.used (n := n) (by omega)
    have c2 : (n : Int) < 8 := by omega
    by_cases hlt : n < k
    · rw [HL.out n hlt] at c1
      go_wp2_with fail
      go_round
      case rel => exact ⟨n + 1, by omega, by go_num⟩
      case measure => simp [intOf]; omega
    · obtain rfl : n = k := by omega
      rw [HF.out] at c1
      have c3 := H1.out.lab (n := n) (by omega)
      have c4 := H1.out.num (n := n) (by omega)
      have c5 := H1.out.frozen
      have c7 := rowcell HA.out
      go_wp2_with fail
      refine wp_region_still_tail 7 (by kernel_rfl) (by kernel_rfl) ?_
      simp only [List.take_succ_cons, List.take_zero, List.drop_succ_cons, List.drop_zero]
      change wpStill _ _ (World.drew w1) _ _ _
      iterate 7 still_step
      refine wpStill_nil ?_
      change wpList _ _ _ _ _ (World.drew w1)
      go_wp2_with fail
      go_ret2
      have h3 := H1.out.set3 n (some p)
      exact ⟨rfl, h3.of_block rfl, (one_of_below (by rw [HG.out]; exact HB.out) _).trans ((three_one w1 g _ _ _ _ _ _).trans (one_of_below (drewb _) _))⟩
set_option maxRecDepth 20000 in
set_option maxHeartbeats 4000000 in
theorem setPut_full (h : NS w g M) (p : Nat × Nat) (hl : ∀ j, j < 8 → (M j).isSome = true) :
    Calls Try.prog 53 #[.pointer (some ⟨g, 0, none⟩), .agg #[.int .u8 p.1, .int .u16 p.2]] w fun e w' => e = .returned (.tuple #[.int .i64 0, .int .i64 23]) ∧ Below w.heap.size w w' := by
  have hb := bnew w (.cells #[.int .u8 p.1, .int .u16 p.2] 69)
  have h1 : NS _ g M := h.of_block (hb.block g h.lt)
  have HB := Lib.hid hb
  have H1 := Lib.hid h1
  have HL := Lib.hid hl
  clear h hb h1 hl
  go_enter Try.func53, Try.ntmps53
  go_wp2_with fail
  go_loop [9] (fun t => ∃ n : Nat, n ≤ 8 ∧ t = .int .i64 n) (fun t => 8 - (intOf t).toNat)
  case atStart => exact ⟨0, Nat.zero_le _, rfl⟩
  case round =>
    obtain ⟨n, hn, rfl⟩ := hrel
    by_cases hlt : n < 8
    · have c1 := H1.out.used (n := n) (by omega)
      have c2 : (n : Int) < 8 := by omega
      rw [HL.out n hlt] at c1
      go_wp2_with fail
      go_round
      case rel => exact ⟨n + 1, by omega, by go_num⟩
      case measure => simp [intOf]; omega
    · have c2 : ¬ ((n : Int) < 8) := by omega
      go_wp2_with fail
      go_ret2
      exact ⟨rfl, HB.out⟩

set_option maxRecDepth 20000 in
set_option maxHeartbeats 4000000 in
theorem setCut_gen (h : NS w g M) (i : Int) (q : Nat × Nat) (n : Nat) (hn : n < 8) (hin : i = n) (hM : M n = some q) :
    Calls Try.prog 54 #[.pointer (some ⟨g, 0, none⟩), .int .i64 i] w fun e w' => e = .returned (.tuple #[.agg #[.int .u8 q.1, .int .u16 q.2], .int .i64 0]) ∧ NS w' g (setM M n none) ∧ One w w' (some g) := by
  subst hin
  have hb := bnew w (.cells #[.int .u8 0, .int .u16 0] 69)
  have ha := heap_alloc_last w (.cells #[.int .u8 0, .int .u16 0] 69)
  have h1 : NS _ g M := h.of_block (hb.block g h.lt)
  have HB := Lib.hid hb
  have HA := Lib.hid ha
  have H1 := Lib.hid h1
  have HM := Lib.hid hM
  have HGL := Lib.hid (show g < w.heap.size from h.lt)
  clear h hb ha h1 hM
  go_enter Try.func54, Try.ntmps54
  go_wp2_with fail
  generalize hG : w.heap.size = G at *
  generalize w.alloc (.cells #[.int .u8 0, .int .u16 0] 69) = w1 at *
  have HG := Lib.hid hG
  clear hG
  refine (setGet_yes H1.out n hn q HM.out).mono ?_; rintro e w2 ⟨rfl, hb2⟩
  have hb3 := bnewAfter hb2 (.cells #[.int .u8 q.1, .int .u16 q.2] 69)
  have h3 : NS _ g M := H1.out.of_block (hb3.block g H1.out.lt)
  have ha3 := bkeep hb3 HA.out
  have hq3 := heap_alloc_last w2 (.cells #[.int .u8 q.1, .int .u16 q.2] 69)
  have HB3 := Lib.hid hb3
  have H3 := Lib.hid h3
  have HA3 := Lib.hid ha3
  have HQ3 := Lib.hid hq3
  have c1 := h3.used hn
  have c2 := h3.lab hn
  have c3 := h3.num hn
  have c4 := h3.frozen
  have c5 := rowcell ha3
  have c6 := rowfree ha3
  have c7 := rowcell hq3
  have c8 : (n : Int) < 8 := by omega
  have HG2 := Lib.hid (show G < w2.heap.size by have := rowlt HA.out; have := hb2.size; omega)
  have k1 : g < G := HGL.out
  have k2 : G < w2.heap.size := HG2.out
  have k3 : ¬ g = w2.heap.size := by omega
  have k4 : ¬ w2.heap.size = g := by omega
  have k5 : ¬ g = G := by omega
  have k6 : ¬ G = g := by omega
  clear hb2 hb3 h3 ha3 hq3
  go_wp2_with fail
  have hA := H3.out.set3 n none
  have oA := three_one (w2.alloc (.cells #[.int .u8 q.1, .int .u16 q.2] 69)) g (n * 3) (n * 3 + 1) (n * 3 + 1 + 1) (.bool (none : Option (Nat × Nat)).isSome) (.int .u8 (((none : Option (Nat × Nat)).getD (0, 0)).1 : Nat)) (.int .u16 (((none : Option (Nat × Nat)).getD (0, 0)).2 : Nat))
  have hGA := oA.blk HA3.out (fun e => by cases e; omega)
  have hA : NS (((((w2.alloc (.cells #[.int .u8 q.1, .int .u16 q.2] 69)).setCell ⟨g, n * 3, none⟩ (.bool false)).setCell ⟨g, n * 3 + 1, none⟩ (.int .u8 0)).setCell ⟨g, n * 3 + 2, none⟩ (.int .u16 0))) g (setM M n none) := hA
  have oA : One (w2.alloc (.cells #[.int .u8 q.1, .int .u16 q.2] 69)) (((((w2.alloc (.cells #[.int .u8 q.1, .int .u16 q.2] 69)).setCell ⟨g, n * 3, none⟩ (.bool false)).setCell ⟨g, n * 3 + 1, none⟩ (.int .u8 0)).setCell ⟨g, n * 3 + 2, none⟩ (.int .u16 0))) (some g) := oA
  have hGA : (((((w2.alloc (.cells #[.int .u8 q.1, .int .u16 q.2] 69)).setCell ⟨g, n * 3, none⟩ (.bool false)).setCell ⟨g, n * 3 + 1, none⟩ (.int .u8 0)).setCell ⟨g, n * 3 + 2, none⟩ (.int .u16 0))).heap[G]? = some (.cells #[.int .u8 0, .int .u16 0] 69 (0, 0)) := hGA
  generalize ((((w2.alloc (.cells #[.int .u8 q.1, .int .u16 q.2] 69)).setCell ⟨g, n * 3, none⟩ (.bool false)).setCell ⟨g, n * 3 + 1, none⟩ (.int .u8 0)).setCell ⟨g, n * 3 + 2, none⟩ (.int .u16 0)) = wA at *
  obtain ⟨h4, o4⟩ := set_two hGA (.int .u8 q.1) (.int .u16 q.2)
  generalize (wA.setCell ⟨G, 0, none⟩ (.int .u8 q.1)).setCell ⟨G, 1, none⟩ (.int .u16 q.2) = wB at *
  have hrun := idLoad wB G q.1 q.2 h4
  have o1 : One w (w2.alloc (.cells #[.int .u8 q.1, .int .u16 q.2] 69)) (some g) := one_of_below (by rw [HG.out]; exact HB.out.trans (HB3.out.mono (by have := HB.out.size; rw [HG.out] at this; exact this))) _
  exact bodyPost_ret (v := .tuple #[.agg #[.int .u8 q.1, .int .u16 q.2], .int .i64 0]) (by simp [results, Try.results54, Act.put, asAddr, hrun]) rfl ⟨rfl, hA.of_block (o4.block g hA.lt (fun e => by cases e; omega)), one_new (o1.trans oA) o4 (by rw [HG.out]; omega)⟩
set_option maxRecDepth 20000 in
set_option maxHeartbeats 4000000 in
theorem setCut_no (h : NS w g M) (i : Int) (hi : i < 0 ∨ 8 ≤ i ∨ ∃ n : Nat, i = n ∧ n < 8 ∧ M n = none) :
    Calls Try.prog 54 #[.pointer (some ⟨g, 0, none⟩), .int .i64 i] w fun e w' => e = .returned (.tuple #[.agg #[.int .u8 0, .int .u16 0], .int .i64 13]) ∧ Below w.heap.size w w' := by
  have hb := bnew w (.cells #[.int .u8 0, .int .u16 0] 69)
  have ha := heap_alloc_last w (.cells #[.int .u8 0, .int .u16 0] 69)
  have h1 : NS _ g M := h.of_block (hb.block g h.lt)
  have HB := Lib.hid hb
  have HA := Lib.hid ha
  have H1 := Lib.hid h1
  have HI := Lib.hid hi
  clear h hb ha h1 hi
  go_enter Try.func54, Try.ntmps54
  go_wp2_with fail
  generalize hG : w.heap.size = G at *
  generalize w.alloc (.cells #[.int .u8 0, .int .u16 0] 69) = w1 at *
  have HG := Lib.hid hG
  clear hG
  refine (setGet_no H1.out i HI.out).mono ?_; rintro e w2 ⟨rfl, hb2⟩
  have hb3 := bnewAfter hb2 (.cells #[.int .u8 0, .int .u16 0] 69)
  have ha3 := bkeep hb3 HA.out
  have HB3 := Lib.hid hb3
  have HA3 := Lib.hid ha3
  have c5 := rowcell ha3
  have c6 := rowfree ha3
  clear hb2 hb3 ha3
  go_wp2_with fail
  obtain ⟨h4, o4⟩ := set_two HA3.out (.int .u8 0) (.int .u16 0)
  generalize hw4 : ((w2.alloc (.cells #[.int .u8 0, .int .u16 0] 69)).setCell ⟨G, 0, none⟩ (.int .u8 0)).setCell ⟨G, 1, none⟩ (.int .u16 0) = w4 at *
  have hrun := idLoad w4 G 0 0 h4
  have hB : Below w.heap.size w (w2.alloc (.cells #[.int .u8 0, .int .u16 0] 69)) := by rw [HG.out]; exact HB.out.trans (HB3.out.mono (by have := HB.out.size; rw [HG.out] at this; exact this))
  exact bodyPost_ret (v := .tuple #[.agg #[.int .u8 0, .int .u16 0], .int .i64 13]) (by simp [results, Try.results54, Act.put, asAddr, hrun]) rfl ⟨rfl, bone hB o4 (by rw [HG.out]; omega) hB.size⟩

set_option maxRecDepth 20000 in
set_option maxHeartbeats 4000000 in
theorem setTurn_no (h : NS w g M) (i : Int) (p : Nat × Nat) (hi : i < 0 ∨ 8 ≤ i ∨ ∃ n : Nat, i = n ∧ n < 8 ∧ M n = none) :
    Calls Try.prog 55 #[.pointer (some ⟨g, 0, none⟩), .int .i64 i, .agg #[.int .u8 p.1, .int .u16 p.2]] w fun e w' => e = .returned (.int .i64 13) ∧ Below w.heap.size w w' := by
  have hb := bnew w (.cells #[.int .u8 p.1, .int .u16 p.2] 69)
  have h1 : NS _ g M := h.of_block (hb.block g h.lt)
  have HB := Lib.hid hb
  have H1 := Lib.hid h1
  have HI := Lib.hid hi
  clear h hb h1 hi
  go_enter Try.func55, Try.ntmps55
  go_wp2_with fail
  refine (setGet_no H1.out i HI.out).mono ?_; rintro e w2 ⟨rfl, hb2⟩
  have HB2 := Lib.hid (bnext HB.out hb2)
  clear hb2
  go_wp2_with fail
  go_ret
  exact ⟨rfl, bnewAfter HB2.out _⟩
set_option maxRecDepth 20000 in
set_option maxHeartbeats 4000000 in
theorem setTurn_yes (h : NS w g M) (n : Nat) (hn : n < 8) (p q : Nat × Nat) (hM : M n = some q) :
    Calls Try.prog 55 #[.pointer (some ⟨g, 0, none⟩), .int .i64 n, .agg #[.int .u8 p.1, .int .u16 p.2]] w fun e w' => e = .returned (.int .i64 0) ∧ NS w' g (setM M n (some p)) ∧ One w w' (some g) := by
  have hb := bnew w (.cells #[.int .u8 p.1, .int .u16 p.2] 69)
  have ha := heap_alloc_last w (.cells #[.int .u8 p.1, .int .u16 p.2] 69)
  have h1 : NS _ g M := h.of_block (hb.block g h.lt)
  have HB := Lib.hid hb
  have HA := Lib.hid ha
  have H1 := Lib.hid h1
  have HM := Lib.hid hM
  clear h hb ha h1 hM
  go_enter Try.func55, Try.ntmps55
  go_wp2_with fail
  generalize hG : w.heap.size = G at *
  generalize w.alloc (.cells #[.int .u8 p.1, .int .u16 p.2] 69) = w1 at *
  have HG := Lib.hid hG
  clear hG
  refine (setGet_yes H1.out n hn q HM.out).mono ?_; rintro e w2 ⟨rfl, hb2⟩
  have hb3 := bnewAfter hb2 (.cells #[.int .u8 q.1, .int .u16 q.2] 69)
  have h3 : NS _ g M := H1.out.of_block (hb3.block g H1.out.lt)
  have ha3 := bkeep hb3 HA.out
  have HB3 := Lib.hid hb3
  have H3 := Lib.hid h3
  have c2 := h3.lab hn
  have c3 := h3.num hn
  have c4 := h3.frozen
  have c5 := rowcell ha3
  have c8 : (n : Int) < 8 := by omega
  clear hb2 hb3 h3 ha3
  go_wp2_with fail
  generalize w2.alloc (.cells #[.int .u8 q.1, .int .u16 q.2] 69) = w3 at *
  refine wp_region_still_tail 7 (by kernel_rfl) (by kernel_rfl) ?_
  simp only [List.take_succ_cons, List.take_zero, List.drop_succ_cons, List.drop_zero]
  change wpStill _ _ (World.drew w3) _ _ _
  iterate 7 still_step
  refine wpStill_nil ?_
  change wpList _ _ _ _ _ (World.drew w3)
  go_wp2_with fail
  go_ret
  have h4 := H3.out.setId n (by rw [HM.out]; rfl) p
  have oo := (one_setCell w3 g (n * 3 + 1) (.int .u8 p.1)).trans (one_setCell _ g (n * 3 + 1 + 1) (.int .u16 p.2))
  have o1 : One w w3 (some g) := one_of_below (by rw [HG.out]; exact HB.out.trans (HB3.out.mono (by have := HB.out.size; rw [HG.out] at this; exact this))) _
  exact ⟨rfl, h4.of_block rfl, (o1.trans oo).trans (one_of_below (drewb _) _)⟩

/-- The numbers that are taken, rising. -/
def numsTo (M : Nat → Option (Nat × Nat)) (k : Nat) : List Nat := (List.range k).filter fun i => (M i).isSome
theorem numsTo_next (M : Nat → Option (Nat × Nat)) (k : Nat) : numsTo M (k + 1) = if (M k).isSome = true then numsTo M k ++ [k] else numsTo M k := by
  simp only [numsTo, List.range_succ, List.filter_append]
  by_cases h : (M k).isSome = true <;> simp [h]
theorem numsTo_len (M : Nat → Option (Nat × Nat)) (k : Nat) : (numsTo M k).length ≤ k := by
  have := List.length_filter_le (fun i : Nat => (M i).isSome) (List.range k)
  simpa [numsTo] using this
theorem numsTo_lt (M : Nat → Option (Nat × Nat)) (k : Nat) : ∀ x ∈ numsTo M k, x < k := by
  intro x hx
  simp only [numsTo, List.mem_filter, List.mem_range] at hx
  exact hx.1
def intVs (l : List Nat) : List Value := l.map fun x => .int .i64 (x : Nat)

set_option maxRecDepth 20000 in
set_option maxHeartbeats 4000000 in
theorem setNumbers_in (h : NS w g M) :
    Calls Try.prog 57 #[.pointer (some ⟨g, 0, none⟩)] w fun e w' => Below w.heap.size w w' ∧ ∃ v, e = .returned v ∧ w'.ownsRow w.heap.size 3 1 v (numsTo M 8).length (intVs (numsTo M 8)) := by
  have H1 := Lib.hid h
  clear h
  go_enter Try.func57, Try.ntmps57
  go_wp2_with fail
  go_loopw [3, 7] (fun u r wr => ∃ i : Nat, i ≤ 8 ∧ r = .int .i64 i ∧ Below w.heap.size w wr ∧ wr.ownsRow w.heap.size 3 1 u (numsTo M i).length (intVs (numsTo M i))) (fun _ r _ => 8 - (intOf r).toNat)
  case atStart => exact ⟨0, by omega, rfl, Below.refl _ _, ⟨rfl, .inl ⟨rfl, rfl⟩⟩⟩
  case round =>
    obtain ⟨i, hi, rfl, hbr, hor⟩ := hrel
    have HBR := Lib.hid hbr
    have HOR := Lib.hid hor
    have h2 : NS wr g M := H1.out.of_block (hbr.block g H1.out.lt)
    have H2 := Lib.hid h2
    clear hbr hor h2
    by_cases hlt : i < 8
    · have c1 := H2.out.used hlt
      have c2 : (i : Int) < 8 := by omega
      have hnx := Lib.hid (numsTo_next M i)
      have hsl := numsTo_len M i
      cases hm : (M i).isSome with
      | false =>
        rw [hm] at c1
        have hne := Lib.hid (show numsTo M (i + 1) = numsTo M i by rw [hnx.out, hm]; simp)
        clear hm hnx
        go_wp2_with fail
        go_roundw
        case rel => exact ⟨i + 1, by omega, by go_num, HBR.out, by rw [hne.out]; exact HOR.out⟩
        case measure => simp [intOf]; omega
      | true =>
        rw [hm] at c1
        have hne := Lib.hid (show numsTo M (i + 1) = numsTo M i ++ [i] by rw [hnx.out, hm]; simp)
        clear hm hnx
        go_wp2_with (with_reducible refine wpList_stop (some 20) rfl ?_)
        refine Lib.hid ?_
        have hbi5 := bnew wr (.cells #[.int .i64 i] 3)
        have hM5 := own_below HOR.out hbi5
        have hl5 := heap_alloc_last wr (.cells #[.int .i64 i] 3)
        have hw5 := bnext HBR.out hbi5
        obtain ⟨A, c, hA⟩ := own_form HOR.out
        subst hA
        refine wpList_append_sr rfl (.tmp 17) (.tmp 19) 53 rfl (some 20) rfl w.heap.size 3 (.int .i64 0) 1 8 Try.underlying53 (by kernel_rfl) rfl (by decide) (.slice A (numsTo M i).length c) (.slice (some ⟨wr.heap.size, 0, none⟩) 1 1) (numsTo M i).length 1 (intVs (numsTo M i)) _ rfl hM5 rfl (SR.lit hl5 rfl) (List.all_eq_true.1 (by rfl)) (by unfold maxLen; omega) (by omega) hw5.size ?_
        intro v8 w8 hown8 hgr8 hloc8
        have o8 := one_of_grown hgr8
        have hb8 := hw5.trans (o8.toBelow (fun j hj => by have := (own_blk hM5 hj).1; omega) hw5.size)
        have HB8 := Lib.hid hb8
        have HO8 := Lib.hid hown8
        clear hown8 hgr8 hloc8 o8 hM5 hl5 hw5 hbi5 hb8
        go_wp2_with fail
        go_roundw
        case rel => exact ⟨i + 1, by omega, by go_num, HB8.out, by rw [hne.out]; simpa [intVs] using HO8.out⟩
        case measure => simp [intOf]; omega
    · obtain rfl : i = 8 := by omega
      have c2 : ¬ (((8 : Nat) : Int) < 8) := by omega
      go_wp2_with fail
      go_ret
      exact ⟨HBR.out, _, rfl, HOR.out⟩
set_option maxRecDepth 20000 in
set_option maxHeartbeats 4000000 in
theorem setRoom_in (h : NS w g M) : Calls Try.prog 58 #[.pointer (some ⟨g, 0, none⟩)] w fun e w' => e = .returned (.int .i64 (8 - ((numsTo M 8).length : Int))) ∧ Below w.heap.size w w' := by
  have H1 := Lib.hid h
  clear h
  go_enter Try.func58, Try.ntmps58
  go_wp2_with fail
  refine (setNumbers_in H1.out).mono ?_
  rintro e w2 ⟨hb2, v, rfl, ho⟩
  obtain ⟨A, c, rfl⟩ := own_form ho
  have hl := numsTo_len M 8
  have HB := Lib.hid hb2
  clear hb2 ho
  obtain ⟨n, hn⟩ : ∃ n, n = (numsTo M 8).length := ⟨_, rfl⟩
  rw [← hn] at hl ⊢
  have HN := Lib.hid hn
  clear hn
  have c1 : IntKind.i64.wrap (8 - (n : Int)) = 8 - (n : Int) := by rw [IntKind.wrap_i64]; omega
  go_wp2_with fail
  go_ret
  exact ⟨ret_int (by rw [HN.out]), HB.out⟩
end
end Go.Proofs.Ytfnkbgcgajgppaa
