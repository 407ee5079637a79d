/- Labels: contracts of Cats (both), SameInts, Valid. -/
import Derived.Test.YtmieioaklgdbdaaDoorLabE
import Derived.Test.YtmieioaklgdbdaaDoorBlk
set_option linter.unusedVariables false
set_option linter.unusedSimpArgs false
namespace Go.Proofs.YtmieioaklgdbdaaDoor
open Go.RowKit

theorem int_row : (Tryd.prog.info? 3).map (fun i => (i.zero, i.size, i.bytes)) = some (some (.int .i64 0), 1, 8) := by kernel_rfl

/-- The lowest bit; the number without it. -/
theorem low_bits (c : Nat) (h0 : c ≠ 0) (h : c < 65536) : Lib.ctz 16 c < 16 ∧ c.testBit (Lib.ctz 16 c) = true ∧ (∀ j, j < Lib.ctz 16 c → c.testBit j = false) ∧ ∀ j, (c &&& (c - 1)).testBit j = (!decide (j = Lib.ctz 16 c) && c.testBit j) := by
  obtain ⟨m, hm, hk⟩ := Lib.ctzFrom_spec 16 c (by omega) h
  have e : Lib.ctz 16 c = Lib.ctzFrom 16 c := by simp [Lib.ctz, h0]
  rw [e]
  generalize Lib.ctzFrom 16 c = k at *
  have hp : 0 < 2 ^ k := Nat.two_pow_pos k
  have e1 : c = 2 ^ k * (2 * m + 1) + 0 := by rw [Nat.add_zero]; exact hm
  have e2 : c - 1 = 2 ^ k * (2 * m) + (2 ^ k - 1) := by rw [hm, Nat.mul_add]; omega
  have b1 : ∀ j, c.testBit j = if j < k then false else (2 * m + 1).testBit (j - k) := fun j => by
    rw [e1, Nat.testBit_two_pow_mul_add _ hp]
    split
    · exact Nat.zero_testBit _
    · rfl
  have b2 : ∀ j, k ≤ j → (c - 1).testBit j = (2 * m).testBit (j - k) := fun j hj => by
    rw [e2, Nat.testBit_two_pow_mul_add _ (by omega), if_neg (by omega)]
  refine ⟨hk, ?_, fun j hj => by rw [b1 j, if_pos hj], fun j => ?_⟩
  · rw [b1 k, if_neg (by omega), Nat.sub_self, Nat.testBit_zero, decide_eq_true (by omega)]
  · rw [Nat.testBit_and]
    by_cases hj : j < k
    · rw [b1 j, if_pos hj]; simp
    · rw [b2 j (by omega), b1 j, if_neg hj]
      by_cases hjk : j = k
      · subst hjk
        rw [Nat.sub_self, Nat.testBit_zero, Nat.testBit_zero]
        simp
      · obtain ⟨i, hi⟩ : ∃ i, j - k = i + 1 := ⟨j - k - 1, by omega⟩
        rw [hi, Nat.testBit_succ, Nat.testBit_succ, show (2 * m + 1) / 2 = m by omega, show 2 * m / 2 = m by omega]
        simp [hjk]

/-- The categories below a bound. -/
def catsTo (x t : Nat) : List Nat := (List.range t).filter fun j => x.testBit j
def ints (l : List Nat) : List Value := l.map fun (j : Nat) => Value.int .i64 (j : Int)
theorem catsTo_next (x t : Nat) : catsTo x (t + 1) = catsTo x t ++ (if x.testBit t then [t] else []) := by
  unfold catsTo
  rw [List.range_succ, List.filter_append]
  by_cases h : x.testBit t <;> simp [h]
theorem catsTo_jump (x t : Nat) : ∀ k, (∀ j, t ≤ j → j < t + k → x.testBit j = false) → catsTo x (t + k) = catsTo x t
  | 0, _ => rfl
  | k + 1, h => by
    rw [← Nat.add_assoc, catsTo_next, catsTo_jump x t k (fun j h1 h2 => h j h1 (by omega)), h (t + k) (by omega) (by omega)]
    simp
theorem catsTo_len (x t : Nat) : (catsTo x t).length ≤ t := Nat.le_trans (List.length_filter_le _ _) (by simp)
theorem ints_len (l : List Nat) : (ints l).length = l.length := by simp [ints]
theorem ints_app (l : List Nat) (k : Nat) : ints (l ++ [k]) = ints l ++ [.int .i64 k] := by simp [ints]

theorem own_lower {w : World} {base base' : Nat} {e : TypeId} {size : Nat} {v : Value} {n : Nat} {xs : List Value} (h : w.ownsRow base e size v n xs) (hb : base' ≤ base) : w.ownsRow base' e size v n xs := by
  refine ⟨h.1, ?_⟩
  rcases h.2 with h1 | ⟨g0, c0, cur, hv, hb0, hrest⟩
  · exact .inl h1
  · exact .inr ⟨g0, c0, cur, hv, Nat.le_trans hb hb0, hrest⟩

set_option maxHeartbeats 4000000 in
theorem refCats_any (p : Nat × Nat) (hp : okL p) (w : World) :
    Calls Tryd.prog 19 #[labV p] w fun e w' => ∃ v, e = .returned v ∧ w'.ownsRow w.heap.size 3 1 v (catsL p.2).length (ints (catsL p.2)) ∧ Below w.heap.size w w' := by
  unfold labV
  go_enter Tryd.func19, Tryd.ntmps19
  go_wp2_with fail
  have g1 := labRow_new w 24 p
  have hb := bnew w (.cells #[.int .u8 p.1, .int .u16 p.2] 24)
  generalize w.alloc (.cells #[.int .u8 p.1, .int .u16 p.2] 24) = w1 at *
  go_loopw [3, 4] (fun v3 v4 wr => ∃ k : Nat, k ≤ 16 ∧ v4 = .int .i64 k ∧ wr.ownsRow (w.heap.size + 1) 3 1 v3 (catsTo p.2 k).length (ints (catsTo p.2 k)) ∧ wr.rowIs w.heap.size 24 2 (labRow p) ∧ Below w.heap.size w wr) (fun _ v4 _ => (16 - intOf v4).toNat)
  case atStart => exact ⟨0, by omega, rfl, World.ownsRow_nil _ _ _ _, g1, hb⟩
  case round =>
    clear g1 hb
    obtain ⟨k, hk, rfl, hown, hrow, hB⟩ := hrel
    by_cases hlt : k < 16
    · have hlt' : (k : Int) < 16 := by omega
      have x0 := labRow0 hrow
      have x1 := labRow1 hrow
      go_wp2_with fail
      go_at_call 20
      refine (refHas_any p hp k hlt _).mono ?_
      rintro e w3 ⟨he, hb3⟩; subst he
      have r3 := hrow.of_block (hb3.block _ hrow.lt)
      have o3 := own_below hown hb3
      have B3 := hB.trans (hb3.mono hB.size)
      clear hrow hown
      have hnx := catsTo_next p.2 k
      have hcl := catsTo_len p.2 k
      cases hpk : p.2.testBit k
      · rw [hpk] at hnx
        simp only [Bool.false_eq_true, if_false, List.append_nil] at hnx
        go_wp2_with fail
        go_roundw
        case rel => exact ⟨k + 1, by omega, by go_num, by rw [hnx]; exact o3, r3, B3⟩
        case measure => simp [intOf]; omega
      · rw [hpk] at hnx
        simp only [if_true] at hnx
        obtain ⟨ad, c0, hform⟩ := own_form o3
        have HN := Lib.hid hnx
        have R3 := Lib.hid r3
        clear hnx r3
        subst hform
        go_wp2_with (with_reducible refine wpList_stop (some 15) rfl ?_)
        refine Lib.hid ?_
        refine wpList_append_sr rfl (.tmp 12) (.tmp 14) 37 rfl (some 15) rfl (w.heap.size + 1) 3 (.int .i64 0) 1 8 Tryd.underlying37 int_row rfl (by omega) (.slice ad (catsTo p.2 k).length c0) (.slice (some ⟨w3.heap.size, 0, none⟩) 1 1) (catsTo p.2 k).length 1
              (ints (catsTo p.2 k)) [.int .i64 k] rfl (own_below o3 (bnew _ _)) rfl (SR.of_own (World.ownsRow_lit w3 #[.int .i64 k] 1 (Nat.le_refl _) (by simp [maxLen]) rfl)) (fun u hu => by simp only [List.mem_singleton] at hu; subst hu; rfl) (by simp [maxLen]; omega) (by omega) (by have := R3.out.lt; simp; omega) ?_
        intro u w5 hown5 hg5 hat5
        go_wp2_with fail
        go_roundw
        case rel =>
          refine ⟨k + 1, by omega, by go_num, ?_, R3.out.of_block ?_, ?_⟩
          · rw [HN.out, ints_app, List.length_append]; exact hown5
          · rw [hg5.block _ (by have := R3.out.lt; simp; omega) (fun h => by have := (o3.lt _ h.symm).1; omega), Below.heap_alloc _ _ _ R3.out.lt]
          · exact (B3.alloc B3.size _).grown hg5 (by have := B3.size; simp; omega) (fun j hj => by have := (o3.lt _ hj).1; omega)
        case measure => simp [intOf]; omega
    · have hk16 : k = 16 := by omega
      subst hk16
      obtain ⟨ad, c0, rfl⟩ := own_form hown
      go_wp2_with fail
      go_ret
      exact ⟨_, rfl, own_lower hown (Nat.le_succ _), hB⟩
set_option maxHeartbeats 4000000 in
theorem labCats_any (p : Nat × Nat) (hp : okL p) (w : World) (hT : Tab w) :
    Calls Tryd.prog 17 #[labV p] w fun e w' => ∃ v, e = .returned v ∧ w'.ownsRow w.heap.size 3 1 v (catsL p.2).length (ints (catsL p.2)) ∧ Below w.heap.size w w' := by
  have h2 := hp.2
  have hT0 : 0 < w.heap.size := block_lt_of_cell (hT 0 (by omega))
  unfold labV
  go_enter Tryd.func17, Tryd.ntmps17
  go_wp2_with fail
  have hb := bnew w (.cells #[.int .u8 p.1, .int .u16 p.2] 24)
  generalize w.alloc (.cells #[.int .u8 p.1, .int .u16 p.2] 24) = w1 at *
  go_loopw [3, 4] (fun v3 v4 wr => ∃ t c : Nat, t ≤ 16 ∧ c < 65536 ∧ (∀ j, c.testBit j = (decide (t ≤ j) && p.2.testBit j)) ∧ v4 = .int .u16 c ∧ wr.ownsRow w.heap.size 3 1 v3 (catsTo p.2 t).length (ints (catsTo p.2 t)) ∧ Below w.heap.size w wr) (fun _ v4 _ => (intOf v4).toNat)
  case atStart => exact ⟨0, p.2, by omega, h2, fun j => by simp, rfl, World.ownsRow_nil _ _ _ _, hb⟩
  case round =>
    clear hb
    obtain ⟨t, c, ht, hc, hbit, rfl, hown, hB⟩ := hrel
    by_cases h0 : c = 0
    · have hall : catsTo p.2 t = catsL p.2 := by
        have := catsTo_jump p.2 t (16 - t) (fun j h1 _ => by
          have e := hbit j
          rw [h0, Nat.zero_testBit, decide_eq_true h1, Bool.true_and] at e
          exact e.symm)
        rw [show t + (16 - t) = 16 by omega] at this
        exact this.symm
      have h0' : (c : Int) = 0 := by omega
      rw [h0'] at *
      obtain ⟨ad, c0, rfl⟩ := own_form hown
      go_wp2_with fail
      go_ret
      refine ⟨_, rfl, ?_, hB⟩
      rw [← hall]; exact hown
    · obtain ⟨hk, hbk, hlow, hand⟩ := low_bits c h0 hc
      have hcp : (c : Int) ≠ 0 := by omega
      have hcb : ((c : Int) == 0) = false := by rw [beq_eq_false_iff_ne]; omega
      have htz := tz16_any c hc h0 wr (hT.keep hB)
      generalize Lib.ctz 16 c = k at *
      have hpk := hbit k
      rw [hbk] at hpk
      have htk : t ≤ k := by
        rcases Nat.lt_or_ge k t with h | h
        · rw [decide_eq_false (by omega)] at hpk; cases hpk
        · exact h
      rw [decide_eq_true htk, Bool.true_and] at hpk
      have hnx : catsTo p.2 (k + 1) = catsTo p.2 t ++ [k] := by
        rw [catsTo_next, ← hpk, if_pos rfl]
        have := catsTo_jump p.2 t (k - t) (fun j h1 h3 => by
          have e := hlow j (by omega)
          rw [hbit j, decide_eq_true h1, Bool.true_and] at e
          exact e)
        rw [show t + (k - t) = k by omega] at this
        rw [this]
      have hcl := catsTo_len p.2 t
      have hw1 : IntKind.u16.wrap ((c : Int) - 1) = ((c - 1 : Nat) : Int) := by rw [IntKind.wrap_u16]; omega
      have hw2 := bits_and_u16 c (c - 1) hc (by omega)
      have hbit' : ∀ j, (c &&& (c - 1)).testBit j = (decide (k + 1 ≤ j) && p.2.testBit j) := fun j => by
        rw [hand j]
        by_cases hj : j < k
        · rw [hlow j hj, decide_eq_false (by omega : ¬ k + 1 ≤ j)]; simp
        · rw [hbit j, decide_eq_true (by omega : t ≤ j)]
          by_cases hjk : j = k
          · subst hjk; rw [decide_eq_false (by omega : ¬ j + 1 ≤ j)]; simp
          · rw [decide_eq_true (by omega : k + 1 ≤ j)]; simp [hjk]
      have hle : c &&& (c - 1) < c := Nat.lt_of_le_of_lt Nat.and_le_right (by omega)
      obtain ⟨c', hc'⟩ : ∃ c', c' = c &&& (c - 1) := ⟨_, rfl⟩
      rw [← hc'] at hw2 hbit' hle
      have HN := Lib.hid hnx
      have HB := Lib.hid hbit'
      have HT := Lib.hid htz
      clear hnx hbit' hc' hand hbit hlow htz hpk
      obtain ⟨ad, c0, hform⟩ := own_form hown
      subst hform
      have hown' := Lib.hid hown
      clear hown
      go_wp2_with fail
      go_at_call 22
      refine HT.out.mono ?_
      rintro e w3 ⟨he, hw3⟩; subst he hw3
      have o3 := hown'.out
      go_wp2_with (with_reducible refine wpList_stop (some 17) rfl ?_)
      refine Lib.hid ?_
      refine wpList_append_sr rfl (.tmp 13) (.tmp 16) 37 rfl (some 17) rfl w.heap.size 3 (.int .i64 0) 1 8 Tryd.underlying37 int_row rfl (by omega) (.slice ad (catsTo p.2 t).length c0) (.slice (some ⟨w3.heap.size, 0, none⟩) 1 1) (catsTo p.2 t).length 1
              (ints (catsTo p.2 t)) [.int .i64 k] rfl (own_below o3 (bnew _ _)) rfl (SR.of_own (World.ownsRow_lit w3 #[.int .i64 k] 1 (Nat.le_refl _) (by simp [maxLen]) rfl)) (fun u hu => by simp only [List.mem_singleton] at hu; subst hu; rfl) (by simp [maxLen]; omega) (by omega) (by have := hB.size; simp; omega) ?_
      intro u w5 hown5 hg5 hat5
      go_wp2_with fail
      go_roundw
      case rel =>
        refine ⟨k + 1, c', by omega, by omega, HB.out, rfl, ?_, ?_⟩
        · rw [HN.out, ints_app, List.length_append]; exact hown5
        · exact (hB.alloc hB.size _).grown hg5 (by have := hB.size; simp; omega) (fun j hj => (o3.lt _ hj).1)
      case measure => simp [intOf]; omega

end Go.Proofs.YtmieioaklgdbdaaDoor
