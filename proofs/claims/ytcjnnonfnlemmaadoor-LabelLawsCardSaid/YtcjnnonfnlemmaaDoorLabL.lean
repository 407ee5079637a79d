/- Labels: contracts of Below, Chain. -/
import Derived.Test.YtcjnnonfnlemmaaDoorLabJ
set_option linter.unusedVariables false
set_option linter.unusedSimpArgs false
namespace Go.Proofs.YtcjnnonfnlemmaaDoor
open Go.RowKit

/-- The numbers below a bound that meet a test. -/
def upTo (f : Nat → Bool) (k : Nat) : List Nat := (List.range k).filter f
theorem upTo_next (f : Nat → Bool) (k : Nat) : upTo f (k + 1) = upTo f k ++ (if f k then [k] else []) := by
  unfold upTo
  rw [List.range_succ, List.filter_append]
  by_cases h : f k <;> simp [h]
theorem upTo_len (f : Nat → Bool) (k : Nat) : (upTo f k).length ≤ k := Nat.le_trans (List.length_filter_le _ _) (by simp)
theorem upTo_lt (f : Nat → Bool) (k : Nat) : ∀ c ∈ upTo f k, c < k := fun c hc => by
  simp only [upTo, List.mem_filter, List.mem_range] at hc
  exact hc.1
/-- Which of labels are at or below one? -/
def belowF (ls : List (Nat × Nat)) (x : Nat × Nat) (i : Nat) : Bool := leqL (ls.getD i (0, 0)) x

set_option maxHeartbeats 4000000 in
theorem labBelow_any (v : Value) (ls : List (Nat × Nat)) (x : Nat × Nat) (hx : okL x) (w : World) (hv : LS w v ls) (hn : ls.length ≤ 1000) :
    Calls Tryd.prog 22 #[v, labV x] w fun e w' => ∃ u, e = .returned u ∧ w'.ownsRow w.heap.size 3 1 u (upTo (belowF ls x) ls.length).length (ints (upTo (belowF ls x) ls.length)) ∧ Below w.heap.size w w' := by
  obtain ⟨A, cap, rfl, hlc, hcm⟩ := hv.sr.form
  have HV := Lib.hid hv
  clear hv
  unfold labV
  go_enter Tryd.func22, Tryd.ntmps22
  go_wp2_with fail
  have g1 := labRow_new w 25 x
  have hb := bnew w (.cells #[.int .u8 x.1, .int .u16 x.2] 25)
  generalize w.alloc (.cells #[.int .u8 x.1, .int .u16 x.2] 25) = w1 at *
  go_loopw [5, 10] (fun v5 v10 wr => ∃ k : Nat, k ≤ ls.length ∧ v10 = .int .i64 k ∧ wr.ownsRow (w.heap.size + 1) 3 1 v5 (upTo (belowF ls x) k).length (ints (upTo (belowF ls x) k)) ∧ wr.rowIs w.heap.size 25 2 (labRow x) ∧ Below w.heap.size w wr) (fun _ v10 _ => (ls.length - intOf v10).toNat)
  case atStart => exact ⟨0, by omega, rfl, World.ownsRow_nil _ _ _ _, g1, hb⟩
  case round =>
    clear g1 hb
    obtain ⟨k, hk, rfl, hown, hrow, hB⟩ := hrel
    by_cases hlt : k < ls.length
    · have hpok := HV.out.wf ls[k] (List.getElem_mem hlt)
      have hget : belowF ls x k = leqL ls[k] x := by unfold belowF; rw [List.getD_eq_getElem?_getD, List.getElem?_eq_getElem hlt]; rfl
      rcases (HV.out.keep hB).cases with ⟨h, _⟩ | ⟨_, g, off, cap', hs, _, _, hg, hc⟩
      · rw [h] at hlt; simp at hlt
      cases hs
      obtain ⟨d0, d1⟩ := hc k hlt
      have hnx := upTo_next (belowF ls x) k
      have hcl := upTo_len (belowF ls x) k
      rw [hget] at hnx
      generalize ls[k] = p at *
      have x0 := labRow0 hrow
      have x1 := labRow1 hrow
      have hl0 := hrow.lt
      have hBn := hB.alloc hB.size (.cells #[.int .u8 p.1, .int .u16 p.2] 25)
      have r2 := hrow.alloc (.cells #[.int .u8 p.1, .int .u16 p.2] 25)
      have o2 := own_below hown (bnew wr (.cells #[.int .u8 p.1, .int .u16 p.2] 25))
      clear hc hrow hown hget
      go_wp2_with fail
      generalize wr.alloc (.cells #[.int .u8 p.1, .int .u16 p.2] 25) = w2 at *
      go_at_call 16
      refine (labLeq_any p x hpok hx _).mono ?_
      rintro e w3 ⟨he, hb3⟩; subst he
      have r3 := r2.of_block (hb3.block _ r2.lt)
      have o3 := own_below o2 hb3
      have B3 := hBn.trans (hb3.mono hBn.size)
      clear r2 o2 hBn
      cases hpk : leqL p x
      · rw [hpk] at hnx
        simp only [Bool.false_eq_true, if_false, List.append_nil] at hnx
        go_wp2_with fail
        go_roundw
        case rel => exact ⟨k + 1, by omega, by go_num, by rw [hnx]; exact o3, r3, B3⟩
        case measure => simp [intOf]; omega
      · rw [hpk] at hnx
        simp only [if_true] at hnx
        obtain ⟨ad, c0, hform⟩ := own_form o3
        have HN := Lib.hid hnx
        have R3 := Lib.hid r3
        clear hnx r3
        subst hform
        go_wp2_with (with_reducible refine wpList_stop (some 21) rfl ?_)
        refine Lib.hid ?_
        refine wpList_append_sr rfl (.tmp 18) (.tmp 20) 22 rfl (some 21) rfl (w.heap.size + 1) 3 (.int .i64 0) 1 8 Tryd.underlying22 int_row rfl (by omega) (.slice ad (upTo (belowF ls x) k).length c0) (.slice (some ⟨w3.heap.size, 0, none⟩) 1 1) (upTo (belowF ls x) k).length 1
              (ints (upTo (belowF ls x) k)) [.int .i64 k] rfl (own_below o3 (bnew _ _)) rfl (SR.of_own (World.ownsRow_lit w3 #[.int .i64 k] 1 (Nat.le_refl _) (by simp [maxLen]) rfl)) (fun u hu => by simp only [List.mem_singleton] at hu; subst hu; rfl) (by simp [maxLen]; omega) (by omega) (by have := R3.out.lt; simp; omega) ?_
        intro u w5 hown5 hg5 hat5
        go_wp2_with fail
        go_roundw
        case rel =>
          refine ⟨k + 1, by omega, by go_num, ?_, R3.out.of_block ?_, ?_⟩
          · rw [HN.out, ints_app, List.length_append]; exact hown5
          · rw [hg5.block _ (by have := R3.out.lt; simp; omega) (fun h => by have := (o3.lt _ h.symm).1; omega), Below.heap_alloc _ _ _ R3.out.lt]
          · exact (B3.alloc B3.size _).grown hg5 (by have := B3.size; simp; omega) (fun j hj => by have := (o3.lt _ hj).1; omega)
        case measure => simp [intOf]; omega
    · have hkn : k = ls.length := by omega
      subst hkn
      obtain ⟨ad, c0, rfl⟩ := own_form hown
      go_wp2_with fail
      go_ret
      exact ⟨_, rfl, own_lower hown (Nat.le_succ _), hB⟩

/-- Is each at or below the next, up to a place? -/
def chainTo (ls : List (Nat × Nat)) (k : Nat) : Bool := (List.range k).all fun i => decide (i = 0) || leqL (ls.getD (i - 1) (0, 0)) (ls.getD i (0, 0))
theorem chainTo_next (ls : List (Nat × Nat)) (k : Nat) : chainTo ls (k + 1) = (chainTo ls k && (decide (k = 0) || leqL (ls.getD (k - 1) (0, 0)) (ls.getD k (0, 0)))) := by
  unfold chainTo
  rw [List.range_succ, List.all_append]
  simp

set_option maxHeartbeats 4000000 in
theorem labChain_any (v : Value) (ls : List (Nat × Nat)) (w : World) (hv : LS w v ls) (hn : ls.length ≤ 1000) :
    Calls Tryd.prog 23 #[v] w fun e w' => e = .returned (.bool (chainTo ls ls.length)) ∧ Below w.heap.size w w' := by
  obtain ⟨A, cap, rfl, hlc, hcm⟩ := hv.sr.form
  have HV := Lib.hid hv
  clear hv
  go_enter Tryd.func23, Tryd.ntmps23
  go_wp2_with fail
  go_loopw [3] (fun v3 wr => ∃ k : Nat, 1 ≤ k ∧ (k ≤ ls.length ∨ k = 1) ∧ v3 = .int .i64 k ∧ chainTo ls k = true ∧ Below w.heap.size w wr) (fun v3 _ => (ls.length + 1 - intOf v3).toNat)
  case atStart => exact ⟨1, by omega, .inr rfl, rfl, by simp [chainTo], Below.refl _ _⟩
  case round =>
    obtain ⟨k, hk1, hk, rfl, hch, hB⟩ := hrel
    by_cases hlt : k < ls.length
    · obtain ⟨j, rfl⟩ : ∃ j, k = j + 1 := ⟨k - 1, by omega⟩
      have hp := HV.out.wf ls[j] (List.getElem_mem (by omega))
      have hq := HV.out.wf ls[j + 1] (List.getElem_mem hlt)
      have hnx := chainTo_next ls (j + 1)
      rw [hch, Bool.true_and, decide_eq_false (by omega), Bool.false_or, Nat.add_sub_cancel, List.getD_eq_getElem?_getD, List.getD_eq_getElem?_getD, List.getElem?_eq_getElem hlt, List.getElem?_eq_getElem (by omega : j < ls.length)] at hnx
      simp only [Option.getD_some] at hnx
      rcases (HV.out.keep hB).cases with ⟨h, _⟩ | ⟨_, g, off, cap', hs, _, _, hg, hc⟩
      · rw [h] at hlt; simp at hlt
      cases hs
      obtain ⟨d0, d1⟩ := hc j (by omega)
      obtain ⟨e0, e1⟩ := hc (j + 1) hlt
      have hle : ¬ (j + 1 : Nat) < 0 := by omega
      generalize ls[j] = p at *
      generalize ls[j + 1] = q at *
      have q0 := regrown_cell d0
      have q1 := regrown_cell d1
      have q2 := regrown_cell e0
      have q3 := regrown_cell e1
      clear hc
      go_wp2_with fail
      refine wp_region_quiet_below (by kernel_rfl) (by kernel_rfl) ?_
      repeat (go_big_quiet_step (first
        | (go_at_call 16; exact Calls.regrown_of (labLeq_any p q hp hq _))))
      refine wpQuiet_nil ?_
      intro w6 hw6
      have hb6 : Below wr.heap.size wr w6 := by obtain ⟨p, rfl⟩ := hw6; exact below_regrown wr p.d p.os
      have hB6 := hB.trans (hb6.mono hB.size)
      clear hw6 q0 q1 q2 q3
      cases hpq : leqL p q
      · rw [hpq] at hnx
        have hno : chainTo ls ls.length = false := by
          cases h : chainTo ls ls.length
          · rfl
          · have h2 : chainTo ls (j + 1 + 1) = true := by
              unfold chainTo at h ⊢
              rw [List.all_eq_true] at h ⊢
              exact fun x hx => h x (by simp only [List.mem_range] at hx ⊢; omega)
            rw [hnx] at h2; cases h2
        have HN := Lib.hid hno
        clear hno hnx
        go_wp2_with fail
        go_ret
        exact ⟨ret_bool HN.out.symm, hB6⟩
      · rw [hpq] at hnx
        have HN := Lib.hid hnx
        clear hnx
        go_wp2_with fail
        go_roundw
        case rel => exact ⟨j + 1 + 1, by omega, .inl (by omega), by go_num, HN.out, hB6⟩
        case measure => simp [intOf]; omega
    · have hyes : chainTo ls ls.length = true := by
        unfold chainTo at hch ⊢
        rw [List.all_eq_true] at hch ⊢
        exact fun x hx => hch x (by simp only [List.mem_range] at hx ⊢; omega)
      have HN := Lib.hid hyes
      clear hyes hch
      go_wp2_with fail
      go_ret
      exact ⟨ret_bool HN.out.symm, hB⟩
end Go.Proofs.YtcjnnonfnlemmaaDoor
