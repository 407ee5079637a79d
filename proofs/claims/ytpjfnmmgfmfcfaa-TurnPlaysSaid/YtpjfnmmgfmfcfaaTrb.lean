/- The document's table of processes: Sleep. The document's table of processes: Tick. The document's table of processes: Pick. Whose label's turn an automatic entry is: conf.Slot, turn.Slot. TurnPlays: all that the walk holds. -/
import Derived.Test.YtpjfnmmgfmfcfaaTrG
set_option linter.unusedVariables false
set_option linter.unusedSimpArgs false
namespace Go.Proofs.Ytpjfnmmgfmfcfaa
open Go.RowKit
open Go.Maps (Keyed)

def sevQ (s c u : Nat) (q : QL) : QL := { q with st := s, cau := c, til := u }
section
variable {w w' : World} {gq base : Nat} {R v : Value} {L : List QL}
/-- Seven cells of a process turn. -/
theorem seven_cells (L : List QL) (k : Nat) (hk : k < L.length) (s c u : Nat) :
    (((((((qCells L).set (k * 12 + 3) (.int .i64 s)).set (k * 12 + 4) (.int .i64 c)).set (k * 12 + 5) (.bool false)).set (k * 12 + 6) (.int .u8 0)).set (k * 12 + 7) (.int .u16 0)).set (k * 12 + 8) (.int .u16 0)).set (k * 12 + 9) (.int .u64 u) = qCells (L.set k (sevQ s c u L[k])) := by
  apply List.ext_getElem?
  intro i
  have hlen : ∀ M : List QL, (qCells M).length = M.length * 12 := fun M => by
    induction M with
    | nil => rfl
    | cons a M ih => show ((qA a).toList ++ qCells M).length = _; rw [List.length_append, ih]; simp [qA]; omega
  by_cases hi : i < L.length * 12
  · obtain ⟨m, j, rfl, hj⟩ : ∃ m j, i = m * 12 + j ∧ j < 12 := ⟨i / 12, i % 12, by omega, Nat.mod_lt _ (by omega)⟩
    have hm : m < L.length := by omega
    have h1 : (qCells (L.set k (sevQ s c u L[k])))[m * 12 + j]? = (qA ((L.set k (sevQ s c u L[k]))[m]'(by simpa using hm))).toList[j]? := flat_get (fun q => (qA q).toList) 12 (fun _ => rfl) _ m (by simpa using hm) j hj
    have h2 : (qCells L)[m * 12 + j]? = (qA L[m]).toList[j]? := flat_get (fun q => (qA q).toList) 12 (fun _ => rfl) _ m hm j hj
    rw [h1]
    by_cases e : m = k
    · subst e
      simp only [List.getElem_set_self]
      have hb : m * 12 + 12 ≤ (qCells L).length := by rw [hlen]; omega
      rcases (show j = 0 ∨ j = 1 ∨ j = 2 ∨ j = 3 ∨ j = 4 ∨ j = 5 ∨ j = 6 ∨ j = 7 ∨ j = 8 ∨ j = 9 ∨ j = 10 ∨ j = 11 by omega) with rfl | rfl | rfl | rfl | rfl | rfl | rfl | rfl | rfl | rfl | rfl | rfl
      all_goals simp only [List.getElem?_set, List.length_set]
      all_goals (try simp only [Nat.add_left_cancel_iff])
      all_goals simp [h2, qA, sevQ]
      all_goals first | omega | (simpa [qA] using h2)
    · have hk' : (L.set k (sevQ s c u L[k]))[m]'(by simpa using hm) = L[m] := List.getElem_set_ne (fun h => e h.symm) _
      rw [hk', ← h2]
      simp only [List.getElem?_set, List.length_set]
      have n3 : ¬ k * 12 + 3 = m * 12 + j := by omega
      have n4 : ¬ k * 12 + 4 = m * 12 + j := by omega
      have n5 : ¬ k * 12 + 5 = m * 12 + j := by omega
      have n6 : ¬ k * 12 + 6 = m * 12 + j := by omega
      have n7 : ¬ k * 12 + 7 = m * 12 + j := by omega
      have n8 : ¬ k * 12 + 8 = m * 12 + j := by omega
      have n9 : ¬ k * 12 + 9 = m * 12 + j := by omega
      simp only [n3, n4, n5, n6, n7, n8, n9, if_false]
  · rw [List.getElem?_eq_none (by simp only [List.length_set]; rw [hlen]; omega), List.getElem?_eq_none (by rw [hlen]; simp; omega)]
set_option maxRecDepth 20000 in
set_option maxHeartbeats 8000000 in
theorem refSleep_in (h : RQ w gq base R v L) (uq : UQ L) (l n u : Nat) :
    Calls Try.prog 23 #[.pointer (some ⟨gq, 0, none⟩), .int .i64 l, .int .i64 n, .int .i64 2, .bool false, .agg #[.int .u8 0, .int .u16 0, .int .u16 0], .int .u64 u] w fun e w' => e = .returned (.tuple #[]) ∧ RQ w' gq base R v (L.map (updQ l n (sleepQ u))) ∧ Chg (qS gq v) w w' := by
  have hb0 := bnew w (.cells #[.int .u8 0, .int .u16 0, .int .u16 0] 49)
  have hl0 := heap_alloc_last w (.cells #[.int .u8 0, .int .u16 0, .int .u16 0] 49)
  have HB := Lib.hid (Chg.of_below (qS gq v) hb0)
  have HL := Lib.hid hl0
  have HH := Lib.hid (h.keep hb0)
  have HU := Lib.hid uq
  clear h uq hb0 hl0
  go_enter Try.func23, Try.ntmps23
  go_wp2_with fail
  generalize hG : w.heap.size = G at *
  generalize w.alloc (.cells #[.int .u8 0, .int .u16 0, .int .u16 0] 49) = w1 at *
  have HG := Lib.hid hG
  clear hG
  refine (refFind_in HH.out l n).mono ?_; rintro e w' ⟨⟨z, rfl, hz⟩, rfl⟩
  rcases hz with ⟨k, hk, rfl, hq, hmin⟩ | ⟨rfl, hno⟩
  · obtain ⟨g, c, rfl, hpx⟩ := HH.out.px (Nat.lt_of_le_of_lt (Nat.zero_le _) hk)
    have HP := Lib.hid hpx
    have c1 := hpx.c1
    have hl := HH.out.len
    have z3 : w1.cell? ⟨g, k * 12 + 3, none⟩ = some (.int .i64 L[k].st) := HH.out.cellAt hk (j := 3) (by omega)
    obtain ⟨s3, hs3⟩ : ∃ s3, s3 = L[k].st := ⟨_, rfl⟩
    rw [← hs3] at z3
    obtain ⟨z, hz⟩ : ∃ z, z = L.length := ⟨_, rfl⟩
    rw [← hz] at c1 hl
    have hkz : (k : Int) < z := by omega
    have hke : L.map (updQ l n (sleepQ u)) = L.set k (sleepQ u L[k]) := by rw [HU.out.set _ k hk, hq.1, hq.2]
    by_cases h1 : s3 = 1
    · have q1 : ((s3 : Int) != 1) = false := by rw [bne_eq_false_iff_eq]; omega
      have q2 : (s3 != 1) = false := by rw [bne_eq_false_iff_eq]; exact h1
      have q3 : ((s3 : Int) == 1) = true := by rw [beq_iff_eq]; omega
      have q4 : (s3 == 1) = true := by rw [beq_iff_eq]; exact h1
      have HE := Lib.hid (show L.map (updQ l n (sleepQ u)) = L.set k (sevQ 2 2 u L[k]) from by
        rw [hke]
        congr 1
        unfold sleepQ
        rw [if_pos (by rw [← hs3]; exact h1)]
        rfl)
      have HZ := Lib.hid hz
      have HK := Lib.hid hk
      clear hz hs3 hpx hmin hq h1 hke
      go_upto_region 4 with fail
      clear c1 z3 q1 q2 q3 q4
      have hp0 := HP.out.keep (drewb w1)
      rw [← HZ.out] at hp0
      have hol : k * 12 + 12 ≤ z * 12 := by omega
      have hlG : w1.heap[G]? = some (.cells #[.int .u8 0, .int .u16 0, .int .u16 0] 49 (0, 0)) := HL.out
      have hGg : g ≠ G := fun e => by
        obtain ⟨cur, hc⟩ := HP.out.blk
        rw [e] at hc
        exact absurd (cells_type hc hlG) (by decide)
      have s0 : (fun w' : World => w'.heap[G]? = some (.cells #[.int .u8 0, .int .u16 0, .int .u16 0] 49 (0, 0))) (World.drew w1) := hlG
      refine wp_region_held (S := fun w' => w'.heap[G]? = some (.cells #[.int .u8 0, .int .u16 0, .int .u16 0] 49 (0, 0))) (by kernel_rfl) ?_
      change wpAnyH _ _ _ _ _ _ _ _ (World.drew _)
      refine takeH 0 (.pointer (some ⟨g, k * 12, none⟩)) (some 39) rfl rfl (by kernel_rfl) (by kernel_rfl) (by kernel_rfl) (fun _ _ _ h => h) (.inl ⟨by kernel_rfl, fun w _ => by go_simp⟩) s0 ?_
      refine takeH 1 (.pointer (some ⟨g, k * 12, none⟩)) (some 40) rfl rfl (by kernel_rfl) (by kernel_rfl) (by kernel_rfl) (fun _ _ _ h => h) (.inl ⟨by kernel_rfl, fun w _ => by go_simp⟩) s0 ?_
      refine takeH 2 (.pointer (some ⟨g, k * 12, none⟩)) (some 41) rfl rfl (by kernel_rfl) (by kernel_rfl) (by kernel_rfl) (fun _ _ _ h => h) (.inl ⟨by kernel_rfl, fun w _ => by go_simp⟩) s0 ?_
      refine takeH 3 (.pointer (some ⟨g, k * 12, none⟩)) (some 42) rfl rfl (by kernel_rfl) (by kernel_rfl) (by kernel_rfl) (fun _ _ _ h => h) (.inl ⟨by kernel_rfl, fun w _ => by go_simp⟩) s0 ?_
      refine takeH 4 (.pointer (some ⟨g, k * 12, none⟩)) (some 43) rfl rfl (by kernel_rfl) (by kernel_rfl) (by kernel_rfl) (fun _ _ _ h => h) (.inl ⟨by kernel_rfl, fun w _ => by go_simp⟩) s0 ?_
      go_simp
      refine takeH 5 (.int .i64 2) (some 44) rfl rfl (by kernel_rfl) (by kernel_rfl) (by kernel_rfl) (fun _ _ _ h => h) (.inl ⟨by kernel_rfl, fun w _ => by go_simp⟩) s0 ?_
      refine takeH 6 (.bool false) (some 45) rfl rfl (by kernel_rfl) (by kernel_rfl) (by kernel_rfl) (fun _ _ _ h => h) (.inl ⟨by kernel_rfl, fun w _ => by go_simp⟩) s0 ?_
      refine takeH 7 (.agg #[.int .u8 0, .int .u16 0, .int .u16 0]) (some 46) rfl rfl (by kernel_rfl) (by kernel_rfl) (by kernel_rfl) (fun _ _ _ h => h) (yi_piece (by rfl) 49 (.tmp 12) rfl G 0 (by go_simp) #[.int .u8 0, .int .u16 0, .int .u16 0] _ (fun w' hw j v hj => by rw [rowcell hw, Nat.zero_add]; simpa using hj) Try.underlying49 rfl (by kernel_rfl)) s0 ?_
      refine takeH 8 (.int .u64 u) (some 47) rfl rfl (by kernel_rfl) (by kernel_rfl) (by kernel_rfl) (fun _ _ _ h => h) (.inl ⟨by kernel_rfl, fun w _ => by go_simp⟩) s0 ?_
      go_simp
      refine takeH 9 (.pointer (some ⟨g, k * 12, none⟩)) (some 48) rfl rfl (by kernel_rfl) (by kernel_rfl) (by kernel_rfl) (fun _ _ _ h => h) (.inl ⟨by kernel_rfl, fun w _ => by go_simp⟩) s0 ?_
      refine takeH 10 (.pointer (some ⟨g, k * 12 + 3, none⟩)) (some 49) rfl rfl (by kernel_rfl) (by kernel_rfl) (by kernel_rfl) (fun _ _ _ h => h) (.inl ⟨by kernel_rfl, fun w _ => by go_simp⟩) s0 ?_
      go_simp
      have hp1 := hp0.set (k * 12 + 3) (by omega) (.int .i64 2) rfl
      have o1 := one_setCell (World.drew w1) g (k * 12 + 3) (.int .i64 2)
      have s1 := o1.blk s0 (fun e => by cases e; exact hGg rfl)
      refine runSkipH 11 (w' := (World.drew w1).setCell ⟨g, k * 12 + 3, none⟩ (.int .i64 2)) rfl (by kernel_rfl) (by kernel_rfl) rfl (exec_store_cell 3 _ _ rfl g (k * 12 + 3) (.int .i64 2) (by go_simp) (by go_simp) (by kernel_rfl) (by kernel_rfl) rfl (hp0.isSome (by omega)) (hp0.froz _)) s1 ?_
      obtain ⟨x1, hx⟩ : ∃ x, x = (World.drew w1).setCell ⟨g, k * 12 + 3, none⟩ (.int .i64 2) := ⟨_, rfl⟩
      rw [← hx] at hp1 s1 o1 ⊢
      clear hx
      go_simp
      refine takeH 12 (.pointer (some ⟨g, k * 12, none⟩)) (some 50) rfl rfl (by kernel_rfl) (by kernel_rfl) (by kernel_rfl) (fun _ _ _ h => h) (.inl ⟨by kernel_rfl, fun w _ => by go_simp⟩) s1 ?_
      refine takeH 13 (.pointer (some ⟨g, k * 12 + 4, none⟩)) (some 51) rfl rfl (by kernel_rfl) (by kernel_rfl) (by kernel_rfl) (fun _ _ _ h => h) (.inl ⟨by kernel_rfl, fun w _ => by go_simp⟩) s1 ?_
      go_simp
      have hp2 := hp1.set (k * 12 + 4) (by omega) (.int .i64 2) rfl
      have o2 := one_setCell x1 g (k * 12 + 4) (.int .i64 2)
      have s2 := o2.blk s1 (fun e => by cases e; exact hGg rfl)
      refine runSkipH 14 (w' := x1.setCell ⟨g, k * 12 + 4, none⟩ (.int .i64 2)) rfl (by kernel_rfl) (by kernel_rfl) rfl (exec_store_cell 3 _ _ rfl g (k * 12 + 4) (.int .i64 2) (by go_simp) (by go_simp) (by kernel_rfl) (by kernel_rfl) rfl (hp1.isSome (by omega)) (hp1.froz _)) s2 ?_
      obtain ⟨x2, hx⟩ : ∃ x, x = x1.setCell ⟨g, k * 12 + 4, none⟩ (.int .i64 2) := ⟨_, rfl⟩
      rw [← hx] at hp2 s2 o2 ⊢
      clear hx
      go_simp
      refine takeH 15 (.pointer (some ⟨g, k * 12, none⟩)) (some 52) rfl rfl (by kernel_rfl) (by kernel_rfl) (by kernel_rfl) (fun _ _ _ h => h) (.inl ⟨by kernel_rfl, fun w _ => by go_simp⟩) s2 ?_
      refine takeH 16 (.pointer (some ⟨g, k * 12 + 5, none⟩)) (some 53) rfl rfl (by kernel_rfl) (by kernel_rfl) (by kernel_rfl) (fun _ _ _ h => h) (.inl ⟨by kernel_rfl, fun w _ => by go_simp⟩) s2 ?_
      go_simp
      have hp3 := hp2.set (k * 12 + 5) (by omega) (.bool false) rfl
      have o3 := one_setCell x2 g (k * 12 + 5) (.bool false)
      have s3 := o3.blk s2 (fun e => by cases e; exact hGg rfl)
      refine runSkipH 17 (w' := x2.setCell ⟨g, k * 12 + 5, none⟩ (.bool false)) rfl (by kernel_rfl) (by kernel_rfl) rfl (exec_store_cell 4 _ _ rfl g (k * 12 + 5) (.bool false) (by go_simp) (by go_simp) (by kernel_rfl) (by kernel_rfl) rfl (hp2.isSome (by omega)) (hp2.froz _)) s3 ?_
      obtain ⟨x3, hx⟩ : ∃ x, x = x2.setCell ⟨g, k * 12 + 5, none⟩ (.bool false) := ⟨_, rfl⟩
      rw [← hx] at hp3 s3 o3 ⊢
      clear hx
      go_simp
      refine takeH 18 (.pointer (some ⟨g, k * 12, none⟩)) (some 54) rfl rfl (by kernel_rfl) (by kernel_rfl) (by kernel_rfl) (fun _ _ _ h => h) (.inl ⟨by kernel_rfl, fun w _ => by go_simp⟩) s3 ?_
      refine takeH 19 (.pointer (some ⟨g, k * 12 + 6, none⟩)) (some 55) rfl rfl (by kernel_rfl) (by kernel_rfl) (by kernel_rfl) (fun _ _ _ h => h) (.inl ⟨by kernel_rfl, fun w _ => by go_simp⟩) s3 ?_
      go_simp
      have hp4 := ((hp3.set (k * 12 + 6) (by omega) (.int .u8 0) rfl).set (k * 12 + 7) (by omega) (.int .u16 0) rfl).set (k * 12 + 8) (by omega) (.int .u16 0) rfl
      have o4 := ((one_setCell x3 g (k * 12 + 6) (.int .u8 0)).trans (one_setCell _ g (k * 12 + 7) (.int .u16 0))).trans (one_setCell _ g (k * 12 + 8) (.int .u16 0))
      have s4 := o4.blk s3 (fun e => by cases e; exact hGg rfl)
      change PX (x3.setCells g (k * 12 + 6) [.int .u8 0, .int .u16 0, .int .u16 0]) _ _ _ _ _ _ _ at hp4
      change One x3 (x3.setCells g (k * 12 + 6) [.int .u8 0, .int .u16 0, .int .u16 0]) _ at o4
      change (World.heap (x3.setCells g (k * 12 + 6) [.int .u8 0, .int .u16 0, .int .u16 0]))[G]? = _ at s4
      refine runSkipH 20 (w' := x3.setCells g (k * 12 + 6) [.int .u8 0, .int .u16 0, .int .u16 0]) rfl (by kernel_rfl) (by kernel_rfl) rfl (exec_store_agg 49 _ _ rfl g (k * 12 + 6) #[.int .u8 0, .int .u16 0, .int .u16 0] (by go_simp) (by go_simp) (by kernel_rfl) (fun j hj => hp3.isSome (by simp at hj; omega)) (fun j _ => hp3.froz _) (fun v hv => by simp at hv; rcases hv with rfl | rfl <;> rfl)) s4 ?_
      obtain ⟨x4, hx⟩ : ∃ x, x = x3.setCells g (k * 12 + 6) [.int .u8 0, .int .u16 0, .int .u16 0] := ⟨_, rfl⟩
      rw [← hx] at hp4 s4 o4 ⊢
      clear hx
      go_simp
      refine takeH 21 (.pointer (some ⟨g, k * 12, none⟩)) (some 56) rfl rfl (by kernel_rfl) (by kernel_rfl) (by kernel_rfl) (fun _ _ _ h => h) (.inl ⟨by kernel_rfl, fun w _ => by go_simp⟩) s4 ?_
      refine takeH 22 (.pointer (some ⟨g, k * 12 + 9, none⟩)) (some 57) rfl rfl (by kernel_rfl) (by kernel_rfl) (by kernel_rfl) (fun _ _ _ h => h) (.inl ⟨by kernel_rfl, fun w _ => by go_simp⟩) s4 ?_
      go_simp
      have hp5 := hp4.set (k * 12 + 9) (by omega) (.int .u64 u) rfl
      have o5 := one_setCell x4 g (k * 12 + 9) (.int .u64 u)
      have s5 := o5.blk s4 (fun e => by cases e; exact hGg rfl)
      refine runSkipH 23 (w' := x4.setCell ⟨g, k * 12 + 9, none⟩ (.int .u64 u)) rfl (by kernel_rfl) (by kernel_rfl) rfl (exec_store_cell 52 _ _ rfl g (k * 12 + 9) (.int .u64 u) (by go_simp) (by go_simp) (by kernel_rfl) (by kernel_rfl) rfl (hp4.isSome (by omega)) (hp4.froz _)) s5 ?_
      obtain ⟨x5, hx⟩ : ∃ x, x = x4.setCell ⟨g, k * 12 + 9, none⟩ (.int .u64 u) := ⟨_, rfl⟩
      rw [← hx] at hp5 s5 o5 ⊢
      refine wpAnyH_done (by kernel_rfl) ?_ _
      go_simp
      try rw [← hx]
      have HO := Lib.hid ((((o1.trans o2).trans o3).trans o4).trans o5)
      have HP5 := Lib.hid hp5
      clear hx s0 s1 s2 s3 s4 s5 hp0 hp1 hp2 hp3 hp4 hp5 o1 o2 o3 o4 o5 HP
      go_wp2_with fail
      go_end0
      refine ⟨rfl, ⟨by have h5 := HP5.out.row; rwa [HZ.out] at h5, ?_, HH.out.ge, by rw [List.length_map]; exact HH.out.len⟩, HB.out.trans (chgO (Chg.of_below (qS gq (.slice (some ⟨g, 0, none⟩) L.length c)) (drewb w1)) HO.out (fun x e => .inl (.inr e))) (fun x _ hx => hx)⟩
      rw [HE.out, List.length_set]
      have h5 := HP5.out.own
      rw [HZ.out] at h5
      rw [← seven_cells L k HK.out 2 2 u]
      exact h5
    · have q1 : ((s3 : Int) != 1) = true := by rw [bne_iff_ne]; omega
      have q2 : (s3 != 1) = true := by rw [bne_iff_ne]; exact h1
      have q3 : ((s3 : Int) == 1) = false := by rw [beq_eq_false_iff_ne]; omega
      have q4 : (s3 == 1) = false := by rw [beq_eq_false_iff_ne]; exact h1
      have HE := Lib.hid (show L.map (updQ l n (sleepQ u)) = L from by
        rw [hke]
        unfold sleepQ
        rw [if_neg (by rw [← hs3]; exact h1), List.set_getElem_self])
      clear hz hs3 hpx hmin hq h1 hke hk
      go_wp2_with fail
      (try simp only [Exit.inBlock, Exit.then]); refine bodyPost_ret (results_none rfl _ _ _) rfl ?_
      rw [HE.out]
      exact ⟨rfl, HH.out, HB.out⟩
  · go_wp2_with fail
    (try simp only [Exit.inBlock, Exit.then]); refine bodyPost_ret (results_none rfl _ _ _) rfl ?_
    rw [updQ_no l n _ L hno]
    exact ⟨rfl, HH.out, HB.out⟩
end
end Go.Proofs.Ytpjfnmmgfmfcfaa

set_option linter.unusedVariables false
set_option linter.unusedSimpArgs false
namespace Go.Proofs.Ytpjfnmmgfmfcfaa
open Go.RowKit
open Go.Maps (Keyed)

def tickM (now : Nat) (L : List QL) (i : Nat) : List QL := (L.take i).map (tickQ now) ++ L.drop i
theorem tickM_len (now : Nat) (L : List QL) (i : Nat) : (tickM now L i).length = L.length := by
  unfold tickM
  simp
  omega
theorem tickM_at (now : Nat) (L : List QL) (i : Nat) (hi : i < L.length) : (tickM now L i)[i]'(by rw [tickM_len]; exact hi) = L[i] := by
  unfold tickM
  rw [List.getElem_append_right (by simp; omega)]
  simp [Nat.min_eq_left (Nat.le_of_lt hi)]
theorem tickM_next (now : Nat) (L : List QL) (i : Nat) (hi : i < L.length) : (tickM now L i).set i (tickQ now L[i]) = tickM now L (i + 1) := by
  unfold tickM
  have hm : ((L.take i).map (tickQ now)).length = i := by simp; omega
  rw [List.set_append_right _ _ (by omega), hm, Nat.sub_self, List.take_succ_eq_append_getElem hi, List.map_append]
  have hd : L.drop i = L[i] :: L.drop (i + 1) := List.drop_eq_getElem_cons hi
  rw [hd]
  simp only [List.set_cons_zero, List.append_assoc, List.map_cons, List.map_nil, List.cons_append, List.nil_append]
theorem tickM_same (now : Nat) (L : List QL) (i : Nat) (hi : i < L.length) (h : dueQ now L[i] = false) : tickM now L i = tickM now L (i + 1) := by
  rw [← tickM_next now L i hi]
  unfold tickQ
  rw [h]
  simp only [Bool.false_eq_true, if_false]
  rw [← tickM_at now L i hi, List.set_getElem_self]
theorem countP_next (p : QL → Bool) (L : List QL) (i : Nat) (hi : i < L.length) : (L.take (i + 1)).countP p = (L.take i).countP p + if p L[i] then 1 else 0 := by
  rw [List.take_succ_eq_append_getElem hi, List.countP_append]
  simp [List.countP_cons]
section
variable {w w' : World} {gq base : Nat} {R v : Value} {L : List QL}
set_option maxRecDepth 20000 in
set_option maxHeartbeats 8000000 in
theorem refTick_in (h : RQ w gq base R v L) (now : Nat) :
    Calls Try.prog 25 #[.pointer (some ⟨gq, 0, none⟩), .int .u64 now] w fun e w' => e = .returned (.int .i64 (L.countP (dueQ now))) ∧ RQ w' gq base R v (L.map (tickQ now)) ∧ Chg (qS gq v) w w' := by
  have HH := Lib.hid h
  have hl := h.len
  obtain ⟨A, c, hv⟩ := own_form h.own
  have HV := Lib.hid hv
  obtain ⟨z, hz⟩ : ∃ z, z = L.length := ⟨_, rfl⟩
  rw [← hz] at hl
  have HZ := Lib.hid hz
  clear h hv hz
  go_enter Try.func25, Try.ntmps25
  go_wp2_with fail
  go_loopw [5, 6, 7] (fun a b _ wr => ∃ i : Nat, i ≤ z ∧ b = .int .i64 i ∧ a = .int .i64 ((L.take i).countP (dueQ now)) ∧ RQ wr gq base R v (tickM now L i) ∧ Chg (qS gq v) w wr) (fun _ b _ _ => z - (intOf b).toNat)
  case atStart => exact ⟨0, Nat.zero_le _, rfl, by simp, by unfold tickM; simpa using HH.out, Chg.of_below _ (Below.refl _ _)⟩
  case round =>
    obtain ⟨i, hi, rfl, rfl, hr, hc⟩ := hrel
    have c1 := hr.c1
    have HR := Lib.hid hr
    have HC := Lib.hid hc
    clear hr hc
    obtain ⟨N, hN⟩ : ∃ N, N = (L.take i).countP (dueQ now) := ⟨_, rfl⟩
    have hNi : N ≤ i := by
      rw [hN]
      exact Nat.le_trans List.countP_le_length (by rw [List.length_take]; omega)
    rw [← hN]
    have HN := Lib.hid hN
    clear hN
    by_cases hlt : i < z
    · have f1 : (i : Int) < z := by omega
      have hil : i < L.length := by rw [← HZ.out]; exact hlt
      have him : i < (tickM now L i).length := by rw [tickM_len]; exact hil
      obtain ⟨g, c', hv2, hpx⟩ := HR.out.px (Nat.lt_of_le_of_lt (Nat.zero_le _) him)
      have hR2 := HR.out
      rw [hv2] at c1 hR2
      have e3 := hR2.cellAt him (j := 3) (by omega)
      have e4 := hR2.cellAt him (j := 4) (by omega)
      have e9 := hR2.cellAt him (j := 9) (by omega)
      rw [tickM_at now L i hil] at e3 e4 e9
      rw [tickM_len, ← HZ.out] at c1
      obtain ⟨s, hs⟩ : ∃ s, s = L[i].st := ⟨_, rfl⟩
      obtain ⟨cc, hcc⟩ : ∃ cc, cc = L[i].cau := ⟨_, rfl⟩
      obtain ⟨u, hu⟩ : ∃ u, u = L[i].til := ⟨_, rfl⟩
      have d3 : wr.cell? ⟨g, i * 12 + 3, none⟩ = some (.int .i64 s) := by rw [hs]; exact e3
      have d4 : wr.cell? ⟨g, i * 12 + 4, none⟩ = some (.int .i64 cc) := by rw [hcc]; exact e4
      have d9 : wr.cell? ⟨g, i * 12 + 9, none⟩ = some (.int .u64 u) := by rw [hu]; exact e9
      have HD := Lib.hid (show dueQ now L[i] = (decide (s = 2) && decide (cc = 2) && decide (u ≤ now)) from by rw [hs, hcc, hu]; rfl)
      have HR2 := Lib.hid hR2
      have HV2 := Lib.hid hv2
      have HIL := Lib.hid hil
      clear e3 e4 e9 hs hcc hu hR2 hpx hv2 him
      have hstay : dueQ now (L[i]'HIL.out) = false → ∃ j : Nat, j = i + 1 ∧ RQ wr gq base R v (tickM now L (i + 1)) ∧ (L.take (i + 1)).countP (dueQ now) = N := fun e => ⟨_, rfl, by rw [← tickM_same now L i HIL.out e]; exact HR.out, by rw [countP_next _ _ _ HIL.out, e, HN.out]; simp⟩
      have HST := Lib.hid hstay
      clear hstay
      by_cases h2 : s = 2
      · have q1 : ((s : Int) == 2) = true := by rw [beq_iff_eq]; omega
        have q2 : (s == 2) = true := by rw [beq_iff_eq]; exact h2
        by_cases h3 : cc = 2
        · have q3 : ((cc : Int) == 2) = true := by rw [beq_iff_eq]; omega
          have q4 : (cc == 2) = true := by rw [beq_iff_eq]; exact h3
          by_cases h4 : u ≤ now
          · have q5 : (u : Int) ≤ now := by omega
            have HDU := Lib.hid (show dueQ now (L[i]'HIL.out) = true from by rw [HD.out]; simp [h2, h3, h4])
            clear h2 h3 h4
            go_wp2_with fail
            clear q1 q2 q3 q4 q5 d3 d4 d9 c1
            have HLN := Lib.hid (tickM_len now L i)
            obtain ⟨M, hM⟩ : ∃ M, M = tickM now L i := ⟨_, rfl⟩
            have hR2 := HR2.out
            rw [← hM] at hR2
            have hkm : i < M.length := by rw [hM, tickM_len]; exact HIL.out
            have hMi : M[i] = L[i]'HIL.out := by
              have := tickM_at now L i HIL.out
              simp only [hM]
              exact this
            refine (refWake_in hR2 i hkm).mono ?_
            rintro e w2 ⟨rfl, hR3, hO3⟩
            have HM3 := Lib.hid (show RQ w2 gq base R v (tickM now L (i + 1)) from by
              rw [hMi] at hR3
              have e1 : M.set i (wakeQ (L[i]'HIL.out)) = tickM now L (i + 1) := by
                rw [← tickM_next now L i HIL.out, hM]
                unfold tickQ
                rw [if_pos HDU.out]
              rw [e1] at hR3
              rw [HV2.out, ← hM]
              exact hR3)
            have HC3 := Lib.hid (chgO HC.out hO3 (fun x e => .inl (.inr (by rw [HV2.out]; exact e))))
            clear hR3 hO3 hR2 hkm hMi
            go_wp2_with fail
            go_roundw
            case rel => exact ⟨i + 1, by omega, by go_num, by rw [countP_next _ _ _ HIL.out, HDU.out, ← HN.out]; go_num, HM3.out, HC3.out⟩
            case measure => simp [intOf]; omega
          · have q5 : decide ((u : Int) ≤ now) = false := by rw [decide_eq_false_iff_not]; omega
            have q6 : decide (u ≤ now) = false := by rw [decide_eq_false_iff_not]; exact h4
            have HDU := Lib.hid (show dueQ now (L[i]'HIL.out) = false from by rw [HD.out]; simp [h4])
            clear h2 h3 h4
            go_wp2_with fail
            go_roundw
            case rel =>
              obtain ⟨_, _, h5, h6⟩ := HST.out HDU.out
              exact ⟨i + 1, by omega, by go_num, by rw [h6], h5, HC.out⟩
            case measure => simp [intOf]; omega
        · have q3 : ((cc : Int) == 2) = false := by rw [beq_eq_false_iff_ne]; omega
          have q4 : (cc == 2) = false := by rw [beq_eq_false_iff_ne]; exact h3
          have HDU := Lib.hid (show dueQ now (L[i]'HIL.out) = false from by rw [HD.out]; simp [h3])
          clear h2 h3
          go_wp2_with fail
          go_roundw
          case rel =>
            obtain ⟨_, _, h5, h6⟩ := HST.out HDU.out
            exact ⟨i + 1, by omega, by go_num, by rw [h6], h5, HC.out⟩
          case measure => simp [intOf]; omega
      · have q1 : ((s : Int) == 2) = false := by rw [beq_eq_false_iff_ne]; omega
        have q2 : (s == 2) = false := by rw [beq_eq_false_iff_ne]; exact h2
        have HDU := Lib.hid (show dueQ now (L[i]'HIL.out) = false from by rw [HD.out]; simp [h2])
        clear h2
        go_wp2_with fail
        go_roundw
        case rel =>
          obtain ⟨_, _, h5, h6⟩ := HST.out HDU.out
          exact ⟨i + 1, by omega, by go_num, by rw [h6], h5, HC.out⟩
        case measure => simp [intOf]; omega
    · obtain rfl : i = z := by omega
      rw [HV.out, ← HZ.out] at c1
      go_wp2_with fail
      go_ret
      have e1 : L.take i = L := List.take_of_length_le (by rw [HZ.out]; exact Nat.le_refl _)
      have e2 : tickM now L i = L.map (tickQ now) := by
        unfold tickM
        rw [e1, List.drop_of_length_le (by rw [HZ.out]; exact Nat.le_refl _), List.append_nil]
      refine ⟨by rw [HN.out, e1]; rfl, ?_, HC.out⟩
      rw [← e2]
      exact HR.out
end
end Go.Proofs.Ytpjfnmmgfmfcfaa

set_option linter.unusedVariables false
set_option linter.unusedSimpArgs false
namespace Go.Proofs.Ytpjfnmmgfmfcfaa
open Go.RowKit
open Go.Maps (Keyed)

section
variable {P : QL → Prop} {L : List QL} {x i : Nat}
theorem MinP.start (P : QL → Prop) (L : List QL) : MinP P (L.take 0) 0 := .inl ⟨rfl, fun q hq => by rw [List.take_zero] at hq; exact absurd hq List.not_mem_nil⟩
theorem take_memQ (hi : i < L.length) {q : QL} (hq : q ∈ L.take (i + 1)) : q ∈ L.take i ∨ q = L[i] := by
  rw [List.take_succ_eq_append_getElem hi] at hq
  rcases List.mem_append.1 hq with h | h
  · exact .inl h
  · exact .inr (List.mem_singleton.1 h)
theorem take_upQ (hi : i < L.length) {q : QL} (hq : q ∈ L.take i) : q ∈ L.take (i + 1) := by
  rw [List.take_succ_eq_append_getElem hi]
  exact List.mem_append_left _ hq
theorem take_lastQ (hi : i < L.length) : L[i] ∈ L.take (i + 1) := by
  rw [List.take_succ_eq_append_getElem hi]
  exact List.mem_append_right _ (List.mem_singleton.2 rfl)
theorem MinP.skip (h : MinP P (L.take i) x) (hi : i < L.length) (hn : ¬ P L[i]) : MinP P (L.take (i + 1)) x := by
  rcases h with ⟨h1, h2⟩ | ⟨q, hq, h1, h2, h3⟩
  · refine .inl ⟨h1, fun q hq => ?_⟩
    rcases take_memQ hi hq with h | rfl
    · exact h2 q h
    · exact hn
  · refine .inr ⟨q, take_upQ hi hq, h1, h2, fun y hy hp => ?_⟩
    rcases take_memQ hi hy with h | rfl
    · exact h3 y h hp
    · exact absurd hp hn
theorem MinP.stay (h : MinP P (L.take i) x) (hi : i < L.length) (h0 : x ≠ 0) (hle : ¬ L[i].num < x) : MinP P (L.take (i + 1)) x := by
  rcases h with ⟨h1, h2⟩ | ⟨q, hq, h1, h2, h3⟩
  · exact absurd h1 h0
  · refine .inr ⟨q, take_upQ hi hq, h1, h2, fun y hy hp => ?_⟩
    rcases take_memQ hi hy with h | rfl
    · exact h3 y h hp
    · omega
theorem MinP.new (h : MinP P (L.take i) x) (hi : i < L.length) (hp : P L[i]) (hnum : ∀ q ∈ L, 1 ≤ q.num) (hlt : x = 0 ∨ L[i].num < x) : MinP P (L.take (i + 1)) L[i].num := by
  refine .inr ⟨L[i], take_lastQ hi, hp, rfl, fun y hy hpy => ?_⟩
  rcases take_memQ hi hy with h4 | rfl
  · rcases h with ⟨h1, h2⟩ | ⟨q, hq, h1, h2, h3⟩
    · exact absurd hpy (h2 y h4)
    · have := h3 y h4 hpy
      have := hnum q (List.mem_of_mem_take hq)
      omega
  · exact Nat.le_refl _
end
def pickV (x y : Nat) : Nat := if 0 < y then y else x
section
variable {w w' : World} {gq base : Nat} {R v : Value} {L : List QL}
set_option maxRecDepth 20000 in
set_option maxHeartbeats 16000000 in
theorem refPick_in (h : RQ w gq base R v L) (hnum : ∀ q ∈ L, 1 ≤ q.num) (l k : Nat) :
    Calls Try.prog 29 #[.pointer (some ⟨gq, 0, none⟩), .int .i64 l, .int .i64 k] w fun e w' => (∃ x y, MinP (rdyQ l) L x ∧ MinP (nxtQ l k) L y ∧ e = .returned (.int .i64 (pickV x y : Nat))) ∧ Below w.heap.size w w' := by
  have HH := Lib.hid h
  have HNUM := Lib.hid hnum
  have hl := h.len
  obtain ⟨A, c, hv⟩ := own_form h.own
  have HV := Lib.hid hv
  obtain ⟨z, hz⟩ : ∃ z, z = L.length := ⟨_, rfl⟩
  rw [← hz] at hl
  have HZ := Lib.hid hz
  clear h hv hz hnum
  go_enter Try.func29, Try.ntmps29
  go_wp2_with fail
  go_loopw [7, 8, 9, 10] (fun a b d _ wr => ∃ i x y : Nat, i ≤ z ∧ d = .int .i64 i ∧ a = .int .i64 x ∧ b = .int .i64 y ∧ MinP (rdyQ l) (L.take i) x ∧ MinP (nxtQ l k) (L.take i) y ∧ Below w.heap.size w wr) (fun _ _ d _ _ => z - (intOf d).toNat)
  case atStart => exact ⟨0, 0, 0, Nat.zero_le _, rfl, rfl, rfl, MinP.start _ _, MinP.start _ _, Below.refl _ _⟩
  case round =>
    obtain ⟨i, x, y, hi, rfl, rfl, rfl, hx, hy, hb⟩ := hrel
    have HX := Lib.hid hx
    have HY := Lib.hid hy
    have HB := Lib.hid hb
    have HR := Lib.hid (HH.out.keep hb)
    have c1 := (HH.out.keep hb).c1
    clear hx hy hb
    by_cases hlt : i < z
    · have f1 : (i : Int) < z := by omega
      have hil : i < L.length := by rw [← HZ.out]; exact hlt
      obtain ⟨g, c', hv2, hpx⟩ := HR.out.px (Nat.lt_of_le_of_lt (Nat.zero_le _) hil)
      have hR2 := HR.out
      rw [hv2] at c1 hR2
      rw [← HZ.out] at c1
      obtain ⟨C, hC⟩ : ∃ C, C = qA L[i] := ⟨_, rfl⟩
      have HCS := Lib.hid (show C.size = 12 by rw [hC]; rfl)
      have HCP := Lib.hid (show (Try.prog.info? 131).map (·.size) = some C.size by rw [hC]; kernel_rfl)
      have HPC := Lib.hid (show ∀ j v, C.toList[j]? = some v → wr.cell? ⟨g, i * 12 + j, none⟩ = some v from fun j v hj => by
        have hj12 : j < 12 := by
          have := (List.getElem?_eq_some_iff.1 hj).1
          rw [hC] at this
          simpa [qA] using this
        rw [hR2.cellAt hil hj12, ← hC, hj])
      have HC1 := Lib.hid (show ∀ v ∈ C.toList, v.oneCell' = true from fun v hv => qCells_one L v (List.mem_flatMap.2 ⟨L[i], List.getElem_mem hil, by rw [← hC]; exact hv⟩))
      obtain ⟨a, ha⟩ : ∃ a, a = L[i].lab := ⟨_, rfl⟩
      obtain ⟨m, hm⟩ : ∃ m, m = L[i].num := ⟨_, rfl⟩
      obtain ⟨s, hs⟩ : ∃ s, s = L[i].st := ⟨_, rfl⟩
      have C0 := Lib.hid (show C[0]? = some (.int .i64 a) by rw [hC, ha]; rfl)
      have C1 := Lib.hid (show C[1]? = some (.int .i64 m) by rw [hC, hm]; rfl)
      have C3 := Lib.hid (show C[3]? = some (.int .i64 s) by rw [hC, hs]; rfl)
      have HA := Lib.hid ha
      have HM := Lib.hid hm
      have HS := Lib.hid hs
      clear hC ha hm hs hR2 hpx hv2
      go_wp2_with (first | (refine wpList_load_pieceTo rfl 131 (.tmp 25) rfl (some 26) rfl g (i * 12) rfl C _ HPC.out Try.underlying131 rfl HCP.out ?_) | (with_reducible refine wpList_stop none rfl ?_))
      refine Lib.hid ?_
      obtain ⟨N, hN⟩ : ∃ N, N = wr.heap.size := ⟨_, rfl⟩
      have hl1 := heap_alloc_last wr (.cells #[.int .i64 0, .int .i64 0, .int .i64 0, .int .i64 0, .int .i64 0, .bool false, .int .u8 0, .int .u16 0, .int .u16 0, .int .u64 0, .int .i32 0, .bool false] 131)
      have hb1 := bnew wr (.cells #[.int .i64 0, .int .i64 0, .int .i64 0, .int .i64 0, .int .i64 0, .bool false, .int .u8 0, .int .u16 0, .int .u16 0, .int .u64 0, .int .i32 0, .bool false] 131)
      refine wpList_store_pieceTo rfl 131 _ _ rfl rfl wr.heap.size 0 C (by go_simp) (by go_simp) HCP.out (fun j hj => by rw [Nat.zero_add, rowcell hl1, Array.getElem?_eq_getElem (by rw [HCS.out] at hj; exact hj)]; rfl) (fun j hj => rowfree hl1 _) HC1.out (fun w3 hw3 => ?_)
      obtain ⟨e9, o9⟩ := setCells_whole (cs := C) hl1 (by rw [HCS.out]; rfl)
      rw [← hw3] at e9 o9
      have hb3 : Below wr.heap.size wr w3 := bone hb1 o9 (Nat.le_refl _) hb1.size
      have HB3 := Lib.hid (HB.out.trans (hb3.mono HB.out.size))
      have z0 : w3.cell? ⟨wr.heap.size, 0, none⟩ = some (.int .i64 a) := by rw [rowcell e9]; exact C0.out
      have z1 : w3.cell? ⟨wr.heap.size, 1, none⟩ = some (.int .i64 m) := by rw [rowcell e9]; exact C1.out
      have z3 : w3.cell? ⟨wr.heap.size, 3, none⟩ = some (.int .i64 s) := by rw [rowcell e9]; exact C3.out
      rw [← hN] at z0 z1 z3 ⊢
      clear hw3 e9 o9 hb3 hb1 hl1 hN c1
      have go : ∀ x' y', MinP (rdyQ l) (L.take (i + 1)) x' → MinP (nxtQ l k) (L.take (i + 1)) y' → ∃ i' x'' y'' : Nat, i' = i + 1 ∧ x'' = x' ∧ y'' = y' ∧ MinP (rdyQ l) (L.take i') x'' ∧ MinP (nxtQ l k) (L.take i') y'' := fun x' y' h1 h2 => ⟨_, _, _, rfl, rfl, rfl, h1, h2⟩
      clear go
      by_cases hal : a = l
      · have q1 : ((a : Int) != l) = false := by rw [bne_eq_false_iff_eq]; omega
        have q2 : (a != l) = false := by rw [bne_eq_false_iff_eq]; exact hal
        have q3 : ((a : Int) == l) = true := by rw [beq_iff_eq]; omega
        have q4 : (a == l) = true := by rw [beq_iff_eq]; exact hal
        by_cases hs1 : s = 1
        · have q5 : ((s : Int) != 1) = false := by rw [bne_eq_false_iff_eq]; omega
          have q6 : (s != 1) = false := by rw [bne_eq_false_iff_eq]; exact hs1
          have q7 : ((s : Int) == 1) = true := by rw [beq_iff_eq]; omega
          have q8 : (s == 1) = true := by rw [beq_iff_eq]; exact hs1
          have HRD := Lib.hid (show rdyQ l L[i] from ⟨by rw [← HA.out]; exact hal, by rw [← HS.out]; exact hs1⟩)
          clear hal hs1
          rcases (show x = 0 ∨ (x ≠ 0 ∧ m < x) ∨ (x ≠ 0 ∧ ¬ m < x) by omega) with hxw | hxw | hxw
          · have r1 : ((x : Int) == 0) = true := by rw [beq_iff_eq]; omega
            have r1n : (x == 0) = true := by rw [beq_iff_eq]; omega
            have HX2 := Lib.hid (HX.out.new hil HRD.out HNUM.out (.inl hxw))
            rw [← HM.out] at HX2
            clear hxw
            by_cases hkw : k < m
            · rcases (show y = 0 ∨ (y ≠ 0 ∧ m < y) ∨ (y ≠ 0 ∧ ¬ m < y) by omega) with hyw | hyw | hyw
              · have r3 : (k : Int) < m := by omega
                have r4 : ((y : Int) == 0) = true := by rw [beq_iff_eq]; omega
                have r4n : (y == 0) = true := by rw [beq_iff_eq]; omega
                have HY2 := Lib.hid (HY.out.new hil (show nxtQ l k L[i] from ⟨HRD.out.1, HRD.out.2, by rw [← HM.out]; exact hkw⟩) HNUM.out (.inl hyw))
                rw [← HM.out] at HY2
                clear hyw hkw
                go_wp2_with fail
                go_roundw
                case rel => exact ⟨i + 1, _, _, by omega, by go_num, rfl, rfl, HX2.out, HY2.out, HB3.out⟩
                case measure => simp [intOf]; omega
              · have r3 : (k : Int) < m := by omega
                have r4 : ((y : Int) == 0) = false := by rw [beq_eq_false_iff_ne]; omega
                have r4n : (y == 0) = false := by rw [beq_eq_false_iff_ne]; omega
                have r5 : (m : Int) < y := by omega
                have HY2 := Lib.hid (HY.out.new hil (show nxtQ l k L[i] from ⟨HRD.out.1, HRD.out.2, by rw [← HM.out]; exact hkw⟩) HNUM.out (.inr (by rw [← HM.out]; exact hyw.2)))
                rw [← HM.out] at HY2
                clear hyw hkw
                go_wp2_with fail
                go_roundw
                case rel => exact ⟨i + 1, _, _, by omega, by go_num, rfl, rfl, HX2.out, HY2.out, HB3.out⟩
                case measure => simp [intOf]; omega
              · have r3 : (k : Int) < m := by omega
                have r4 : ((y : Int) == 0) = false := by rw [beq_eq_false_iff_ne]; omega
                have r4n : (y == 0) = false := by rw [beq_eq_false_iff_ne]; omega
                have r5 : decide ((m : Int) < y) = false := by rw [decide_eq_false_iff_not]; omega
                have r5n : decide (m < y) = false := by rw [decide_eq_false_iff_not]; omega
                have HY2 := Lib.hid (HY.out.stay hil hyw.1 (by rw [← HM.out]; exact hyw.2))
                clear hyw hkw
                go_wp2_with fail
                go_roundw
                case rel => exact ⟨i + 1, _, _, by omega, by go_num, rfl, rfl, HX2.out, HY2.out, HB3.out⟩
                case measure => simp [intOf]; omega
            · have r3 : decide ((k : Int) < m) = false := by rw [decide_eq_false_iff_not]; omega
              have r3n : decide (k < m) = false := by rw [decide_eq_false_iff_not]; omega
              have HY2 := Lib.hid (HY.out.skip hil (fun h => hkw (by rw [HM.out]; exact h.2.2)))
              clear hkw
              go_wp2_with fail
              go_roundw
              case rel => exact ⟨i + 1, _, _, by omega, by go_num, rfl, rfl, HX2.out, HY2.out, HB3.out⟩
              case measure => simp [intOf]; omega
          · have r1 : ((x : Int) == 0) = false := by rw [beq_eq_false_iff_ne]; omega
            have r1n : (x == 0) = false := by rw [beq_eq_false_iff_ne]; omega
            have r2 : (m : Int) < x := by omega
            have HX2 := Lib.hid (HX.out.new hil HRD.out HNUM.out (.inr (by rw [← HM.out]; exact hxw.2)))
            rw [← HM.out] at HX2
            clear hxw
            by_cases hkw : k < m
            · rcases (show y = 0 ∨ (y ≠ 0 ∧ m < y) ∨ (y ≠ 0 ∧ ¬ m < y) by omega) with hyw | hyw | hyw
              · have r3 : (k : Int) < m := by omega
                have r4 : ((y : Int) == 0) = true := by rw [beq_iff_eq]; omega
                have r4n : (y == 0) = true := by rw [beq_iff_eq]; omega
                have HY2 := Lib.hid (HY.out.new hil (show nxtQ l k L[i] from ⟨HRD.out.1, HRD.out.2, by rw [← HM.out]; exact hkw⟩) HNUM.out (.inl hyw))
                rw [← HM.out] at HY2
                clear hyw hkw
                go_wp2_with fail
                go_roundw
                case rel => exact ⟨i + 1, _, _, by omega, by go_num, rfl, rfl, HX2.out, HY2.out, HB3.out⟩
                case measure => simp [intOf]; omega
              · have r3 : (k : Int) < m := by omega
                have r4 : ((y : Int) == 0) = false := by rw [beq_eq_false_iff_ne]; omega
                have r4n : (y == 0) = false := by rw [beq_eq_false_iff_ne]; omega
                have r5 : (m : Int) < y := by omega
                have HY2 := Lib.hid (HY.out.new hil (show nxtQ l k L[i] from ⟨HRD.out.1, HRD.out.2, by rw [← HM.out]; exact hkw⟩) HNUM.out (.inr (by rw [← HM.out]; exact hyw.2)))
                rw [← HM.out] at HY2
                clear hyw hkw
                go_wp2_with fail
                go_roundw
                case rel => exact ⟨i + 1, _, _, by omega, by go_num, rfl, rfl, HX2.out, HY2.out, HB3.out⟩
                case measure => simp [intOf]; omega
              · have r3 : (k : Int) < m := by omega
                have r4 : ((y : Int) == 0) = false := by rw [beq_eq_false_iff_ne]; omega
                have r4n : (y == 0) = false := by rw [beq_eq_false_iff_ne]; omega
                have r5 : decide ((m : Int) < y) = false := by rw [decide_eq_false_iff_not]; omega
                have r5n : decide (m < y) = false := by rw [decide_eq_false_iff_not]; omega
                have HY2 := Lib.hid (HY.out.stay hil hyw.1 (by rw [← HM.out]; exact hyw.2))
                clear hyw hkw
                go_wp2_with fail
                go_roundw
                case rel => exact ⟨i + 1, _, _, by omega, by go_num, rfl, rfl, HX2.out, HY2.out, HB3.out⟩
                case measure => simp [intOf]; omega
            · have r3 : decide ((k : Int) < m) = false := by rw [decide_eq_false_iff_not]; omega
              have r3n : decide (k < m) = false := by rw [decide_eq_false_iff_not]; omega
              have HY2 := Lib.hid (HY.out.skip hil (fun h => hkw (by rw [HM.out]; exact h.2.2)))
              clear hkw
              go_wp2_with fail
              go_roundw
              case rel => exact ⟨i + 1, _, _, by omega, by go_num, rfl, rfl, HX2.out, HY2.out, HB3.out⟩
              case measure => simp [intOf]; omega
          · have r1 : ((x : Int) == 0) = false := by rw [beq_eq_false_iff_ne]; omega
            have r1n : (x == 0) = false := by rw [beq_eq_false_iff_ne]; omega
            have r2 : decide ((m : Int) < x) = false := by rw [decide_eq_false_iff_not]; omega
            have r2n : decide (m < x) = false := by rw [decide_eq_false_iff_not]; omega
            have HX2 := Lib.hid (HX.out.stay hil hxw.1 (by rw [← HM.out]; exact hxw.2))
            clear hxw
            by_cases hkw : k < m
            · rcases (show y = 0 ∨ (y ≠ 0 ∧ m < y) ∨ (y ≠ 0 ∧ ¬ m < y) by omega) with hyw | hyw | hyw
              · have r3 : (k : Int) < m := by omega
                have r4 : ((y : Int) == 0) = true := by rw [beq_iff_eq]; omega
                have r4n : (y == 0) = true := by rw [beq_iff_eq]; omega
                have HY2 := Lib.hid (HY.out.new hil (show nxtQ l k L[i] from ⟨HRD.out.1, HRD.out.2, by rw [← HM.out]; exact hkw⟩) HNUM.out (.inl hyw))
                rw [← HM.out] at HY2
                clear hyw hkw
                go_wp2_with fail
                go_roundw
                case rel => exact ⟨i + 1, _, _, by omega, by go_num, rfl, rfl, HX2.out, HY2.out, HB3.out⟩
                case measure => simp [intOf]; omega
              · have r3 : (k : Int) < m := by omega
                have r4 : ((y : Int) == 0) = false := by rw [beq_eq_false_iff_ne]; omega
                have r4n : (y == 0) = false := by rw [beq_eq_false_iff_ne]; omega
                have r5 : (m : Int) < y := by omega
                have HY2 := Lib.hid (HY.out.new hil (show nxtQ l k L[i] from ⟨HRD.out.1, HRD.out.2, by rw [← HM.out]; exact hkw⟩) HNUM.out (.inr (by rw [← HM.out]; exact hyw.2)))
                rw [← HM.out] at HY2
                clear hyw hkw
                go_wp2_with fail
                go_roundw
                case rel => exact ⟨i + 1, _, _, by omega, by go_num, rfl, rfl, HX2.out, HY2.out, HB3.out⟩
                case measure => simp [intOf]; omega
              · have r3 : (k : Int) < m := by omega
                have r4 : ((y : Int) == 0) = false := by rw [beq_eq_false_iff_ne]; omega
                have r4n : (y == 0) = false := by rw [beq_eq_false_iff_ne]; omega
                have r5 : decide ((m : Int) < y) = false := by rw [decide_eq_false_iff_not]; omega
                have r5n : decide (m < y) = false := by rw [decide_eq_false_iff_not]; omega
                have HY2 := Lib.hid (HY.out.stay hil hyw.1 (by rw [← HM.out]; exact hyw.2))
                clear hyw hkw
                go_wp2_with fail
                go_roundw
                case rel => exact ⟨i + 1, _, _, by omega, by go_num, rfl, rfl, HX2.out, HY2.out, HB3.out⟩
                case measure => simp [intOf]; omega
            · have r3 : decide ((k : Int) < m) = false := by rw [decide_eq_false_iff_not]; omega
              have r3n : decide (k < m) = false := by rw [decide_eq_false_iff_not]; omega
              have HY2 := Lib.hid (HY.out.skip hil (fun h => hkw (by rw [HM.out]; exact h.2.2)))
              clear hkw
              go_wp2_with fail
              go_roundw
              case rel => exact ⟨i + 1, _, _, by omega, by go_num, rfl, rfl, HX2.out, HY2.out, HB3.out⟩
              case measure => simp [intOf]; omega
        · have q5 : ((s : Int) != 1) = true := by rw [bne_iff_ne]; omega
          have q6 : (s != 1) = true := by rw [bne_iff_ne]; exact hs1
          have q7 : ((s : Int) == 1) = false := by rw [beq_eq_false_iff_ne]; omega
          have q8 : (s == 1) = false := by rw [beq_eq_false_iff_ne]; exact hs1
          have HX2 := Lib.hid (HX.out.skip hil (fun h => hs1 (by rw [HS.out]; exact h.2)))
          have HY2 := Lib.hid (HY.out.skip hil (fun h => hs1 (by rw [HS.out]; exact h.2.1)))
          clear hal hs1
          go_wp2_with fail
          go_roundw
          case rel => exact ⟨i + 1, _, _, by omega, by go_num, rfl, rfl, HX2.out, HY2.out, HB3.out⟩
          case measure => simp [intOf]; omega
      · have q1 : ((a : Int) != l) = true := by rw [bne_iff_ne]; omega
        have q2 : (a != l) = true := by rw [bne_iff_ne]; exact hal
        have q3 : ((a : Int) == l) = false := by rw [beq_eq_false_iff_ne]; omega
        have q4 : (a == l) = false := by rw [beq_eq_false_iff_ne]; exact hal
        have HX2 := Lib.hid (HX.out.skip hil (fun h => hal (by rw [HA.out]; exact h.1)))
        have HY2 := Lib.hid (HY.out.skip hil (fun h => hal (by rw [HA.out]; exact h.1)))
        clear hal
        go_wp2_with fail
        go_roundw
        case rel => exact ⟨i + 1, _, _, by omega, by go_num, rfl, rfl, HX2.out, HY2.out, HB3.out⟩
        case measure => simp [intOf]; omega
    · obtain rfl : i = z := by omega
      rw [HV.out, ← HZ.out] at c1
      have e1 : L.take i = L := List.take_of_length_le (by rw [HZ.out]; exact Nat.le_refl _)
      have HX2 := Lib.hid (show MinP (rdyQ l) L x from by rw [← e1]; exact HX.out)
      have HY2 := Lib.hid (show MinP (nxtQ l k) L y from by rw [← e1]; exact HY.out)
      clear e1
      by_cases hy0 : 0 < y
      · have f2 : (0 : Int) < y := by omega
        have HE := Lib.hid (show pickV x y = y from if_pos hy0)
        go_wp2_with fail
        go_ret
        exact ⟨⟨x, y, HX2.out, HY2.out, by rw [HE.out]; rfl⟩, HB.out⟩
      · have f2 : decide ((0 : Int) < y) = false := by rw [decide_eq_false_iff_not]; omega
        have f3 : decide (0 < y) = false := by rw [decide_eq_false_iff_not]; exact hy0
        have HE := Lib.hid (show pickV x y = x from if_neg hy0)
        clear hy0
        go_wp2_with fail
        go_ret
        exact ⟨⟨x, y, HX2.out, HY2.out, by rw [HE.out]; rfl⟩, HB.out⟩
end
end Go.Proofs.Ytpjfnmmgfmfcfaa

set_option linter.unusedVariables false
set_option linter.unusedSimpArgs false
namespace Go.Proofs.Ytpjfnmmgfmfcfaa
open Go.RowKit
open Go.Maps (Keyed)

section
variable {w0 w w' : World} {gt : Nat} {a : Option Addr} {rs : List RegL} {last : Nat → Nat} {now slots : Nat}
set_option maxHeartbeats 4000000 in
theorem confSlot_in (hp : ConfP w0 a rs) (hb : Below w0.heap.size w0 w) (h0 : 0 < rs.length) (h64 : rs.length ≤ 64) (n : Nat) (hn : n ≤ 1000000) :
    Calls Try.prog 48 #[.pointer a, .int .u64 n] w fun e w' => e = .returned (.int .i64 (n % rs.length : Nat)) ∧ w = w' := by
  have HLEN := Lib.hid (hp.len w hb)
  obtain ⟨m, hm⟩ : ∃ m, m = rs.length := ⟨_, rfl⟩
  rw [← hm] at HLEN h0 h64 ⊢
  have q1 : ((m : Int) == 0) = false := by rw [beq_eq_false_iff_ne]; omega
  have q2 : (m == 0) = false := by rw [beq_eq_false_iff_ne]; omega
  have q3 : ¬ ((m : Int) = 0) := by omega
  have q4 : IntKind.u64.wrap (m : Int) = m := by simp [IntKind.wrap, IntKind.bits, IntKind.signed]; omega
  obtain ⟨r, hr⟩ : ∃ r, r = n % m := ⟨_, rfl⟩
  have hrm : r < m := by rw [hr]; exact Nat.mod_lt _ h0
  have q5 : (n : Int) % (m : Int) = r := by rw [hr]; omega
  have q6 : (n : Int).tmod (m : Int) = r := by rw [Int.tmod_eq_emod_of_nonneg (by omega)]; exact q5
  have q7 : IntKind.u64.wrap (r : Int) = r := by simp [IntKind.wrap, IntKind.bits, IntKind.signed]; omega
  have q8 : IntKind.i64.wrap (r : Int) = r := by simp [IntKind.wrap, IntKind.bits, IntKind.signed]; omega
  rw [← hr]
  clear hp hb hm hr
  go_enter Try.func48, Try.ntmps48
  go_wp2_with fail
  refine HLEN.out.mono ?_
  rintro e w1 ⟨rfl, rfl⟩
  go_wp2_with fail
  refine HLEN.out.mono ?_
  rintro e w1 ⟨rfl, rfl⟩
  go_wp2_with fail
  go_ret
  exact ⟨rfl, rfl⟩
theorem turnF_slots (a : Option Addr) (last : Nat → Nat) (now slots s' j : Nat) (hj : j < 67) : turnF a last now s' j = if j = 66 then .int .u64 s' else turnF a last now slots j := by
  by_cases h : j = 66
  · subst h; rfl
  · rw [if_neg h]
    unfold turnF
    by_cases h1 : j = 0
    · simp [h1]
    · by_cases h2 : j ≤ 64
      · simp [h1, h2]
      · have h3 : j = 65 := by omega
        simp [h3]
set_option maxRecDepth 20000 in
set_option maxHeartbeats 4000000 in
theorem turnSlot_in (hp : ConfP w0 a rs) (hb : Below w0.heap.size w0 w) (h0 : 0 < rs.length) (h64 : rs.length ≤ 64) (hu : TU w gt a last now slots) (hs : slots ≤ 1000000) :
    Calls Try.prog 27 #[.pointer (some ⟨gt, 0, none⟩)] w fun e w' => e = .returned (.int .i64 (slots % rs.length : Nat)) ∧ TU w' gt a last now (slots + 1) ∧ Chg (fun k => k = gt) w w' := by
  have HC := Lib.hid (confSlot_in hp (bnext hb (drewb w)) h0 h64 slots hs)
  have HU := Lib.hid (show TU (World.drew w) gt a last now slots from hu.of_block rfl)
  obtain ⟨r, hr⟩ : ∃ r, r = slots % rs.length := ⟨_, rfl⟩
  rw [← hr] at HC ⊢
  have c0 : (World.drew w).cell? ⟨gt, 0, none⟩ = some (.pointer a) := HU.out.cell (i := 0) (by omega)
  have c66 : (World.drew w).cell? ⟨gt, 66, none⟩ = some (.int .u64 slots) := HU.out.cell (i := 66) (by omega)
  have cf := HU.out.frozen
  have q1 : IntKind.u64.wrap ((slots : Int) + 1) = ((slots + 1 : Nat) : Int) := by simp [IntKind.wrap, IntKind.bits, IntKind.signed]; omega
  clear hp hb hu hr
  go_enter Try.func27, Try.ntmps27
  go_wp2_with fail
  go_upto_region 3 with fail
  refine wp_region_held (S := fun w' => w' = World.drew w) (by kernel_rfl) ?_
  change wpAnyH _ _ _ _ _ _ _ _ (World.drew _)
  refine takeH 0 (.pointer (some ⟨gt, 0, none⟩)) (some 6) rfl rfl (by kernel_rfl) (by kernel_rfl) (by kernel_rfl) (fun _ _ _ h => h) (.inl ⟨by kernel_rfl, fun w' hw => by rcases hw with rfl; go_simp⟩) rfl ?_
  refine takeH 1 (.pointer (some ⟨gt, 0, none⟩)) (some 7) rfl rfl (by kernel_rfl) (by kernel_rfl) (by kernel_rfl) (fun _ _ _ h => h) (.inl ⟨by kernel_rfl, fun w' hw => by rcases hw with rfl; go_simp⟩) rfl ?_
  refine takeH 2 (.pointer (some ⟨gt, 0, none⟩)) (some 8) rfl rfl (by kernel_rfl) (by kernel_rfl) (by kernel_rfl) (fun _ _ _ h => h) (.inl ⟨by kernel_rfl, fun w' hw => by rcases hw with rfl; go_simp⟩) rfl ?_
  go_simp
  refine takeH 3 (.pointer a) (some 9) rfl rfl (by kernel_rfl) (by kernel_rfl) (by kernel_rfl) (fun _ _ _ h => h) (.inl ⟨by kernel_rfl, fun w' hw => by rcases hw with rfl; go_simp⟩) rfl ?_
  refine takeH 4 (.pointer (some ⟨gt, 0, none⟩)) (some 10) rfl rfl (by kernel_rfl) (by kernel_rfl) (by kernel_rfl) (fun _ _ _ h => h) (.inl ⟨by kernel_rfl, fun w' hw => by rcases hw with rfl; go_simp⟩) rfl ?_
  refine takeH 5 (.pointer (some ⟨gt, 0, none⟩)) (some 11) rfl rfl (by kernel_rfl) (by kernel_rfl) (by kernel_rfl) (fun _ _ _ h => h) (.inl ⟨by kernel_rfl, fun w' hw => by rcases hw with rfl; go_simp⟩) rfl ?_
  go_simp
  refine takeH 6 (.pointer (some ⟨gt, 66, none⟩)) (some 12) rfl rfl (by kernel_rfl) (by kernel_rfl) (by kernel_rfl) (fun _ _ _ h => h) (.inl ⟨by kernel_rfl, fun w' hw => by rcases hw with rfl; go_simp⟩) rfl ?_
  refine takeH 7 (.int .u64 slots) (some 13) rfl rfl (by kernel_rfl) (by kernel_rfl) (by kernel_rfl) (fun _ _ _ h => h) (.inl ⟨by kernel_rfl, fun w' hw => by rcases hw with rfl; go_simp⟩) rfl ?_
  go_simp
  refine callH 8 rfl (by kernel_rfl) (by kernel_rfl) (some 14) rfl 48 #[.pointer a, .int .u64 slots] ?hrun (HC.out.mono ?_)
  case hrun => go_simp
  rintro e w1 ⟨he, rfl⟩
  refine ⟨_, he, rfl, ?_⟩
  go_simp
  refine takeH 9 (.int .i64 r) (some 3) rfl rfl (by kernel_rfl) (by kernel_rfl) (by kernel_rfl) (fun _ _ _ h => h) (.inl ⟨by kernel_rfl, fun w' hw => by rcases hw with rfl; go_simp⟩) rfl ?_
  refine wpAnyH_done (by kernel_rfl) ?_ _
  go_simp
  go_wp2_with fail
  go_ret
  have o1 := one_setCell (World.drew w) gt 66 (.int .u64 ((slots + 1 : Nat) : Int))
  exact ⟨rfl, (HU.out.set 66 (.int .u64 ((slots + 1 : Nat) : Int))).congr (fun j hj => (turnF_slots a last now slots (slots + 1) j hj).symm), chgO (Chg.of_below _ (drewb w)) o1 (fun x e => .inl (by cases e; rfl))⟩
end
end Go.Proofs.Ytpjfnmmgfmfcfaa

set_option linter.unusedVariables false
set_option linter.unusedSimpArgs false
namespace Go.Proofs.Ytpjfnmmgfmfcfaa
open Go.RowKit
open Go.Maps (Keyed)

def lastV (last : Nat → Nat) (j : Nat) : Value := .int .i64 (last j : Nat)
theorem lastV_set (last : Nat → Nat) (l n j : Nat) : lastV (setN last l n) j = if j = l then .int .i64 (n : Nat) else lastV last j := by
  unfold lastV setN
  split <;> rfl
/-- All that the walk holds. -/
structure PW (B : Nat) (w0 w : World) (g gm gt gq gl n : Nat) (a : Option Addr) (R v : Value) (T : Nat → List TE) (last : Nat → Nat) (now slots : Nat) (L : List QL) : Prop where
  bl : Below w0.heap.size w0 w
  tt : TT B w g gm a T
  tu : TU w gt a last now slots
  rq : RQ w gq B R v L
  ln : w.rowIs gl 3 n (lastV last)
  b0 : w0.heap.size ≤ B
  b1 : w0.heap.size ≤ gt
  b2 : w0.heap.size ≤ gl
  b3 : B ≤ g
  b4 : B ≤ gm
  b5 : B ≤ w.heap.size
section
variable {B : Nat} {w0 w w' : World} {g gm gt gq gl n now slots now' slots' : Nat} {a : Option Addr} {R v v' : Value} {T T' : Nat → List TE} {last last' : Nat → Nat} {L L' : List QL}
theorem PW.keep (h : PW B w0 w g gm gt gq gl n a R v T last now slots L) (hb : Below w.heap.size w w') : PW B w0 w' g gm gt gq gl n a R v T last now slots L :=
  ⟨h.bl.trans (hb.mono h.bl.size), h.tt.keep hb, h.tu.of_block (hb.block gt h.tu.lt), h.rq.keep hb, h.ln.of_block (hb.block gl h.ln.lt), h.b0, h.b1, h.b2, h.b3, h.b4, Nat.le_trans h.b5 hb.size⟩
theorem PW.glS (h : PW B w0 w g gm gt gq gl n a R v T last now slots L) : ¬ tS g gm T gl := h.tt.notS (rowIs_arr h.ln) (by decide) (by decide)
theorem PW.qST (h : PW B w0 w g gm gt gq gl n a R v T last now slots L) {k : Nat} (hk : qS gq v k) : ¬ tS g gm T k := by
  rcases hk with rfl | hk
  · exact h.tt.notS (rowIs_arr h.rq.row) (by decide) (by decide)
  · obtain ⟨_, cur, hc⟩ := own_blk h.rq.own hk
    exact h.tt.notS hc (by decide) (by decide)
theorem PW.qSt (h : PW B w0 w g gm gt gq gl n a R v T last now slots L) : ¬ qS gq v gt := fun hk => by
  rcases hk with rfl | hk
  · exact absurd (cells_type (rowIs_arr h.tu) (rowIs_arr h.rq.row)) (by decide)
  · obtain ⟨_, cur, hc⟩ := own_blk h.rq.own hk
    exact absurd (cells_type (rowIs_arr h.tu) hc) (by decide)
theorem PW.qSl (h : PW B w0 w g gm gt gq gl n a R v T last now slots L) : ¬ qS gq v gl := fun hk => by
  rcases hk with rfl | hk
  · exact absurd (cells_type (rowIs_arr h.ln) (rowIs_arr h.rq.row)) (by decide)
  · obtain ⟨_, cur, hc⟩ := own_blk h.rq.own hk
    exact absurd (cells_type (rowIs_arr h.ln) hc) (by decide)
theorem PW.lt (h : PW B w0 w g gm gt gq gl n a R v T last now slots L) : gt ≠ gl := fun e => by
  have h1 := rowIs_arr h.tu
  rw [e] at h1
  exact absurd (cells_type (rowIs_arr h.ln) h1) (by decide)
theorem PW.tab (h : PW B w0 w g gm gt gq gl n a R v T last now slots L) (c : Chg (tS g gm T) w w') (ht : TT B w' g gm a T') : PW B w0 w' g gm gt gq gl n a R v T' last now slots L :=
  ⟨Chg.go h.bl c (fun k hk => by
    have h0 := h.b0
    have h3 := h.b3
    have h4 := h.b4
    rcases hk with rfl | rfl | ⟨l, t, ht, rfl⟩
    · omega
    · omega
    · have := h.tt.ok.base _ _ ht; omega) h.bl.size, ht, h.tu.of_block (c.block gt h.tu.lt (h.tu.notS h.tt)), h.rq.chg c (fun k hk => h.qST hk), h.ln.of_block (c.block gl h.ln.lt h.glS), h.b0, h.b1, h.b2, h.b3, h.b4, Nat.le_trans h.b5 c.size⟩
theorem PW.ref (h : PW B w0 w g gm gt gq gl n a R v T last now slots L) (c : Chg (qS gq v) w w') (hr : RQ w' gq B R v' L') : PW B w0 w' g gm gt gq gl n a R v' T last now slots L' :=
  ⟨Chg.go h.bl c (fun k hk => Nat.le_trans h.b0 (h.rq.le hk)) h.bl.size, h.tt.chg c (fun k hk => h.qST hk), h.tu.of_block (c.block gt h.tu.lt h.qSt), hr, h.ln.of_block (c.block gl h.ln.lt h.qSl), h.b0, h.b1, h.b2, h.b3, h.b4, Nat.le_trans h.b5 c.size⟩
theorem PW.turn (h : PW B w0 w g gm gt gq gl n a R v T last now slots L) (c : Chg (fun k => k = gt) w w') (hu : TU w' gt a last' now' slots') (hl : ∀ j, j < n → last' j = last j) : PW B w0 w' g gm gt gq gl n a R v T last' now' slots' L :=
  ⟨Chg.go h.bl c (fun k hk => by rw [hk]; exact h.b1) h.bl.size, h.tt.chg c (fun k hk => by rw [hk]; exact h.tu.notS h.tt), hu, h.rq.chg c (fun k hk e => h.qSt (e ▸ hk)), (h.ln.of_block (c.block gl h.ln.lt (fun e => h.lt e.symm))).congr (fun j hj => by unfold lastV; rw [hl j hj]), h.b0, h.b1, h.b2, h.b3, h.b4, Nat.le_trans h.b5 c.size⟩
theorem PW.tick (h : PW B w0 w g gm gt gq gl n a R v T last now slots L) (c : Chg (fun k => k = gt ∨ tS g gm T k) w w') (ht : TT B w' g gm a T') (hu : TU w' gt a last now' slots) : PW B w0 w' g gm gt gq gl n a R v T' last now' slots L :=
  ⟨Chg.go h.bl c (fun k hk => by
    have h0 := h.b0
    have h3 := h.b3
    have h4 := h.b4
    rcases hk with rfl | rfl | rfl | ⟨l, t, ht, rfl⟩
    · exact h.b1
    · omega
    · omega
    · have := h.tt.ok.base _ _ ht; omega) h.bl.size, ht, hu, h.rq.chg c (fun k hk e => by
      rcases e with e | e
      · exact h.qSt (e ▸ hk)
      · exact h.qST hk e), h.ln.of_block (c.block gl h.ln.lt (fun e => by
      rcases e with e | e
      · exact h.lt e.symm
      · exact h.glS e)), h.b0, h.b1, h.b2, h.b3, h.b4, Nat.le_trans h.b5 c.size⟩
/-- A pick: both sides note whom. -/
theorem PW.note (h : PW B w0 w g gm gt gq gl n a R v T last now slots L) {w1 : World} (c : Chg (fun k => k = gt) w w1) {l m : Nat} (hu : TU w1 gt a (setN last l m) now slots) (hb : Below w1.heap.size w1 w') {x : World} (hx : x = w'.setCell ⟨gl, l, none⟩ (.int .i64 (m : Nat))) :
    PW B w0 x g gm gt gq gl n a R v T (setN last l m) now slots L := by
  have o := one_setCell w' gl l (.int .i64 (m : Nat))
  rw [← hx] at o
  have hl1 := h.ln.of_block (c.block gl h.ln.lt (fun e => h.lt e.symm))
  have hl2 := hl1.of_block (hb.block gl hl1.lt)
  have ht1 := h.tt.chg c (fun k hk => by rw [hk]; exact h.tu.notS h.tt)
  have ht2 := ht1.keep hb
  have hu2 := hu.of_block (hb.block gt hu.lt)
  have hq2 := (h.rq.chg c (fun k hk e => h.qSt (e ▸ hk))).keep hb
  have b2 : Below w0.heap.size w0 w' := (Chg.go h.bl c (fun k hk => by rw [hk]; exact h.b1) h.bl.size).trans (hb.mono (Nat.le_trans h.bl.size c.size))
  refine ⟨bone b2 o h.b2 b2.size, ht2.one o h.glS, hu2.of_block (o.block gt hu2.lt (fun e => h.lt (by injection e with e; exact e.symm))), ?_, ?_, h.b0, h.b1, h.b2, h.b3, h.b4, Nat.le_trans h.b5 (Nat.le_trans c.size (Nat.le_trans hb.size o.size))⟩
  · exact hq2.chg (Chg.of_one (S := fun k => k = gl) o rfl) (fun k hk e => h.qSl (e ▸ hk))
  · rw [hx]
    exact (hl2.set l (.int .i64 (m : Nat))).congr (fun j hj => (lastV_set last l m j).symm)
end
end Go.Proofs.Ytpjfnmmgfmfcfaa
