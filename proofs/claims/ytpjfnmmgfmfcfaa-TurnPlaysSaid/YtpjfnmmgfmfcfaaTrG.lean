/- The document's table of processes: End. -/
import Derived.Test.YtpjfnmmgfmfcfaaTra
import Derived.Test.YtpjfnmmgfmfcfaaTrP
set_option linter.unusedVariables false
set_option linter.unusedSimpArgs false
namespace Go.Proofs.Ytpjfnmmgfmfcfaa
open Go.RowKit
open Go.Maps (Keyed)

/-- The table's cells and its row of processes, whatever stands in it. -/
structure PX (w : World) (gq base g c n : Nat) (R : Value) (xs : List Value) : Prop where
  row : w.rowIs gq 79 2 (tabQ R (.slice (some ⟨g, 0, none⟩) n c))
  own : w.ownsRow base 131 12 (.slice (some ⟨g, 0, none⟩) n c) n xs
  one : ∀ x ∈ xs, x.oneCell' = true
section
variable {w w' : World} {gq base g c n : Nat} {R : Value} {xs : List Value}
theorem PX.blk (h : PX w gq base g c n R xs) : ∃ cur, w.heap[g]? = some (.cells cur 131 (0, 0)) := (own_blk h.own rfl).2
theorem PX.ne (h : PX w gq base g c n R xs) : g ≠ gq := fun e => by
  obtain ⟨cur, hc⟩ := h.blk
  rw [e] at hc
  exact absurd (cells_type hc (rowIs_arr h.row)) (by decide)
theorem PX.cell (h : PX w gq base g c n R xs) {i : Nat} (hi : i < n * 12) : w.cell? ⟨g, i, none⟩ = xs[i]? := by
  rcases (SR.of_own h.own).cases with ⟨h1, _⟩ | ⟨_, g', off, c', h1, h2, h3, h4, h5⟩
  · have := h.own.1; rw [h1] at this; simp at this; omega
  · injection h1 with h1 _ _
    injection h1 with h1
    injection h1 with h1 h6 _
    subst h1 h6
    have := h5 i hi
    rwa [Nat.zero_add] at this
theorem PX.isSome (h : PX w gq base g c n R xs) {i : Nat} (hi : i < n * 12) : (w.cell? ⟨g, i, none⟩).isSome = true := by
  rw [h.cell hi, List.getElem?_eq_getElem (by rw [h.own.1]; exact hi)]
  rfl
theorem PX.froz (h : PX w gq base g c n R xs) (o : Nat) : w.frozen? ⟨g, o, none⟩ = false := by
  obtain ⟨cur, hc⟩ := h.blk
  exact rowfree hc o
theorem PX.c1 (h : PX w gq base g c n R xs) : w.cell? ⟨gq, 1, none⟩ = some (.slice (some ⟨g, 0, none⟩) n c) := h.row.cell (i := 1) (by omega)
theorem PX.keep (h : PX w gq base g c n R xs) (hb : Below w.heap.size w w') : PX w' gq base g c n R xs := ⟨h.row.of_block (hb.block gq h.row.lt), own_below h.own hb, h.one⟩
theorem PX.set (h : PX w gq base g c n R xs) (i : Nat) (hi : i < n * 12) (x : Value) (hx : x.oneCell' = true) : PX (w.setCell ⟨g, i, none⟩ x) gq base g c n R (xs.set i x) :=
  ⟨h.row.of_block ((one_setCell w g i x).block gq h.row.lt (fun e => by cases e; exact h.ne rfl)), own_setC h.own i hi x, fun y hy => by
    rcases List.mem_or_eq_of_mem_set hy with hy | rfl
    · exact h.one y hy
    · exact hx⟩
end
theorem qCells_one (L : List QL) : ∀ x ∈ qCells L, x.oneCell' = true := fun x hx => by
  obtain ⟨q, _, hq⟩ := List.mem_flatMap.1 hx
  simp [qA] at hq
  rcases hq with rfl | rfl | rfl | rfl | rfl | rfl | rfl | rfl | rfl | rfl | rfl <;> rfl
theorem qCells_take : ∀ (L : List QL) (k : Nat), qCells (L.take k) = (qCells L).take (k * 12)
  | [], k => by simp [qCells]
  | a :: L, 0 => by simp [qCells]
  | a :: L, k + 1 => by
    have e : ∀ M : List QL, qCells (a :: M) = (qA a).toList ++ qCells M := fun M => rfl
    have h12 : (qA a).toList.length = 12 := rfl
    rw [List.take_succ_cons, e, e, qCells_take L k, show (k + 1) * 12 = (qA a).toList.length + k * 12 by rw [h12]; omega, List.take_length_add_append]
theorem qCells_drop : ∀ (L : List QL) (k : Nat), qCells (L.drop k) = (qCells L).drop (k * 12)
  | [], k => by simp [qCells]
  | a :: L, 0 => by simp
  | a :: L, k + 1 => by
    have e : ∀ M : List QL, qCells (a :: M) = (qA a).toList ++ qCells M := fun M => rfl
    have h12 : (qA a).toList.length = 12 := rfl
    rw [List.drop_succ_cons, e, qCells_drop L k, show (k + 1) * 12 = (qA a).toList.length + k * 12 by rw [h12]; omega, List.drop_length_add_append]
theorem qCells_cut (L : List QL) (k : Nat) : qCells (L.take k ++ L.drop (k + 1)) = (qCells L).take (k * 12) ++ (qCells L).drop ((k + 1) * 12) := by
  rw [← qCells_take, ← qCells_drop]
  unfold qCells
  rw [List.flatMap_append]
theorem own_base {w : World} {b b' size n : Nat} {e : TypeId} {v : Value} {xs : List Value} (h : w.ownsRow b' e size v n xs) (hb : b ≤ b') : w.ownsRow b e size v n xs :=
  ⟨h.1, h.2.imp id (fun ⟨g, c, cur, h1, h2, h3⟩ => ⟨g, c, cur, h1, Nat.le_trans hb h2, h3⟩)⟩
section
variable {w w' : World} {gq base : Nat} {R v : Value} {L : List QL}
theorem RQ.px (h : RQ w gq base R v L) (h0 : 0 < L.length) : ∃ g c, v = .slice (some ⟨g, 0, none⟩) L.length c ∧ PX w gq base g c L.length R (qCells L) := by
  rcases h.own.2 with ⟨_, h2⟩ | ⟨g, c, cur, h1, _⟩
  · omega
  · subst h1
    exact ⟨g, c, rfl, h.row, h.own, qCells_one L⟩
set_option maxRecDepth 20000 in
set_option maxHeartbeats 8000000 in
theorem refEnd_in (h : RQ w gq base R v L) (uq : UQ L) (l n : Nat) (hn : n = 0 → ∀ q ∈ L, ¬ isQ l n q) (hst : ∀ q ∈ L, q.st ≠ 3) :
    Calls Try.prog 20 #[.pointer (some ⟨gq, 0, none⟩), .int .i64 l, .int .i64 n, .int .i32 0] w fun e w' => e = .returned (.tuple #[]) ∧ (∃ v', RQ w' gq base R v' (L.filter fun q => !isB l n q)) ∧ Chg (qS gq v) w w' := by
  have HH := Lib.hid h
  have HU := Lib.hid uq
  have HN := Lib.hid hn
  have HS := Lib.hid hst
  clear h uq hn hst
  go_enter Try.func20, Try.ntmps20
  go_wp2_with fail
  refine (refFind_in HH.out l n).mono ?_; rintro e w' ⟨⟨z, rfl, hz⟩, rfl⟩
  rcases hz with ⟨k, hk, rfl, hq, hmin⟩ | ⟨rfl, hno⟩
  · have hn1 : n ≠ 0 := fun e => HN.out e _ (List.getElem_mem hk) hq
    obtain ⟨g, c, rfl, hpx⟩ := HH.out.px (Nat.lt_of_le_of_lt (Nat.zero_le _) hk)
    have HP := Lib.hid hpx
    have c1 := hpx.c1
    have hl := HH.out.len
    have z3 : w.cell? ⟨g, k * 12 + 3, none⟩ = some (.int .i64 L[k].st) := HH.out.cellAt hk (j := 3) (by omega)
    have z3n := HS.out _ (List.getElem_mem hk)
    obtain ⟨s3, hs3⟩ : ∃ s3, s3 = L[k].st := ⟨_, rfl⟩
    rw [← hs3] at z3 z3n
    have q1 : ((s3 : Int) == 3) = false := by rw [beq_eq_false_iff_ne]; omega
    have q2 : (s3 == 3) = false := by rw [beq_eq_false_iff_ne]; exact z3n
    obtain ⟨z, hz⟩ : ∃ z, z = L.length := ⟨_, rfl⟩
    rw [← hz] at c1 hl
    have hkz : (k : Int) < z := by omega
    have HZ := Lib.hid hz
    have HK := Lib.hid hk
    have HQ := Lib.hid (show ∃ q ∈ L, isQ l n q from ⟨_, List.getElem_mem hk, hq⟩)
    clear hz hs3 z3n hpx hmin hq hk
    go_wp2_with fail
    clear z3 q1 q2 hkz
    go_loop [9, 10] (fun a _ => ∃ i : Nat, i ≤ z ∧ a = .int .i64 i) (fun a _ => z - (intOf a).toNat)
    case atStart => exact ⟨0, Nat.zero_le _, rfl⟩
    case round =>
      obtain ⟨i, hi, rfl⟩ := hrel
      by_cases hlt : i < z
      · have f1 : (i : Int) < z := by omega
        have hil : i < L.length := by rw [← HZ.out]; exact hlt
        have d0 : w.cell? ⟨g, i * 12, none⟩ = some (.int .i64 L[i].lab) := HH.out.cellAt hil (j := 0) (by omega)
        have d2 : w.cell? ⟨g, i * 12 + 2, none⟩ = some (.int .i64 0) := HH.out.cellAt hil (j := 2) (by omega)
        obtain ⟨a, ha⟩ : ∃ a, a = L[i].lab := ⟨_, rfl⟩
        rw [← ha] at d0
        clear ha hil
        have p1 : ((0 : Int) == n) = false := by rw [beq_eq_false_iff_ne]; omega
        have p2 : (0 == n) = false := by rw [beq_eq_false_iff_ne]; omega
        by_cases hal : a = l
        · have q1 : ((a : Int) == l) = true := by rw [beq_iff_eq]; omega
          subst hal
          go_wp2_with fail
          go_round
          case rel => exact ⟨i + 1, by omega, by go_num⟩
          case measure => simp [intOf]; omega
        · have q1 : ((a : Int) == l) = false := by rw [beq_eq_false_iff_ne]; omega
          have q3 : (a == l) = false := by rw [beq_eq_false_iff_ne]; exact hal
          clear hal
          go_wp2_with fail
          go_round
          case rel => exact ⟨i + 1, by omega, by go_num⟩
          case measure => simp [intOf]; omega
      · obtain rfl : i = z := by omega
        clear hi hlt
        go_wp2_with fail
        refine (refFind_in HH.out l n).mono ?_; rintro e w' ⟨⟨zz, rfl, hz⟩, rfl⟩
        obtain ⟨k, hk, rfl, hq⟩ : ∃ k, ∃ hk : k < L.length, zz = k ∧ isQ l n L[k] := by
          rcases hz with ⟨k, hk, rfl, hq, _⟩ | ⟨_, hno⟩
          · exact ⟨k, hk, rfl, hq⟩
          · exact (fun ⟨q, h1, h2⟩ => absurd h2 (hno q h1)) HQ.out
        have HK := Lib.hid hk
        have HQ2 := Lib.hid (show ∃ q, L[k]? = some q ∧ isQ l n q from ⟨_, List.getElem?_eq_getElem hk, hq⟩)
        have d2 : w.cell? ⟨g, k * 12 + 2, none⟩ = some (.int .i64 0) := HH.out.cellAt hk (j := 2) (by omega)
        have hkz : (k : Int) < i := by have := HZ.out; omega
        clear hz hk hq
        go_wp2_with fail
        go_upto_region 12 with fail
        clear d2
        have hp0 := HP.out.keep (drewb w)
        rw [← HZ.out] at hp0
        have hol : k * 12 + 12 ≤ i * 12 := by omega
        have s0 := hp0.c1
        refine wp_region_held (S := fun w' => w'.cell? ⟨gq, 1, none⟩ = some (.slice (some ⟨g, 0, none⟩) i c)) (by kernel_rfl) ?_
        change wpAnyH _ _ _ _ _ _ _ _ (World.drew _)
        refine takeH 0 (.pointer (some ⟨gq, 0, none⟩)) (some 82) rfl rfl (by kernel_rfl) (by kernel_rfl) (by kernel_rfl) (fun _ _ _ h => h) (.inl ⟨by kernel_rfl, fun w _ => by go_simp⟩) s0 ?_
        refine takeH 1 (.pointer (some ⟨gq, 0, none⟩)) (some 83) rfl rfl (by kernel_rfl) (by kernel_rfl) (by kernel_rfl) (fun _ _ _ h => h) (.inl ⟨by kernel_rfl, fun w _ => by go_simp⟩) s0 ?_
        go_simp
        refine takeH 2 (.pointer (some ⟨gq, 1, none⟩)) (some 84) rfl rfl (by kernel_rfl) (by kernel_rfl) (by kernel_rfl) (fun _ _ _ h => h) (.inl ⟨by kernel_rfl, fun w _ => by go_simp⟩) s0 ?_
        refine takeH 3 (.slice (some ⟨g, 0, none⟩) i c) (some 85) rfl rfl (by kernel_rfl) (by kernel_rfl) (by kernel_rfl) (fun _ _ _ h => h) (.inl ⟨by kernel_rfl, fun w' hw => by have hc : w'.cell? ⟨gq, 1, none⟩ = some (.slice (some ⟨g, 0, none⟩) i c) := hw; go_simp⟩) s0 ?_
        refine takeH 4 (.int .i64 k) (some 86) rfl rfl (by kernel_rfl) (by kernel_rfl) (by kernel_rfl) (fun _ _ _ h => h) (.inl ⟨by kernel_rfl, fun w _ => by go_simp⟩) s0 ?_
        go_simp
        refine takeH 5 (.pointer (some ⟨gq, 0, none⟩)) (some 87) rfl rfl (by kernel_rfl) (by kernel_rfl) (by kernel_rfl) (fun _ _ _ h => h) (.inl ⟨by kernel_rfl, fun w _ => by go_simp⟩) s0 ?_
        refine takeH 6 (.pointer (some ⟨gq, 0, none⟩)) (some 88) rfl rfl (by kernel_rfl) (by kernel_rfl) (by kernel_rfl) (fun _ _ _ h => h) (.inl ⟨by kernel_rfl, fun w _ => by go_simp⟩) s0 ?_
        go_simp
        refine takeH 7 (.pointer (some ⟨gq, 1, none⟩)) (some 89) rfl rfl (by kernel_rfl) (by kernel_rfl) (by kernel_rfl) (fun _ _ _ h => h) (.inl ⟨by kernel_rfl, fun w _ => by go_simp⟩) s0 ?_
        refine takeH 8 (.slice (some ⟨g, 0, none⟩) i c) (some 90) rfl rfl (by kernel_rfl) (by kernel_rfl) (by kernel_rfl) (fun _ _ _ h => h) (.inl ⟨by kernel_rfl, fun w' hw => by have hc : w'.cell? ⟨gq, 1, none⟩ = some (.slice (some ⟨g, 0, none⟩) i c) := hw; go_simp⟩) s0 ?_
        refine takeH 9 (.int .i64 k) (some 91) rfl rfl (by kernel_rfl) (by kernel_rfl) (by kernel_rfl) (fun _ _ _ h => h) (.inl ⟨by kernel_rfl, fun w _ => by go_simp⟩) s0 ?_
        go_simp
        refine takeH 10 (.pointer (some ⟨gq, 0, none⟩)) (some 92) rfl rfl (by kernel_rfl) (by kernel_rfl) (by kernel_rfl) (fun _ _ _ h => h) (.inl ⟨by kernel_rfl, fun w _ => by go_simp⟩) s0 ?_
        refine takeH 11 (.pointer (some ⟨gq, 0, none⟩)) (some 93) rfl rfl (by kernel_rfl) (by kernel_rfl) (by kernel_rfl) (fun _ _ _ h => h) (.inl ⟨by kernel_rfl, fun w _ => by go_simp⟩) s0 ?_
        go_simp
        refine takeH 12 (.pointer (some ⟨gq, 1, none⟩)) (some 94) rfl rfl (by kernel_rfl) (by kernel_rfl) (by kernel_rfl) (fun _ _ _ h => h) (.inl ⟨by kernel_rfl, fun w _ => by go_simp⟩) s0 ?_
        refine takeH 13 (.slice (some ⟨g, 0, none⟩) i c) (some 95) rfl rfl (by kernel_rfl) (by kernel_rfl) (by kernel_rfl) (fun _ _ _ h => h) (.inl ⟨by kernel_rfl, fun w' hw => by have hc : w'.cell? ⟨gq, 1, none⟩ = some (.slice (some ⟨g, 0, none⟩) i c) := hw; go_simp⟩) s0 ?_
        refine takeH 14 (.int .i64 k) (some 96) rfl rfl (by kernel_rfl) (by kernel_rfl) (by kernel_rfl) (fun _ _ _ h => h) (.inl ⟨by kernel_rfl, fun w _ => by go_simp⟩) s0 ?_
        go_simp
        refine takeH 15 (.pointer (some ⟨gq, 0, none⟩)) (some 97) rfl rfl (by kernel_rfl) (by kernel_rfl) (by kernel_rfl) (fun _ _ _ h => h) (.inl ⟨by kernel_rfl, fun w _ => by go_simp⟩) s0 ?_
        refine takeH 16 (.pointer (some ⟨gq, 0, none⟩)) (some 98) rfl rfl (by kernel_rfl) (by kernel_rfl) (by kernel_rfl) (fun _ _ _ h => h) (.inl ⟨by kernel_rfl, fun w _ => by go_simp⟩) s0 ?_
        go_simp
        refine takeH 17 (.pointer (some ⟨gq, 1, none⟩)) (some 99) rfl rfl (by kernel_rfl) (by kernel_rfl) (by kernel_rfl) (fun _ _ _ h => h) (.inl ⟨by kernel_rfl, fun w _ => by go_simp⟩) s0 ?_
        refine takeH 18 (.slice (some ⟨g, 0, none⟩) i c) (some 100) rfl rfl (by kernel_rfl) (by kernel_rfl) (by kernel_rfl) (fun _ _ _ h => h) (.inl ⟨by kernel_rfl, fun w' hw => by have hc : w'.cell? ⟨gq, 1, none⟩ = some (.slice (some ⟨g, 0, none⟩) i c) := hw; go_simp⟩) s0 ?_
        refine takeH 19 (.int .i64 k) (some 101) rfl rfl (by kernel_rfl) (by kernel_rfl) (by kernel_rfl) (fun _ _ _ h => h) (.inl ⟨by kernel_rfl, fun w _ => by go_simp⟩) s0 ?_
        go_simp
        refine takeH 20 (.agg #[.int .u8 0, .int .u16 0, .int .u16 0]) (some 102) rfl rfl (by kernel_rfl) (by kernel_rfl) (by kernel_rfl) (fun _ _ _ h => h) (yi_build (by kernel_rfl) 49 #[] rfl #[.int .u8 0, .int .u16 0, .int .u16 0] (by kernel_rfl)) s0 ?_
        refine takeH 21 (.pointer (some ⟨g, k * 12, none⟩)) (some 103) rfl rfl (by kernel_rfl) (by kernel_rfl) (by kernel_rfl) (fun _ _ _ h => h) (.inl ⟨by kernel_rfl, fun w _ => by go_simp⟩) s0 ?_
        refine takeH 22 (.pointer (some ⟨g, k * 12 + 3, none⟩)) (some 104) rfl rfl (by kernel_rfl) (by kernel_rfl) (by kernel_rfl) (fun _ _ _ h => h) (.inl ⟨by kernel_rfl, fun w _ => by go_simp⟩) s0 ?_
        go_simp
        have hp1 := hp0.set (k * 12 + 3) (by omega) (.int .i64 3) rfl
        have s1 := hp1.c1
        have o1 := one_setCell (World.drew w) g (k * 12 + 3) (.int .i64 3)
        refine runSkipH 23 (w' := (World.drew w).setCell ⟨g, k * 12 + 3, none⟩ (.int .i64 3)) rfl (by kernel_rfl) (by kernel_rfl) rfl (exec_store_cell 3 _ _ rfl g (k * 12 + 3) (.int .i64 3) (by go_simp) (by go_simp) (by kernel_rfl) (by kernel_rfl) rfl (hp0.isSome (by omega)) (hp0.froz _)) s1 ?_
        obtain ⟨x1, hx⟩ : ∃ x, x = (World.drew w).setCell ⟨g, k * 12 + 3, none⟩ (.int .i64 3) := ⟨_, rfl⟩
        rw [← hx] at hp1 s1 o1 ⊢
        clear hx
        go_simp
        refine takeH 24 (.pointer (some ⟨g, k * 12, none⟩)) (some 105) rfl rfl (by kernel_rfl) (by kernel_rfl) (by kernel_rfl) (fun _ _ _ h => h) (.inl ⟨by kernel_rfl, fun w _ => by go_simp⟩) s1 ?_
        refine takeH 25 (.pointer (some ⟨g, k * 12 + 4, none⟩)) (some 106) rfl rfl (by kernel_rfl) (by kernel_rfl) (by kernel_rfl) (fun _ _ _ h => h) (.inl ⟨by kernel_rfl, fun w _ => by go_simp⟩) s1 ?_
        go_simp
        have hp2 := hp1.set (k * 12 + 4) (by omega) (.int .i64 0) rfl
        have s2 := hp2.c1
        have o2 := one_setCell x1 g (k * 12 + 4) (.int .i64 0)
        refine runSkipH 26 (w' := x1.setCell ⟨g, k * 12 + 4, none⟩ (.int .i64 0)) rfl (by kernel_rfl) (by kernel_rfl) rfl (exec_store_cell 3 _ _ rfl g (k * 12 + 4) (.int .i64 0) (by go_simp) (by go_simp) (by kernel_rfl) (by kernel_rfl) rfl (hp1.isSome (by omega)) (hp1.froz _)) s2 ?_
        obtain ⟨x2, hx⟩ : ∃ x, x = x1.setCell ⟨g, k * 12 + 4, none⟩ (.int .i64 0) := ⟨_, rfl⟩
        rw [← hx] at hp2 s2 o2 ⊢
        clear hx
        go_simp
        refine takeH 27 (.pointer (some ⟨g, k * 12, none⟩)) (some 107) rfl rfl (by kernel_rfl) (by kernel_rfl) (by kernel_rfl) (fun _ _ _ h => h) (.inl ⟨by kernel_rfl, fun w _ => by go_simp⟩) s2 ?_
        refine takeH 28 (.pointer (some ⟨g, k * 12 + 5, none⟩)) (some 108) rfl rfl (by kernel_rfl) (by kernel_rfl) (by kernel_rfl) (fun _ _ _ h => h) (.inl ⟨by kernel_rfl, fun w _ => by go_simp⟩) s2 ?_
        go_simp
        have hp3 := hp2.set (k * 12 + 5) (by omega) (.bool false) rfl
        have s3 := hp3.c1
        have o3 := one_setCell x2 g (k * 12 + 5) (.bool false)
        refine runSkipH 29 (w' := x2.setCell ⟨g, k * 12 + 5, none⟩ (.bool false)) rfl (by kernel_rfl) (by kernel_rfl) rfl (exec_store_cell 4 _ _ rfl g (k * 12 + 5) (.bool false) (by go_simp) (by go_simp) (by kernel_rfl) (by kernel_rfl) rfl (hp2.isSome (by omega)) (hp2.froz _)) s3 ?_
        obtain ⟨x3, hx⟩ : ∃ x, x = x2.setCell ⟨g, k * 12 + 5, none⟩ (.bool false) := ⟨_, rfl⟩
        rw [← hx] at hp3 s3 o3 ⊢
        clear hx
        go_simp
        refine takeH 30 (.pointer (some ⟨g, k * 12, none⟩)) (some 109) rfl rfl (by kernel_rfl) (by kernel_rfl) (by kernel_rfl) (fun _ _ _ h => h) (.inl ⟨by kernel_rfl, fun w _ => by go_simp⟩) s3 ?_
        refine takeH 31 (.pointer (some ⟨g, k * 12 + 6, none⟩)) (some 110) rfl rfl (by kernel_rfl) (by kernel_rfl) (by kernel_rfl) (fun _ _ _ h => h) (.inl ⟨by kernel_rfl, fun w _ => by go_simp⟩) s3 ?_
        go_simp
        have hp4 := ((hp3.set (k * 12 + 6) (by omega) (.int .u8 0) rfl).set (k * 12 + 7) (by omega) (.int .u16 0) rfl).set (k * 12 + 8) (by omega) (.int .u16 0) rfl
        have o4 := ((one_setCell x3 g (k * 12 + 6) (.int .u8 0)).trans (one_setCell _ g (k * 12 + 7) (.int .u16 0))).trans (one_setCell _ g (k * 12 + 8) (.int .u16 0))
        have s4 := hp4.c1
        refine runSkipH 32 (w' := x3.setCells g (k * 12 + 6) [.int .u8 0, .int .u16 0, .int .u16 0]) rfl (by kernel_rfl) (by kernel_rfl) rfl (exec_store_agg 49 _ _ rfl g (k * 12 + 6) #[.int .u8 0, .int .u16 0, .int .u16 0] (by go_simp) (by go_simp) (by kernel_rfl) (fun j hj => hp3.isSome (by simp at hj; omega)) (fun j _ => hp3.froz _) (fun v hv => by simp at hv; rcases hv with rfl | rfl <;> rfl)) s4 ?_
        obtain ⟨x4, hx⟩ : ∃ x, x = x3.setCells g (k * 12 + 6) [.int .u8 0, .int .u16 0, .int .u16 0] := ⟨_, rfl⟩
        change PX (x3.setCells g (k * 12 + 6) [.int .u8 0, .int .u16 0, .int .u16 0]) _ _ _ _ _ _ _ at hp4
        change One x3 (x3.setCells g (k * 12 + 6) [.int .u8 0, .int .u16 0, .int .u16 0]) _ at o4
        rw [← hx] at hp4 o4 ⊢
        refine wpAnyH_done (by kernel_rfl) ?_ _
        go_simp
        try rw [← hx]
        have HO := Lib.hid (((o1.trans o2).trans o3).trans o4)
        have HP4 := Lib.hid hp4
        have c1 := hp4.c1
        have z10 := hp4.isSome (i := k * 12 + 10) (by omega)
        have zf := hp4.froz
        clear hx s0 s1 s2 s3 s4 hp0 hp1 hp2 hp3 hp4 o1 o2 o3 o4 HP
        obtain ⟨z10v, z10⟩ := Option.isSome_iff_exists.1 z10
        go_wp2_with fail
        have hp5 := HP4.out.set (k * 12 + 10) (by omega) (.int .i32 0) rfl
        have o5 := HO.out.trans (one_setCell x4 g (k * 12 + 10) (.int .i32 0))
        refine (refDrop_in hp5.row hp5.own (by have := HH.out.len; have := HZ.out; omega) hp5.one k (by omega)).mono ?_
        rintro e w6 ⟨rfl, v6, hr6, ho6, hc6⟩
        have HR6 := Lib.hid hr6
        have HO6 := Lib.hid ho6
        have HC6 := Lib.hid hc6
        have HO5 := Lib.hid o5
        clear hr6 ho6 hc6 hp5 o5 z10 zf c1
        go_wp2_with fail
        (try simp only [Exit.inBlock, Exit.then]); refine bodyPost_ret (results_none rfl _ _ _) rfl ?_
        have hlt := HH.out.row.lt
        have hs5 : w.heap.size ≤ (x4.setCell ⟨g, k * 12 + 10, none⟩ (.int .i32 0)).heap.size := HO5.out.size
        refine ⟨rfl, ⟨v6, HR6.out, ?_, HH.out.ge, ?_⟩, ?_⟩
        · have h1 := own_base HO6.out (b := base) (by have := HH.out.ge; omega)
          have e1 : L.filter (fun q => !isB l n q) = L.take k ++ L.drop (k + 1) := by
            obtain ⟨q, h2, h3⟩ := HQ2.out
            rw [List.getElem?_eq_getElem HK.out] at h2
            injection h2 with h2
            rw [HU.out.cut k HK.out, h2, h3.1, h3.2]
          rw [e1, qCells_cut, List.length_append, List.length_take, List.length_drop]
          have e2 : min k L.length + (L.length - (k + 1)) = i - 1 := by have := HZ.out; have := HK.out; omega
          rw [e2]
          have e3 : ∀ (M : List Value) j x, k * 12 ≤ j → (M.set j x).take (k * 12) = M.take (k * 12) := fun M j x h => List.take_set_of_le h
          have e4 : ∀ (M : List Value) j x, j < (k + 1) * 12 → (M.set j x).drop ((k + 1) * 12) = M.drop ((k + 1) * 12) := fun M j x h => List.drop_set_of_lt h
          simp only [e3 _ _ _ (Nat.le_add_right (k * 12) _), e4 _ (k * 12 + 3) _ (by omega), e4 _ (k * 12 + 4) _ (by omega), e4 _ (k * 12 + 5) _ (by omega), e4 _ (k * 12 + 6) _ (by omega), e4 _ (k * 12 + 7) _ (by omega), e4 _ (k * 12 + 8) _ (by omega), e4 _ (k * 12 + 10) _ (by omega)] at h1
          exact h1
        · exact Nat.le_trans (List.length_filter_le _ _) HH.out.len
        · exact (chgO (Chg.of_below (qS gq (.slice (some ⟨g, 0, none⟩) L.length c)) (drewb w)) HO5.out (fun x e => .inl (.inr e))).trans HC6.out (fun x _ hx => .inl hx)
  · go_wp2_with fail
    (try simp only [Exit.inBlock, Exit.then]); refine bodyPost_ret (results_none rfl _ _ _) rfl ?_
    refine ⟨rfl, ⟨v, ?_⟩, Chg.of_below _ (Below.refl _ _)⟩
    rw [cut_no l n L hno]
    exact HH.out
end
end Go.Proofs.Ytpjfnmmgfmfcfaa
