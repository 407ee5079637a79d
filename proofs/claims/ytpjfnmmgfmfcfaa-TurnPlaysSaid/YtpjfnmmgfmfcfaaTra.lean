/- The document's table of processes: what holds of it; Find, Used. The document's table of processes: Used. The document's table of processes: a cell of its row turns; wake. The document's table of processes: wake. The document's table of processes: Add. The document's table of processes: drop. -/
import Derived.Test.YtpjfnmmgfmfcfaaTskF
set_option linter.unusedVariables false
set_option linter.unusedSimpArgs false
namespace Go.Proofs.Ytpjfnmmgfmfcfaa
open Go.RowKit
open Go.Maps (Keyed)

/-- A process of the document's (without a parent, never killed). -/
structure QL where
  lab : Nat
  num : Nat
  st : Nat
  cau : Nat
  til : Nat
def qA (q : QL) : Array Value := #[.int .i64 q.lab, .int .i64 q.num, .int .i64 0, .int .i64 q.st, .int .i64 q.cau, .bool false, .int .u8 0, .int .u16 0, .int .u16 0, .int .u64 q.til, .int .i32 0, .bool false]
def qCells (L : List QL) : List Value := L.flatMap fun q => (qA q).toList
def tabQ (R v : Value) : Nat → Value
  | 0 => R
  | _ => v
/-- The table at block gq: its slice of processes is its own, from base on. -/
structure RQ (w : World) (gq base : Nat) (R v : Value) (L : List QL) : Prop where
  row : w.rowIs gq 79 2 (tabQ R v)
  own : w.ownsRow base 131 12 v L.length (qCells L)
  ge : base ≤ gq
  len : L.length ≤ 2000
section
variable {w w' : World} {gq base : Nat} {R v : Value} {L : List QL}
theorem RQ.keep (h : RQ w gq base R v L) (hb : Below w.heap.size w w') : RQ w' gq base R v L :=
  ⟨h.row.of_block (hb.block gq h.row.lt), own_below h.own hb, h.ge, h.len⟩
/-- A process's cells. -/
theorem RQ.at (h : RQ w gq base R v L) {k : Nat} (hk : k < L.length) : ∃ g off c, v = .slice (some ⟨g, off, none⟩) L.length c ∧ g < w.heap.size ∧ ∀ j, j < 12 → w.cell? ⟨g, off + k * 12 + j, none⟩ = (qA L[k]).toList[j]? := by
  rcases (SR.of_own h.own).cases with ⟨h1, _⟩ | ⟨_, g, off, c, h1, h2, h3, h4, h5⟩
  · omega
  · refine ⟨g, off, c, h1, h4, fun j hj => ?_⟩
    rw [Nat.add_assoc, h5 (k * 12 + j) (by omega)]
    exact flat_get (fun q => (qA q).toList) 12 (fun _ => rfl) L k hk j hj
theorem RQ.c1 (h : RQ w gq base R v L) : w.cell? ⟨gq, 1, none⟩ = some v := h.row.cell (i := 1) (by omega)
def isQ (l n : Nat) (q : QL) : Prop := q.lab = l ∧ q.num = n
/-- Where a process stands. -/
def FindP (L : List QL) (l n : Nat) (z : Int) : Prop := (∃ k, ∃ hk : k < L.length, z = k ∧ isQ l n L[k] ∧ ∀ i (hi : i < k), ¬ isQ l n (L[i]'(Nat.lt_trans hi hk))) ∨ (z = -1 ∧ ∀ q ∈ L, ¬ isQ l n q)
set_option maxRecDepth 20000 in
set_option maxHeartbeats 4000000 in
theorem refFind_in (h : RQ w gq base R v L) (l n : Nat) :
    Calls Try.prog 44 #[.pointer (some ⟨gq, 0, none⟩), .int .i64 l, .int .i64 n] w fun e w' => (∃ z, e = .returned (.int .i64 z) ∧ FindP L l n z) ∧ w = w' := by
  obtain ⟨A, c, hv⟩ := own_form h.own
  have HH := Lib.hid h
  have hl := h.len
  have c1 := h.c1
  rw [hv] at c1
  have HV := Lib.hid hv
  obtain ⟨z, hz⟩ : ∃ z, z = L.length := ⟨_, rfl⟩
  rw [← hz] at c1 hl
  have HZ := Lib.hid hz
  clear h hv hz
  go_enter Try.func44, Try.ntmps44
  go_wp2_with fail
  go_loop [6, 7] (fun a b => a = .int .i64 0 ∧ ∃ k : Nat, k ≤ z ∧ b = .int .i64 k ∧ ∀ i (hi : i < L.length), i < k → ¬ isQ l n L[i]) (fun _ b => z - (intOf b).toNat)
  case atStart => exact ⟨rfl, 0, Nat.zero_le _, rfl, fun i _ hi => by omega⟩
  case round =>
    obtain ⟨rfl, k, hk, rfl, hno⟩ := hrel
    have HNO := Lib.hid hno
    clear hno
    by_cases hlt : k < z
    · have f1 : (k : Int) < z := by omega
      have hkl : k < L.length := by rw [← HZ.out]; exact hlt
      obtain ⟨g, off, c', h1, h2, h3⟩ := HH.out.at hkl
      have h1' := h1
      rw [HV.out] at h1'
      simp only [Value.slice.injEq] at h1'
      obtain ⟨rfl, _, rfl⟩ := h1'
      have d0 := h3 0 (by omega)
      have d1 := h3 1 (by omega)
      obtain ⟨a, ha⟩ : ∃ a, a = L[k].lab := ⟨_, rfl⟩
      obtain ⟨b, hb⟩ : ∃ b, b = L[k].num := ⟨_, rfl⟩
      have d0' : w.cell? ⟨g, off + k * 12, none⟩ = some (.int .i64 a) := by rw [ha]; exact d0
      have d1' : w.cell? ⟨g, off + k * 12 + 1, none⟩ = some (.int .i64 b) := by rw [hb]; exact d1
      have HAB := Lib.hid (And.intro ha hb)
      clear h1 h3 d0 d1 ha hb
      by_cases hal : a = l
      · have q1 : ((a : Int) == l) = true := by rw [beq_iff_eq]; omega
        by_cases hbn : b = n
        · have q2 : ((b : Int) == n) = true := by rw [beq_iff_eq]; omega
          have HF := Lib.hid (show FindP L l n (k : Int) from .inl ⟨k, hkl, rfl, ⟨by rw [← HAB.out.1]; exact hal, by rw [← HAB.out.2]; exact hbn⟩, fun i hi => HNO.out i _ hi⟩)
          subst hal hbn
          go_wp2_with fail
          go_ret
          exact ⟨⟨_, rfl, HF.out⟩, rfl⟩
        · have q2 : ((b : Int) == n) = false := by rw [beq_eq_false_iff_ne]; omega
          have q3 : (b == n) = false := by rw [beq_eq_false_iff_ne]; exact hbn
          have HX := Lib.hid (show ¬ isQ l n L[k] from fun h => hbn (by rw [HAB.out.2]; exact h.2))
          clear hbn
          subst hal
          go_wp2_with fail
          go_round
          case rel => exact ⟨rfl, k + 1, by omega, by go_num, fun i hi hi2 => by
            by_cases e : i = k
            · subst e; exact HX.out
            · exact HNO.out i hi (by omega)⟩
          case measure => simp [intOf]; omega
      · have q1 : ((a : Int) == l) = false := by rw [beq_eq_false_iff_ne]; omega
        have q3 : (a == l) = false := by rw [beq_eq_false_iff_ne]; exact hal
        have HX := Lib.hid (show ¬ isQ l n L[k] from fun h => hal (by rw [HAB.out.1]; exact h.1))
        clear hal
        go_wp2_with fail
        go_round
        case rel => exact ⟨rfl, k + 1, by omega, by go_num, fun i hi hi2 => by
          by_cases e : i = k
          · subst e; exact HX.out
          · exact HNO.out i hi (by omega)⟩
        case measure => simp [intOf]; omega
    · obtain rfl : k = z := by omega
      go_wp2_with fail
      go_ret
      refine ⟨⟨_, rfl, .inr ⟨rfl, fun q hq => ?_⟩⟩, rfl⟩
      obtain ⟨i, hi, rfl⟩ := List.getElem_of_mem hq
      exact HNO.out i hi (by rw [HZ.out]; exact hi)
end
end Go.Proofs.Ytpjfnmmgfmfcfaa

set_option linter.unusedVariables false
set_option linter.unusedSimpArgs false
namespace Go.Proofs.Ytpjfnmmgfmfcfaa
open Go.RowKit
open Go.Maps (Keyed)

def cntQ (L : List QL) (l : Nat) : Nat := L.countP fun q => decide (q.lab = l)
theorem cntQ_next (L : List QL) (l k : Nat) (hk : k < L.length) : cntQ (L.take (k + 1)) l = cntQ (L.take k) l + if L[k].lab = l then 1 else 0 := by
  unfold cntQ
  rw [List.take_succ_eq_append_getElem hk, List.countP_append]
  simp [List.countP_cons]
theorem cntQ_le (L : List QL) (l : Nat) : cntQ L l ≤ L.length := List.countP_le_length
section
variable {w w' : World} {gq base : Nat} {R v : Value} {L : List QL}
set_option maxRecDepth 20000 in
set_option maxHeartbeats 4000000 in
theorem refCount_in (h : RQ w gq base R v L) (l : Nat) :
    Calls Try.prog 43 #[.pointer (some ⟨gq, 0, none⟩), .int .i64 l] w fun e w' => e = .returned (.int .i64 (cntQ L l)) ∧ w = w' := by
  obtain ⟨A, c, hv⟩ := own_form h.own
  have HH := Lib.hid h
  have hl := h.len
  have c1 := h.c1
  rw [hv] at c1
  have HV := Lib.hid hv
  obtain ⟨z, hz⟩ : ∃ z, z = L.length := ⟨_, rfl⟩
  rw [← hz] at c1 hl
  have HZ := Lib.hid hz
  clear h hv hz
  go_enter Try.func43, Try.ntmps43
  go_wp2_with fail
  go_loop [5, 6] (fun a b => ∃ k : Nat, k ≤ z ∧ b = .int .i64 k ∧ a = .int .i64 (cntQ (L.take k) l)) (fun _ b => z - (intOf b).toNat)
  case atStart => exact ⟨0, Nat.zero_le _, rfl, rfl⟩
  case round =>
    obtain ⟨k, hk, rfl, rfl⟩ := hrel
    by_cases hlt : k < z
    · have f1 : (k : Int) < z := by omega
      have hkl : k < L.length := by rw [← HZ.out]; exact hlt
      obtain ⟨g, off, c', h1, h2, h3⟩ := HH.out.at hkl
      have h1' := h1
      rw [HV.out] at h1'
      simp only [Value.slice.injEq] at h1'
      obtain ⟨rfl, _, rfl⟩ := h1'
      have d0 := h3 0 (by omega)
      have hn := cntQ_next L l k hkl
      have hp := cntQ_le (L.take k) l
      have hp2 : (L.take k).length ≤ k := List.length_take_le _ _
      obtain ⟨a, ha⟩ : ∃ a, a = L[k].lab := ⟨_, rfl⟩
      have d0' : w.cell? ⟨g, off + k * 12, none⟩ = some (.int .i64 a) := by rw [ha]; exact d0
      rw [← ha] at hn
      obtain ⟨p, hpp⟩ : ∃ p, p = cntQ (L.take k) l := ⟨_, rfl⟩
      rw [← hpp] at hn hp ⊢
      clear h1 h3 d0 ha hpp
      by_cases hal : a = l
      · have q1 : ((a : Int) == l) = true := by rw [beq_iff_eq]; omega
        rw [if_pos hal] at hn
        have HN := Lib.hid hn
        subst hal
        clear hn
        go_wp2_with fail
        go_round
        case rel => exact ⟨k + 1, by omega, by go_num, by rw [HN.out]; go_num⟩
        case measure => simp [intOf]; omega
      · have q1 : ((a : Int) == l) = false := by rw [beq_eq_false_iff_ne]; omega
        have q3 : (a == l) = false := by rw [beq_eq_false_iff_ne]; exact hal
        rw [if_neg hal] at hn
        have HN := Lib.hid hn
        clear hn hal
        go_wp2_with fail
        go_round
        case rel => exact ⟨k + 1, by omega, by go_num, by rw [HN.out]; rfl⟩
        case measure => simp [intOf]; omega
    · obtain rfl : k = z := by omega
      go_wp2_with fail
      go_ret
      exact ⟨ret_int (by rw [HZ.out, List.take_length]), rfl⟩
end
end Go.Proofs.Ytpjfnmmgfmfcfaa

set_option linter.unusedVariables false
set_option linter.unusedSimpArgs false
namespace Go.Proofs.Ytpjfnmmgfmfcfaa
open Go.RowKit
open Go.Maps (Keyed)

/-- A cell of an own row turns. -/
theorem own_setC {w : World} {base g c n size : Nat} {e : TypeId} {xs : List Value} (h : w.ownsRow base e size (.slice (some ⟨g, 0, none⟩) n c) n xs) (i : Nat) (hi : i < n * size) (x : Value) :
    (w.setCell ⟨g, i, none⟩ x).ownsRow base e size (.slice (some ⟨g, 0, none⟩) n c) n (xs.set i x) := by
  rcases h.2 with ⟨h1, h2⟩ | ⟨g0, c0, cur, h1, h2, h3, h4, h5, h6, h7⟩
  · cases h1
  · cases h1
    have hle : n * size ≤ c * size := Nat.mul_le_mul_right _ h4
    refine ⟨by rw [List.length_set]; exact h.1, .inr ⟨g, c, cur.setIfInBounds i x, rfl, h2, heap_setCell_same h3 _ (by omega), h4, h5, by simpa using h6, ?_⟩⟩
    rw [Array.toList_setIfInBounds, List.take_set, h7]
def wakeQ (q : QL) : QL := { q with st := 1, cau := 0, til := 0 }
theorem qCells_set : ∀ (L : List QL) (k : Nat) (hk : k < L.length) (q : QL), qCells (L.set k q) = (qCells L).take (k * 12) ++ (qA q).toList ++ (qCells L).drop (k * 12 + 12)
  | a :: L, 0, _, q => by simp [qCells, qA]
  | a :: L, k + 1, hk, q => by
    have ih := qCells_set L k (by simpa using hk) q
    have e : ∀ M : List QL, qCells (a :: M) = (qA a).toList ++ qCells M := fun M => rfl
    rw [List.set_cons_succ, e, ih, e]
    have h12 : (qA a).toList.length = 12 := rfl
    rw [show (k + 1) * 12 = (qA a).toList.length + k * 12 by rw [h12]; omega, show (qA a).toList.length + k * 12 + 12 = (qA a).toList.length + (k * 12 + 12) by omega, List.take_append, List.drop_append, List.take_of_length_le (Nat.le_add_right _ _), List.drop_eq_nil_of_le (Nat.le_add_right _ _)]
    simp
section
variable {w w' : World} {gq base : Nat} {R v : Value} {L : List QL}
/-- Seven cells of a process turn: it is ready. -/
theorem wake_cells (L : List QL) (k : Nat) (hk : k < L.length) :
    (((((((qCells L).set (k * 12 + 3) (.int .i64 1)).set (k * 12 + 4) (.int .i64 0)).set (k * 12 + 5) (.bool false)).set (k * 12 + 6) (.int .u8 0)).set (k * 12 + 7) (.int .u16 0)).set (k * 12 + 8) (.int .u16 0)).set (k * 12 + 9) (.int .u64 0) = qCells (L.set k (wakeQ L[k])) := by
  apply List.ext_getElem?
  intro i
  have hlen : ∀ M : List QL, (qCells M).length = M.length * 12 := fun M => by
    induction M with
    | nil => rfl
    | cons a M ih => show ((qA a).toList ++ qCells M).length = _; rw [List.length_append, ih]; simp [qA]; omega
  by_cases hi : i < L.length * 12
  · obtain ⟨m, j, rfl, hj⟩ : ∃ m j, i = m * 12 + j ∧ j < 12 := ⟨i / 12, i % 12, by omega, Nat.mod_lt _ (by omega)⟩
    have hm : m < L.length := by omega
    have h1 : (qCells (L.set k (wakeQ L[k])))[m * 12 + j]? = (qA ((L.set k (wakeQ L[k]))[m]'(by simpa using hm))).toList[j]? := flat_get (fun q => (qA q).toList) 12 (fun _ => rfl) _ m (by simpa using hm) j hj
    have h2 : (qCells L)[m * 12 + j]? = (qA L[m]).toList[j]? := flat_get (fun q => (qA q).toList) 12 (fun _ => rfl) _ m hm j hj
    rw [h1]
    by_cases e : m = k
    · subst e
      simp only [List.getElem_set_self]
      have hb : m * 12 + 12 ≤ (qCells L).length := by rw [hlen]; omega
      rcases (show j = 0 ∨ j = 1 ∨ j = 2 ∨ j = 3 ∨ j = 4 ∨ j = 5 ∨ j = 6 ∨ j = 7 ∨ j = 8 ∨ j = 9 ∨ j = 10 ∨ j = 11 by omega) with rfl | rfl | rfl | rfl | rfl | rfl | rfl | rfl | rfl | rfl | rfl | rfl
      all_goals simp only [List.getElem?_set, List.length_set]
      all_goals (try simp only [Nat.add_left_cancel_iff])
      all_goals simp [h2, qA, wakeQ]
      all_goals first | omega | (simpa [qA] using h2)
    · have hk' : (L.set k (wakeQ L[k]))[m]'(by simpa using hm) = L[m] := List.getElem_set_ne (fun h => e h.symm) _
      rw [hk', ← h2]
      simp only [List.getElem?_set, List.length_set]
      have n3 : ¬ k * 12 + 3 = m * 12 + j := by omega
      have n4 : ¬ k * 12 + 4 = m * 12 + j := by omega
      have n5 : ¬ k * 12 + 5 = m * 12 + j := by omega
      have n6 : ¬ k * 12 + 6 = m * 12 + j := by omega
      have n7 : ¬ k * 12 + 7 = m * 12 + j := by omega
      have n8 : ¬ k * 12 + 8 = m * 12 + j := by omega
      have n9 : ¬ k * 12 + 9 = m * 12 + j := by omega
      simp only [n3, n4, n5, n6, n7, n8, n9, if_false]
  · rw [List.getElem?_eq_none (by simp only [List.length_set]; rw [hlen]; omega), List.getElem?_eq_none (by rw [hlen]; simp; omega)]
end
end Go.Proofs.Ytpjfnmmgfmfcfaa

set_option linter.unusedVariables false
set_option linter.unusedSimpArgs false
namespace Go.Proofs.Ytpjfnmmgfmfcfaa
open Go.RowKit
open Go.Maps (Keyed)

section
variable {w w' : World} {gq base g c : Nat} {R : Value} {L : List QL}
theorem RQ.blk (h : RQ w gq base R (.slice (some ⟨g, 0, none⟩) L.length c) L) : base ≤ g ∧ ∃ cur, w.heap[g]? = some (.cells cur 131 (0, 0)) := own_blk h.own rfl
theorem RQ.cellAt (h : RQ w gq base R (.slice (some ⟨g, 0, none⟩) L.length c) L) {k : Nat} (hk : k < L.length) {j : Nat} (hj : j < 12) : w.cell? ⟨g, k * 12 + j, none⟩ = (qA L[k]).toList[j]? := by
  obtain ⟨g', off, c', h1, h2, h3⟩ := h.at hk
  injection h1 with h1 _ _
  injection h1 with h1
  injection h1 with h1 h4 _
  subst h1 h4
  have := h3 j hj
  rwa [Nat.zero_add] at this
set_option maxRecDepth 20000 in
set_option maxHeartbeats 4000000 in
theorem refWake_in (h : RQ w gq base R (.slice (some ⟨g, 0, none⟩) L.length c) L) (k : Nat) (hk : k < L.length) :
    Calls Try.prog 46 #[.pointer (some ⟨g, k * 12, none⟩)] w fun e w' => e = .returned (.tuple #[]) ∧ RQ w' gq base R (.slice (some ⟨g, 0, none⟩) L.length c) (L.set k (wakeQ L[k])) ∧ One w w' (some g) := by
  obtain ⟨hb, cur, hg⟩ := h.blk
  have c3 : w.cell? ⟨g, k * 12 + 3, none⟩ = some (.int .i64 L[k].st) := h.cellAt hk (j := 3) (by omega)
  have c4 : w.cell? ⟨g, k * 12 + 4, none⟩ = some (.int .i64 L[k].cau) := h.cellAt hk (j := 4) (by omega)
  have c5 : w.cell? ⟨g, k * 12 + 5, none⟩ = some (.bool false) := h.cellAt hk (j := 5) (by omega)
  have c6 : w.cell? ⟨g, k * 12 + 6, none⟩ = some (.int .u8 0) := h.cellAt hk (j := 6) (by omega)
  have c7 : w.cell? ⟨g, k * 12 + 7, none⟩ = some (.int .u16 0) := h.cellAt hk (j := 7) (by omega)
  have c8 : w.cell? ⟨g, k * 12 + 8, none⟩ = some (.int .u16 0) := h.cellAt hk (j := 8) (by omega)
  have c9 : w.cell? ⟨g, k * 12 + 9, none⟩ = some (.int .u64 L[k].til) := h.cellAt hk (j := 9) (by omega)
  have cf := fun o => rowfree hg o
  have HR := Lib.hid h
  have HG := Lib.hid hg
  obtain ⟨o, ho⟩ : ∃ o, o = k * 12 := ⟨_, rfl⟩
  rw [← ho] at c3 c4 c5 c6 c7 c8 c9 ⊢
  have HO := Lib.hid ho
  clear h hg ho
  go_enter Try.func46, Try.ntmps46
  go_wp2_with fail
  go_end0
  have hl : o + 12 ≤ L.length * 12 := by rw [HO.out]; omega
  have o1 := ((((((one_setCell w g (o + 3) (.int .i64 1)).trans (one_setCell _ g (o + 4) (.int .i64 0))).trans (one_setCell _ g (o + 5) (.bool false))).trans (one_setCell _ g (o + 6) (.int .u8 0))).trans (one_setCell _ g (o + 7) (.int .u16 0))).trans (one_setCell _ g (o + 8) (.int .u16 0))).trans (one_setCell _ g (o + 9) (.int .u64 0))
  have r1 := own_setC (own_setC (own_setC (own_setC (own_setC (own_setC (own_setC HR.out.own (o + 3) (by omega) (.int .i64 1)) (o + 4) (by omega) (.int .i64 0)) (o + 5) (by omega) (.bool false)) (o + 6) (by omega) (.int .u8 0)) (o + 7) (by omega) (.int .u16 0)) (o + 8) (by omega) (.int .u16 0)) (o + 9) (by omega) (.int .u64 0)
  refine ⟨rfl, ⟨HR.out.row.of_block (o1.block gq HR.out.row.lt (fun e => ?_)), ?_, HR.out.ge, by rw [List.length_set]; exact HR.out.len⟩, o1⟩
  · injection e with e
    have h1 := rowIs_arr HR.out.row
    rw [← e, HG.out] at h1
    injection h1 with h1
    injection h1 with _ h1 _
    exact absurd h1 (by decide)
  · rw [List.length_set, ← wake_cells L k hk, ← HO.out]
    exact r1
end
end Go.Proofs.Ytpjfnmmgfmfcfaa

set_option linter.unusedVariables false
set_option linter.unusedSimpArgs false
namespace Go.Proofs.Ytpjfnmmgfmfcfaa
open Go.RowKit
open Go.Maps (Keyed)

def newQ (l n : Nat) : QL := ⟨l, n, 1, 0, 0⟩
/-- The blocks of a table that may turn. -/
def qS (gq : Nat) (v : Value) (k : Nat) : Prop := k = gq ∨ v.ownBlock = some k
theorem chgO {S : Nat → Prop} {w w1 w2 : World} {r : Option Nat} (a : Chg S w w1) (o : One w1 w2 r) (h : ∀ x, r = some x → S x ∨ w.heap.size ≤ x) : Chg S w w2 :=
  ⟨o.os.trans a.os, o.tape.trans a.tape, o.output.trans a.output, Nat.le_trans a.size o.size, fun k hk hS => (o.block k (Nat.lt_of_lt_of_le hk a.size) (fun e => by
    rcases h k e with h | h
    · exact hS h
    · omega)).trans (a.block k hk hS)⟩
section
variable {w w' : World} {gq base : Nat} {R v : Value} {L : List QL}
theorem RQ.lt (h : RQ w gq base R v L) {k : Nat} (hk : qS gq v k) : k < w.heap.size := by
  rcases hk with rfl | hk
  · exact h.row.lt
  · exact rowlt (own_blk h.own hk).2.choose_spec
theorem RQ.le (h : RQ w gq base R v L) {k : Nat} (hk : qS gq v k) : base ≤ k := by
  rcases hk with rfl | hk
  · exact h.ge
  · exact (own_blk h.own hk).1
theorem RQ.ne (h : RQ w gq base R v L) : v.ownBlock ≠ some gq := fun e => by
  obtain ⟨_, cur, hc⟩ := own_blk h.own e
  exact absurd (cells_type hc (rowIs_arr h.row)) (by decide)
theorem RQ.chg {S : Nat → Prop} (h : RQ w gq base R v L) (c : Chg S w w') (hS : ∀ k, qS gq v k → ¬ S k) : RQ w' gq base R v L :=
  ⟨h.row.of_block (c.block gq h.row.lt (hS gq (.inl rfl))), own_chg h.own c (fun x hx => hS x (.inr hx)), h.ge, h.len⟩
theorem RQ.c0 (h : RQ w gq base R v L) : w.cell? ⟨gq, 0, none⟩ = some R := h.row.cell (i := 0) (by omega)
theorem tabQ_set (R v x : Value) (j : Nat) (hj : j < 2) : tabQ R x j = if j = 1 then x else tabQ R v j := by
  rcases (show j = 0 ∨ j = 1 by omega) with rfl | rfl <;> rfl
set_option maxRecDepth 20000 in
set_option maxHeartbeats 8000000 in
theorem refAdd_no {rs : List RegL} (h : RQ w gq base R v L) (hR : SR w R rs.length 9 (regCells rs)) (k : Nat) (hk : k < rs.length) (hn : rs.length ≤ 64) (hfull : rs[k].pr ≤ cntQ L k) :
    Calls Try.prog 19 #[.pointer (some ⟨gq, 0, none⟩), .int .i64 k, .int .i64 0] w fun e w' => e = .returned (.tuple #[.int .i64 0, .int .i64 12]) ∧ Below w.heap.size w w' := by
  obtain ⟨gr, off, cap, rfl, hc1, hc2, hgr, hc⟩ := RS_cases hR (by omega)
  obtain ⟨d0, d1, d2, d3, d4, d5, d6, d7, d8⟩ := hc k hk
  obtain ⟨p, hp⟩ : ∃ p, p = rs[k].pr := ⟨_, rfl⟩
  obtain ⟨n, hnn⟩ : ∃ n, n = rs.length := ⟨_, rfl⟩
  rw [← hp] at hfull
  have HH := Lib.hid h
  have c0 := h.c0
  have hq := h.c0
  have HC := Lib.hid (refCount_in (h.keep (drewb w)) k)
  obtain ⟨u, hu⟩ : ∃ u, u = cntQ L k := ⟨_, rfl⟩
  rw [← hu] at HC hfull
  rw [← hnn] at c0 hk hn hq hc1
  have D6 : (World.drew w).cell? ⟨gr, off + k * 9 + 6, none⟩ = some (.int .i64 p) := by rw [hp]; exact d6
  have C0 : (World.drew w).cell? ⟨gq, 0, none⟩ = some (.slice (some ⟨gr, off, none⟩) n cap) := hq
  have f1 : (k : Int) < n := by omega
  have f2 : decide ((p : Int) ≤ u) = true := decide_eq_true (by omega)
  have f3 : decide (p ≤ u) = true := decide_eq_true (by omega)
  clear h hR hc d0 d1 d2 d3 d4 d5 d6 d7 d8 hp hu hq hnn
  go_enter Try.func19, Try.ntmps19
  go_wp2_with fail
  go_upto_region 3 with fail
  refine wp_region_held (S := fun w' => w' = World.drew w) (by kernel_rfl) ?_
  change wpAnyH _ _ _ _ _ _ _ _ (World.drew _)
  refine takeH 0 (.pointer (some ⟨gq, 0, none⟩)) (some 20) rfl rfl (by kernel_rfl) (by kernel_rfl) (by kernel_rfl) (fun _ _ _ h => h) (.inl ⟨by kernel_rfl, fun w' hw => by rcases hw with rfl; go_simp⟩) rfl ?_
  refine takeH 1 (.int .i64 k) (some 21) rfl rfl (by kernel_rfl) (by kernel_rfl) (by kernel_rfl) (fun _ _ _ h => h) (.inl ⟨by kernel_rfl, fun w' hw => by rcases hw with rfl; go_simp⟩) rfl ?_
  refine takeH 3 (.pointer (some ⟨gq, 0, none⟩)) (some 23) rfl rfl (by kernel_rfl) (by kernel_rfl) (by kernel_rfl) (fun _ _ _ h => h) (.inl ⟨by kernel_rfl, fun w' hw => by rcases hw with rfl; go_simp⟩) rfl ?_
  go_simp
  refine takeH 4 (.pointer (some ⟨gq, 0, none⟩)) (some 24) rfl rfl (by kernel_rfl) (by kernel_rfl) (by kernel_rfl) (fun _ _ _ h => h) (.inl ⟨by kernel_rfl, fun w' hw => by rcases hw with rfl; go_simp⟩) rfl ?_
  refine takeH 5 (.pointer (some ⟨gq, 0, none⟩)) (some 25) rfl rfl (by kernel_rfl) (by kernel_rfl) (by kernel_rfl) (fun _ _ _ h => h) (.inl ⟨by kernel_rfl, fun w' hw => by rcases hw with rfl; go_simp⟩) rfl ?_
  refine takeH 6 (.slice (some ⟨gr, off, none⟩) n cap) (some 26) rfl rfl (by kernel_rfl) (by kernel_rfl) (by kernel_rfl) (fun _ _ _ h => h) (.inl ⟨by kernel_rfl, fun w' hw => by rcases hw with rfl; go_simp⟩) rfl ?_
  go_simp
  refine takeH 7 (.int .i64 k) (some 27) rfl rfl (by kernel_rfl) (by kernel_rfl) (by kernel_rfl) (fun _ _ _ h => h) (.inl ⟨by kernel_rfl, fun w' hw => by rcases hw with rfl; go_simp⟩) rfl ?_
  refine takeH 8 (.pointer (some ⟨gr, off + k * 9, none⟩)) (some 28) rfl rfl (by kernel_rfl) (by kernel_rfl) (by kernel_rfl) (fun _ _ _ h => h) (.inl ⟨by kernel_rfl, fun w' hw => by rcases hw with rfl; go_simp⟩) rfl ?_
  refine takeH 9 (.pointer (some ⟨gr, off + k * 9 + 6, none⟩)) (some 29) rfl rfl (by kernel_rfl) (by kernel_rfl) (by kernel_rfl) (fun _ _ _ h => h) (.inl ⟨by kernel_rfl, fun w' hw => by rcases hw with rfl; go_simp⟩) rfl ?_
  go_simp
  refine takeH 10 (.int .i64 p) (some 30) rfl rfl (by kernel_rfl) (by kernel_rfl) (by kernel_rfl) (fun _ _ _ h => h) (.inl ⟨by kernel_rfl, fun w' hw => by rcases hw with rfl; go_simp⟩) rfl ?_
  go_simp
  refine callH 2 rfl (by kernel_rfl) (by kernel_rfl) (some 22) rfl 43 #[.pointer (some ⟨gq, 0, none⟩), .int .i64 k] ?hrun (HC.out.mono ?_)
  case hrun => go_simp
  rintro e w1 ⟨he, rfl⟩
  refine ⟨_, he, rfl, ?_⟩
  go_simp
  refine takeH 11 (.bool true) (some 31) rfl rfl (by kernel_rfl) (by kernel_rfl) (by kernel_rfl) (fun _ _ _ h => h) (.inl ⟨by kernel_rfl, fun w' hw => by rcases hw with rfl; go_simp⟩) rfl ?_
  refine wpAnyH_done (by kernel_rfl) ?_ _
  go_simp
  go_wp2_with fail
  go_ret2
  exact ⟨rfl, drewb w⟩
set_option maxRecDepth 20000 in
set_option maxHeartbeats 8000000 in
theorem refAdd_ok {rs : List RegL} (h : RQ w gq base R v L) (hR : SR w R rs.length 9 (regCells rs)) (hb : base ≤ w.heap.size) (hlen : L.length < 2000) (k m : Nat) (hk : k < rs.length) (hn : rs.length ≤ 64) (hroom : cntQ L k < rs[k].pr) (hm1 : 1 ≤ m) (hm : m ≤ 1000)
    (hfree : ∀ q ∈ L, ¬ isQ k m q) (hlow : ∀ i, 1 ≤ i → i < m → ∃ q ∈ L, isQ k i q) :
    Calls Try.prog 19 #[.pointer (some ⟨gq, 0, none⟩), .int .i64 k, .int .i64 0] w fun e w' => e = .returned (.tuple #[.int .i64 m, .int .i64 0]) ∧ (∃ v', RQ w' gq base R v' (L ++ [newQ k m])) ∧ Chg (qS gq v) w w' := by
  obtain ⟨gr, off, cap, rfl, hc1, hc2, hgr, hc⟩ := RS_cases hR (by omega)
  obtain ⟨d0, d1, d2, d3, d4, d5, d6, d7, d8⟩ := hc k hk
  obtain ⟨p, hp⟩ : ∃ p, p = rs[k].pr := ⟨_, rfl⟩
  obtain ⟨n, hnn⟩ : ∃ n, n = rs.length := ⟨_, rfl⟩
  rw [← hp] at hroom
  have HH := Lib.hid h
  have HF := Lib.hid hfree
  have HLO := Lib.hid hlow
  have HB := Lib.hid hb
  have HLN := Lib.hid hlen
  have c0 := h.c0
  have hq := h.c0
  have HC := Lib.hid (refCount_in (h.keep (drewb w)) k)
  obtain ⟨u, hu⟩ : ∃ u, u = cntQ L k := ⟨_, rfl⟩
  rw [← hu] at HC hroom
  rw [← hnn] at c0 hk hn hq hc1 HH
  have D6 : (World.drew w).cell? ⟨gr, off + k * 9 + 6, none⟩ = some (.int .i64 p) := by rw [hp]; exact d6
  have C0 : (World.drew w).cell? ⟨gq, 0, none⟩ = some (.slice (some ⟨gr, off, none⟩) n cap) := hq
  have f1 : (k : Int) < n := by omega
  have f2 : decide ((p : Int) ≤ u) = false := decide_eq_false (by omega)
  have f3 : decide (p ≤ u) = false := decide_eq_false (by omega)
  rw [← hnn]
  clear h hR hc d0 d1 d2 d3 d4 d5 d6 d7 d8 hp hu hq hnn hfree hlow hb hlen
  go_enter Try.func19, Try.ntmps19
  go_wp2_with fail
  go_upto_region 3 with fail
  refine wp_region_held (S := fun w' => w' = World.drew w) (by kernel_rfl) ?_
  change wpAnyH _ _ _ _ _ _ _ _ (World.drew _)
  refine takeH 0 (.pointer (some ⟨gq, 0, none⟩)) (some 20) rfl rfl (by kernel_rfl) (by kernel_rfl) (by kernel_rfl) (fun _ _ _ h => h) (.inl ⟨by kernel_rfl, fun w' hw => by rcases hw with rfl; go_simp⟩) rfl ?_
  refine takeH 1 (.int .i64 k) (some 21) rfl rfl (by kernel_rfl) (by kernel_rfl) (by kernel_rfl) (fun _ _ _ h => h) (.inl ⟨by kernel_rfl, fun w' hw => by rcases hw with rfl; go_simp⟩) rfl ?_
  refine takeH 3 (.pointer (some ⟨gq, 0, none⟩)) (some 23) rfl rfl (by kernel_rfl) (by kernel_rfl) (by kernel_rfl) (fun _ _ _ h => h) (.inl ⟨by kernel_rfl, fun w' hw => by rcases hw with rfl; go_simp⟩) rfl ?_
  go_simp
  refine takeH 4 (.pointer (some ⟨gq, 0, none⟩)) (some 24) rfl rfl (by kernel_rfl) (by kernel_rfl) (by kernel_rfl) (fun _ _ _ h => h) (.inl ⟨by kernel_rfl, fun w' hw => by rcases hw with rfl; go_simp⟩) rfl ?_
  refine takeH 5 (.pointer (some ⟨gq, 0, none⟩)) (some 25) rfl rfl (by kernel_rfl) (by kernel_rfl) (by kernel_rfl) (fun _ _ _ h => h) (.inl ⟨by kernel_rfl, fun w' hw => by rcases hw with rfl; go_simp⟩) rfl ?_
  refine takeH 6 (.slice (some ⟨gr, off, none⟩) n cap) (some 26) rfl rfl (by kernel_rfl) (by kernel_rfl) (by kernel_rfl) (fun _ _ _ h => h) (.inl ⟨by kernel_rfl, fun w' hw => by rcases hw with rfl; go_simp⟩) rfl ?_
  go_simp
  refine takeH 7 (.int .i64 k) (some 27) rfl rfl (by kernel_rfl) (by kernel_rfl) (by kernel_rfl) (fun _ _ _ h => h) (.inl ⟨by kernel_rfl, fun w' hw => by rcases hw with rfl; go_simp⟩) rfl ?_
  refine takeH 8 (.pointer (some ⟨gr, off + k * 9, none⟩)) (some 28) rfl rfl (by kernel_rfl) (by kernel_rfl) (by kernel_rfl) (fun _ _ _ h => h) (.inl ⟨by kernel_rfl, fun w' hw => by rcases hw with rfl; go_simp⟩) rfl ?_
  refine takeH 9 (.pointer (some ⟨gr, off + k * 9 + 6, none⟩)) (some 29) rfl rfl (by kernel_rfl) (by kernel_rfl) (by kernel_rfl) (fun _ _ _ h => h) (.inl ⟨by kernel_rfl, fun w' hw => by rcases hw with rfl; go_simp⟩) rfl ?_
  go_simp
  refine takeH 10 (.int .i64 p) (some 30) rfl rfl (by kernel_rfl) (by kernel_rfl) (by kernel_rfl) (fun _ _ _ h => h) (.inl ⟨by kernel_rfl, fun w' hw => by rcases hw with rfl; go_simp⟩) rfl ?_
  go_simp
  refine callH 2 rfl (by kernel_rfl) (by kernel_rfl) (some 22) rfl 43 #[.pointer (some ⟨gq, 0, none⟩), .int .i64 k] ?hrun (HC.out.mono ?_)
  case hrun => go_simp
  rintro e w1 ⟨he, rfl⟩
  refine ⟨_, he, rfl, ?_⟩
  go_simp
  refine takeH 11 (.bool false) (some 31) rfl rfl (by kernel_rfl) (by kernel_rfl) (by kernel_rfl) (fun _ _ _ h => h) (.inl ⟨by kernel_rfl, fun w' hw => by rcases hw with rfl; go_simp⟩) rfl ?_
  refine wpAnyH_done (by kernel_rfl) ?_ _
  go_simp
  have HW1 := Lib.hid (drewb w)
  have HH1 := Lib.hid (HH.out.keep (drewb w))
  clear C0 D6 c0 HC HH
  generalize World.drew w = w1 at *
  go_wp2_with fail
  go_loop [8] (fun b => ∃ i : Nat, 1 ≤ i ∧ i ≤ m ∧ b = .int .i64 i) (fun b => m - (intOf b).toNat)
  case atStart => exact ⟨1, Nat.le_refl _, hm1, rfl⟩
  case round =>
    obtain ⟨i, hi1, hi, rfl⟩ := hrel
    go_wp2_with fail
    refine (refFind_in HH1.out k i).mono ?_; rintro e w' ⟨⟨z, rfl, hz⟩, rfl⟩
    by_cases hlt : i < m
    · have hz0 : decide ((0 : Int) ≤ z) = true := by
        rcases hz with ⟨j, hj, rfl, _⟩ | ⟨_, hno⟩
        · exact decide_eq_true (by omega)
        · obtain ⟨q, hq, hqi⟩ := HLO.out i hi1 hlt
          exact absurd hqi (hno q hq)
      have hz1 : (0 : Int) ≤ z := of_decide_eq_true hz0
      clear hz hz0
      go_wp2_with fail
      go_round
      case rel => exact ⟨i + 1, by omega, by omega, by go_num⟩
      case measure => simp [intOf]; omega
    · obtain rfl : i = m := by omega
      have hz0 : z = -1 := by
        rcases hz with ⟨j, hj, rfl, hq, _⟩ | ⟨h, hno⟩
        · exact absurd hq (HF.out _ (List.getElem_mem hj))
        · exact h
      subst hz0
      clear hz
      have c1 := HH1.out.c1
      go_wp2_with (with_reducible refine wpList_stop (some 49) rfl ?_)
      refine Lib.hid ?_
      have hb2 := bnew w1 (.cells (qA (newQ k i)) 131)
      have hl2 := heap_alloc_last w1 (.cells (qA (newQ k i)) 131)
      have hR2 := HH1.out.keep hb2
      have hown2 := hR2.own
      have hz2 : w.heap.size ≤ w1.heap.size := HW1.out.size
      refine wpList_append_sr rfl (.tmp 43) (.tmp 48) 77 rfl (some 49) rfl base 131 (.agg #[.int .i64 0, .int .i64 0, .int .i64 0, .int .i64 0, .int .i64 0, .bool false, .int .u8 0, .int .u16 0, .int .u16 0, .int .u64 0, .int .i32 0, .bool false]) 12 64 Try.underlying77 (by kernel_rfl) rfl (by decide) v (.slice (some ⟨w1.heap.size, 0, none⟩) 1 1) L.length 1 (qCells L) (qA (newQ k i)).toList rfl hown2 rfl (SR.lit hl2 rfl) (List.all_eq_true.1 (by rfl)) (by have := HLN.out; unfold maxLen; omega) (by have := HLN.out; omega) (by have := HB.out; rw [World.size_alloc]; omega) ?_
      intro v3 w3 hown3 hgr3 hloc3
      obtain ⟨ad3, k3, ca3, rfl⟩ := own_form' hown3
      have o3 := one_of_grown hgr3
      have hnq := hR2.ne
      have hrow3 := hR2.row.of_block (o3.block gq hR2.row.lt (fun e => hnq e))
      have c3 := hrow3.cell (i := 1) (by omega)
      have cf3 := hrow3.frozen
      have HROW3 := Lib.hid hrow3
      have HOWN3 := Lib.hid hown3
      have HC3 := Lib.hid (chgO (Chg.of_below (qS gq v) (HW1.out.trans (hb2.mono hz2))) o3 (fun x e => .inl (.inr e)))
      clear hR2 hown2 hl2 hown3 hgr3 hloc3 o3 hrow3 hb2 c1
      go_wp2_with fail
      go_ret2
      have o4 := one_setCell w3 gq 1 (.slice ad3 k3 ca3)
      have hr4 : (w3.setCell ⟨gq, 1, none⟩ (.slice ad3 k3 ca3)).rowIs gq 79 2 (tabQ (.slice (some ⟨gr, off, none⟩) n cap) (.slice ad3 k3 ca3)) := (HROW3.out.set 1 (.slice ad3 k3 ca3)).congr (fun j hj => (tabQ_set _ v (.slice ad3 k3 ca3) j hj).symm)
      have hw4 := own_one HOWN3.out o4 (fun x e h => by
        injection h with h
        rw [← h] at e
        exact absurd (cells_type (own_blk HOWN3.out e).2.choose_spec (rowIs_arr HROW3.out)) (by decide))
      refine ⟨rfl, ⟨.slice ad3 k3 ca3, hr4, ?_, HH1.out.ge, by have := HLN.out; simp; omega⟩, chgO HC3.out o4 (fun x e => .inl (.inl (by cases e; rfl)))⟩
      rw [show qCells (L ++ [newQ k i]) = qCells L ++ (qA (newQ k i)).toList by unfold qCells; rw [List.flatMap_append]; simp, List.length_append]
      exact hw4
end
end Go.Proofs.Ytpjfnmmgfmfcfaa

set_option linter.unusedVariables false
set_option linter.unusedSimpArgs false
namespace Go.Proofs.Ytpjfnmmgfmfcfaa
open Go.RowKit
open Go.Maps (Keyed)

/-- Where the part from one on begins. -/
def fromA (A : Option Addr) (cap k size : Nat) : Option Addr := match A with
  | none => none
  | some a => if cap = k then some a else some ⟨a.block, a.off + k * size, a.spot⟩
section
variable {ρ : Operand → Value} {o : Oper} {x y : Operand} {A : Option Addr} {n cap k : Nat}
theorem sliceTo_proc (ho : o.op = .slice 77 x none (some y) none) (hx : ρ x = .slice A n cap) (hy : ρ y = .int .i64 k) (hk : k ≤ n) (hc : n ≤ cap) (hm : cap ≤ maxLen) (hA : A = none → cap = 0) (w : World) :
    (execOp ρ o).run Try.prog w = .ok (.value (.slice A k cap)) w := by
  have h1 : ¬ (k : Int) < 0 := by omega
  have h2 : ¬ (cap : Int) < k := by omega
  have h3 : (k : Int) ≤ cap := by omega
  unfold execOp
  rw [ho]
  simp only [hx, hy]
  cases A with
  | none =>
    have := hA rfl
    subst this
    obtain rfl : k = 0 := by omega
    go_simp
  | some a => go_simp
theorem sliceFrom_proc (ho : o.op = .slice 77 x (some y) none none) (hx : ρ x = .slice A n cap) (hy : ρ y = .int .i64 k) (hk : k ≤ n) (hc : n ≤ cap) (hm : cap ≤ maxLen) (hA : ∀ a, A = some a → a.spot = none) (hA0 : A = none → cap = 0) (w : World) :
    (execOp ρ o).run Try.prog w = .ok (.value (.slice (fromA A cap k 12) (n - k) (cap - k))) w := by
  have h1 : ¬ (k : Int) < 0 := by omega
  have h2 : ¬ (n : Int) < k := by omega
  have h3 : (k : Int) ≤ n := by omega
  have h4 : ¬ (cap : Int) < n := by omega
  unfold execOp
  rw [ho]
  simp only [hx, hy]
  cases A with
  | none =>
    have := hA0 rfl
    subst this
    obtain rfl : n = 0 := by omega
    obtain rfl : k = 0 := by omega
    go_simp
    try rfl
  | some a =>
    obtain ⟨g, off, sp⟩ := a
    have := hA _ rfl
    simp only at this
    subst this
    unfold fromA
    by_cases hck : cap = k
    · subst hck
      obtain rfl : n = cap := by omega
      go_simp
      try simp
    · go_simp
      try simp
end
section
variable {w : World} {base n size : Nat} {e : TypeId} {A : Option Addr} {cap : Nat} {xs : List Value}
/-- Parts of what the call owns. -/
theorem own_none (h : w.ownsRow base e size (.slice A n cap) n xs) : (A = none → cap = 0) ∧ (∀ a, A = some a → a.spot = none) ∧ n ≤ cap ∧ cap ≤ maxLen := by
  rcases h.2 with ⟨h1, h2⟩ | ⟨g, c, cur, h1, _, _, h3, h4, _⟩
  · cases h1
    exact ⟨fun _ => rfl, (fun a ha => by cases ha), by omega, by simp [maxLen]⟩
  · cases h1
    exact ⟨(fun h => by cases h), (fun a ha => by cases ha; rfl), h3, h4⟩
theorem own_to (h : w.ownsRow base e size (.slice A n cap) n xs) (k : Nat) (hk : k ≤ n) : SR w (.slice A k cap) k size (xs.take (k * size)) := by
  have hx := h.1
  have hks : k * size ≤ n * size := Nat.mul_le_mul_right _ hk
  have hsr := SR.of_own h
  refine ⟨by rw [List.length_take]; omega, ?_⟩
  rcases hsr.2 with ⟨h1, h2⟩ | ⟨a, c, h1, h2, h3, h4⟩
  · cases h1
    exact .inl ⟨by obtain rfl : k = 0 := by omega
                   rfl, by omega⟩
  · cases h1
    refine .inr ⟨a, _, rfl, by omega, h3, fun h0 => ?_⟩
    obtain ⟨e1, e2, e3⟩ := h4 (by omega)
    exact ⟨e1, e2, fun i hi => by rw [e3 i (by omega), List.getElem?_take_of_lt hi]⟩
theorem own_from (h : w.ownsRow base e size (.slice A n cap) n xs) (k : Nat) (hk : k ≤ n) : SR w (.slice (fromA A cap k size) (n - k) (cap - k)) (n - k) size (xs.drop (k * size)) := by
  have hx := h.1
  have hks : k * size ≤ n * size := Nat.mul_le_mul_right _ hk
  have hsr := SR.of_own h
  have hno := own_none h
  refine ⟨by rw [List.length_drop, hx, Nat.sub_mul], ?_⟩
  rcases hsr.2 with ⟨h1, h2⟩ | ⟨a, c, h1, h2, h3, h4⟩
  · cases h1
    obtain rfl : k = 0 := by omega
    exact .inl ⟨rfl, rfl⟩
  · cases h1
    by_cases hc : cap = k
    · refine .inr ⟨a, cap - k, ?_, by omega, by omega, fun h0 => by omega⟩
      unfold fromA
      simp [hc]
    · refine .inr ⟨⟨a.block, a.off + k * size, a.spot⟩, cap - k, ?_, by omega, by omega, fun h0 => ?_⟩
      · unfold fromA
        simp [hc]
      · obtain ⟨e1, e2, e3⟩ := h4 (by omega)
        refine ⟨e1, e2, fun i hi => ?_⟩
        rw [Nat.sub_mul] at hi
        show w.cell? ⟨a.block, a.off + k * size + i, none⟩ = _
        rw [Nat.add_assoc, e3 _ (by omega), List.getElem?_drop]
end
theorem rowB {w w' : World} {g n : Nat} {t : TypeId} {f : Nat → Value} (h : w.rowIs g t n f) (hb : Below w.heap.size w w') : w'.rowIs g t n f := h.of_block (hb.block g h.lt)
theorem wrapN (n : Nat) (h : n ≤ 1000000) : IntKind.i64.wrap (n : Int) = n := by simp [IntKind.wrap, IntKind.bits, IntKind.signed]; omega
theorem bnextd (w : World) : Below w.heap.size w ((World.drew w).alloc (.cells #[] 131)) := (drewb w).trans (bnew (World.drew w) (.cells #[] 131))
theorem own_made (w : World) : ((World.drew w).alloc (.cells #[] 131)).ownsRow w.heap.size 131 12 (.slice (some ⟨w.heap.size, 0, none⟩) 0 0) 0 [] :=
  ⟨rfl, .inr ⟨w.heap.size, 0, #[], rfl, Nat.le_refl _, heap_alloc_last (World.drew w) (.cells #[] 131), Nat.le_refl _, by simp [maxLen], rfl, rfl⟩⟩
section
variable {w w' : World} {gq base n : Nat} {R v : Value} {xs : List Value}
set_option maxRecDepth 20000 in
set_option maxHeartbeats 8000000 in
theorem refDrop_in (h : w.rowIs gq 79 2 (tabQ R v)) (ho : w.ownsRow base 131 12 v n xs) (hn : n ≤ 2000) (h1 : ∀ x ∈ xs, x.oneCell' = true) (i : Nat) (hi : i < n) :
    Calls Try.prog 45 #[.pointer (some ⟨gq, 0, none⟩), .int .i64 i] w fun e w' => e = .returned (.tuple #[]) ∧ ∃ v', w'.rowIs gq 79 2 (tabQ R v') ∧ w'.ownsRow w.heap.size 131 12 v' (n - 1) (xs.take (i * 12) ++ xs.drop ((i + 1) * 12)) ∧ Chg (fun x => x = gq) w w' := by
  obtain ⟨A, cA, rfl⟩ := own_form ho
  have HNA := Lib.hid (own_none ho)
  have HO := Lib.hid ho
  have HROW := Lib.hid h
  have HOC := Lib.hid h1
  have HV1 := Lib.hid (show ∀ w', Below w.heap.size w w' → w'.cell? ⟨gq, 1, none⟩ = some (.slice A n cA) from fun w' hb => (rowB h hb).cell (i := 1) (by omega))
  have HIN := Lib.hid (And.intro (Nat.le_of_lt hi) hi)
  clear h ho h1
  go_enter Try.func45, Try.ntmps45
  have hS0 : ∀ l, Stage (fun _ => True) [(19, fun w' : World => Below w.heap.size w w')] l (World.drew w) := fun l => Stage.one trivial (fun _ => drewb w)
  refine wp_region_gen (S := Stage (fun _ => True) [(19, fun w' : World => Below w.heap.size w w')]) (by kernel_rfl) ?_
  change wpAnyG _ _ _ _ _ _ _ _ (World.drew _)
  refine takeG 0 (.pointer (some ⟨gq, 0, none⟩)) (some 4) rfl rfl (by kernel_rfl) (by kernel_rfl) (by kernel_rfl) (by kernel_rfl) (fun _ _ _ h => h) (.inl ⟨by kernel_rfl, fun w _ => by go_simp⟩) (hS0 _) ?_
  refine takeG 2 (.pointer (some ⟨gq, 0, none⟩)) (some 6) rfl rfl (by kernel_rfl) (by kernel_rfl) (by kernel_rfl) (by kernel_rfl) (fun _ _ _ h => h) (.inl ⟨by kernel_rfl, fun w _ => by go_simp⟩) (hS0 _) ?_
  refine takeG 3 (.pointer (some ⟨gq, 0, none⟩)) (some 7) rfl rfl (by kernel_rfl) (by kernel_rfl) (by kernel_rfl) (by kernel_rfl) (fun _ _ _ h => h) (.inl ⟨by kernel_rfl, fun w _ => by go_simp⟩) (hS0 _) ?_
  go_simp
  refine takeG 4 (.pointer (some ⟨gq, 1, none⟩)) (some 8) rfl rfl (by kernel_rfl) (by kernel_rfl) (by kernel_rfl) (by kernel_rfl) (fun _ _ _ h => h) (.inl ⟨by kernel_rfl, fun w _ => by go_simp⟩) (hS0 _) ?_
  refine takeUntil 5 19 List.mem_cons_self (by kernel_rfl) (by kernel_rfl) (.slice A n cA) (some 9) rfl rfl (by kernel_rfl) (by kernel_rfl) (by kernel_rfl) (by kernel_rfl) (fun _ _ _ h => h) (.inl ⟨by kernel_rfl, fun w hw => by have hc := HV1.out w (And.right hw); go_simp⟩) (hS0 _) ?_
  refine takeG 6 (.int .i64 i) (some 10) rfl rfl (by kernel_rfl) (by kernel_rfl) (by kernel_rfl) (by kernel_rfl) (fun _ _ _ h => h) (.inl ⟨by kernel_rfl, fun w _ => by go_simp⟩) (hS0 _) ?_
  go_simp
  refine takeG 7 (.slice A i cA) (some 11) rfl rfl (by kernel_rfl) (by kernel_rfl) (by kernel_rfl) (by kernel_rfl) (fun _ _ _ h => h) (.inl ⟨by kernel_rfl, fun w _ => sliceTo_proc rfl (by go_simp; try rfl) (by go_simp; try rfl) (by omega) HNA.out.2.2.1 HNA.out.2.2.2 HNA.out.1 w⟩) (hS0 _) ?_
  refine takeG 9 (.pointer (some ⟨gq, 0, none⟩)) (some 13) rfl rfl (by kernel_rfl) (by kernel_rfl) (by kernel_rfl) (by kernel_rfl) (fun _ _ _ h => h) (.inl ⟨by kernel_rfl, fun w _ => by go_simp⟩) (hS0 _) ?_
  refine takeG 10 (.pointer (some ⟨gq, 0, none⟩)) (some 14) rfl rfl (by kernel_rfl) (by kernel_rfl) (by kernel_rfl) (by kernel_rfl) (fun _ _ _ h => h) (.inl ⟨by kernel_rfl, fun w _ => by go_simp⟩) (hS0 _) ?_
  refine takeG 11 (.pointer (some ⟨gq, 1, none⟩)) (some 15) rfl rfl (by kernel_rfl) (by kernel_rfl) (by kernel_rfl) (by kernel_rfl) (fun _ _ _ h => h) (.inl ⟨by kernel_rfl, fun w _ => by go_simp⟩) (hS0 _) ?_
  go_simp
  refine takeUntil 12 19 List.mem_cons_self (by kernel_rfl) (by kernel_rfl) (.slice A n cA) (some 16) rfl rfl (by kernel_rfl) (by kernel_rfl) (by kernel_rfl) (by kernel_rfl) (fun _ _ _ h => h) (.inl ⟨by kernel_rfl, fun w hw => by have hc := HV1.out w (And.right hw); go_simp⟩) (hS0 _) ?_
  refine takeG 13 (.int .i64 i) (some 17) rfl rfl (by kernel_rfl) (by kernel_rfl) (by kernel_rfl) (by kernel_rfl) (fun _ _ _ h => h) (.inl ⟨by kernel_rfl, fun w _ => by go_simp⟩) (hS0 _) ?_
  refine takeG 14 (.int .i64 ((i + 1 : Nat) : Int)) (some 18) rfl rfl (by kernel_rfl) (by kernel_rfl) (by kernel_rfl) (by kernel_rfl) (fun _ _ _ h => h) (.inl ⟨by kernel_rfl, fun w _ => by go_simp; exact wrapN (i + 1) (by omega)⟩) (hS0 _) ?_
  go_simp
  refine takeG 15 (.slice (fromA A cA (i + 1) 12) (n - (i + 1)) (cA - (i + 1))) (some 19) rfl rfl (by kernel_rfl) (by kernel_rfl) (by kernel_rfl) (by kernel_rfl) (fun _ _ _ h => h) (.inl ⟨by kernel_rfl, fun w _ => sliceFrom_proc rfl (by go_simp; try rfl) (by go_simp; try rfl) (by omega) HNA.out.2.2.1 HNA.out.2.2.2 HNA.out.2.1 HNA.out.1 w⟩) (hS0 _) ?_
  go_simp
  refine runG 1 (.slice (some ⟨w.heap.size, 0, none⟩) 0 0) (some 5) rfl (by kernel_rfl) (by kernel_rfl) rfl (w' := (World.drew w).alloc (.cells #[] 131)) (by go_simp; try rfl) (Stage.one trivial (fun _ => bnextd w)) ?_
  have hown1 := own_made w
  have hb1 := bnextd w
  obtain ⟨w1, hw1⟩ : ∃ w1, w1 = (World.drew w).alloc (.cells #[] 131) := ⟨_, rfl⟩
  rw [← hw1] at hown1 hb1 ⊢
  clear hw1
  go_simp
  have hsr1 : SR w1 (.slice A i cA) i 12 (xs.take (i * 12)) := SR.keep (own_to HO.out i HIN.out.1) hb1
  refine appendG1 8 rfl (by kernel_rfl) (by kernel_rfl) (some 12) rfl (.tmp 5) (.tmp 11) 77 rfl w.heap.size 131 (.agg #[.int .i64 0, .int .i64 0, .int .i64 0, .int .i64 0, .int .i64 0, .bool false, .int .u8 0, .int .u16 0, .int .u16 0, .int .u64 0, .int .i32 0, .bool false]) 12 64 Try.underlying77 (by kernel_rfl) rfl (by decide) (.slice (some ⟨w.heap.size, 0, none⟩) 0 0) (.slice A i cA) 0 i [] (xs.take (i * 12)) (by go_simp; try rfl) hown1 (by go_simp; try rfl) hsr1 (fun v hv => HOC.out v (List.mem_of_mem_take hv)) (by simp [maxLen]; omega) (by omega) (by have := hb1.size; omega) ?_
  intro v5 w5 hown5 hgr5 hat5
  have hb5 : Below w.heap.size w w5 := hb1.grown hgr5 hb1.size (fun x hx => by have := (hown1.lt x hx).1; omega)
  refine ⟨Stage.one trivial (fun _ => hb5), ?_⟩
  obtain ⟨A5, k5, c5, rfl⟩ := own_form' hown5
  go_simp
  have hsr5 : SR w5 (.slice (fromA A cA (i + 1) 12) (n - (i + 1)) (cA - (i + 1))) (n - (i + 1)) 12 (xs.drop ((i + 1) * 12)) := SR.keep (own_from HO.out (i + 1) HIN.out.2) hb5
  refine appendG1 16 rfl (by kernel_rfl) (by kernel_rfl) (some 20) rfl (.tmp 12) (.tmp 19) 77 rfl w.heap.size 131 (.agg #[.int .i64 0, .int .i64 0, .int .i64 0, .int .i64 0, .int .i64 0, .bool false, .int .u8 0, .int .u16 0, .int .u16 0, .int .u64 0, .int .i32 0, .bool false]) 12 64 Try.underlying77 (by kernel_rfl) rfl (by decide) (.slice A5 k5 c5) (.slice (fromA A cA (i + 1) 12) (n - (i + 1)) (cA - (i + 1))) (0 + i) (n - (i + 1)) ([] ++ xs.take (i * 12)) (xs.drop ((i + 1) * 12)) (by go_simp; try rfl) hown5 (by go_simp; try rfl) hsr5 (fun v hv => HOC.out v (List.mem_of_mem_drop hv)) (by simp [maxLen]; omega) (by omega) (by have := hb5.size; omega) ?_
  intro v6 w6 hown6 hgr6 hat6
  have hb6 : Below w.heap.size w w6 := hb5.grown hgr6 hb5.size (fun x hx => by have := (hown5.lt x hx).1; omega)
  obtain ⟨A6, k6, c6, rfl⟩ := own_form' hown6
  refine ⟨Stage.one trivial (fun _ => hb6), ?_⟩
  go_simp
  refine takeG 17 (.pointer (some ⟨gq, 0, none⟩)) (some 21) rfl rfl (by kernel_rfl) (by kernel_rfl) (by kernel_rfl) (by kernel_rfl) (fun _ _ _ h => h) (.inl ⟨by kernel_rfl, fun w _ => by go_simp⟩) (Stage.one trivial (fun _ => hb6)) ?_
  refine takeG 18 (.pointer (some ⟨gq, 1, none⟩)) (some 22) rfl rfl (by kernel_rfl) (by kernel_rfl) (by kernel_rfl) (by kernel_rfl) (fun _ _ _ h => h) (.inl ⟨by kernel_rfl, fun w _ => by go_simp⟩) (Stage.one trivial (fun _ => hb6)) ?_
  have htx6 := rowB HROW.out hb6
  obtain ⟨cur, hcb, hcs, hcf⟩ := htx6
  refine storeCellG (g := gq) 19 rfl (by kernel_rfl) (by kernel_rfl) rfl 77 (.tmp 22) (.tmp 20) rfl 1 (.slice A6 k6 c6) cur 79 (by go_simp; try rfl) (by go_simp; try rfl) (by kernel_rfl) (by kernel_rfl) rfl hcb (by omega) (fun w7 hq7 o7 => ?_)
  refine ⟨Stage.late trivial (by kernel_rfl), ?_⟩
  refine wpAnyG_done (by kernel_rfl) ?_ _
  go_simp
  try go_wp2_with fail
  try go_end0
  refine ⟨rfl, .slice A6 k6 c6, ⟨_, hq7, by simp [hcs], fun j hj => ?_⟩, ?_, chgO (Chg.of_below (fun x => x = gq) hb6) o7 (fun x e => .inl (by cases e; rfl))⟩
  · rcases (show j = 0 ∨ j = 1 by omega) with rfl | rfl
    · rw [Array.getElem?_setIfInBounds_ne (by decide)]; exact hcf 0 (by omega)
    · rw [Array.getElem?_setIfInBounds_self_of_lt (by omega)]; rfl
  · have h1 := own_one hown6 o7 (fun x hx e => by have := (hown6.lt x hx).1; have := HROW.out.lt; cases e; omega)
    rwa [List.nil_append, show 0 + i + (n - (i + 1)) = n - 1 by omega] at h1
end
end Go.Proofs.Ytpjfnmmgfmfcfaa
