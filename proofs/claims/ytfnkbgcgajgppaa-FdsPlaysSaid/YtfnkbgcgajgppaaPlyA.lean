/- The document's answer for open things: a row of lists of numbers: Take, Used. -/
import Derived.Test.YtfnkbgcgajgppaaSetA
set_option linter.unusedVariables false
set_option linter.unusedSimpArgs false
namespace Go.Proofs.Ytfnkbgcgajgppaa
open Go.RowKit

/-- How many are greater than nought. -/
def posCount (l : List Nat) : Nat := l.countP fun x => decide (0 < x)
theorem posCount_take_next (l : List Nat) (k : Nat) (hk : k < l.length) : posCount (l.take (k + 1)) = posCount (l.take k) + if 0 < l[k] then 1 else 0 := by
  unfold posCount
  rw [List.take_succ_eq_append_getElem hk, List.countP_append]
  simp [List.countP_cons]
theorem posCount_le (l : List Nat) : posCount l ≤ l.length := List.countP_le_length
/-- What holds of the row of lists: block gM, n of them; each has a block of its own, from base on. -/
structure MS (w : World) (gM n base : Nat) (V : Nat → Value) (L : Nat → List Nat) : Prop where
  row : w.rowIs gM 112 n V
  own : ∀ l, l < n → w.ownsRow base 3 1 (V l) (L l).length (intVs (L l))
  apart : ∀ l m, l < n → m < n → l ≠ m → ∀ k, (V l).ownBlock = some k → (V m).ownBlock ≠ some k
  bd : ∀ l, l < n → (L l).length ≤ 1000
section
variable {w w' : World} {gM n base : Nat} {V : Nat → Value} {L : Nat → List Nat}
theorem MS.keep (h : MS w gM n base V L) (hb : Below w.heap.size w w') : MS w' gM n base V L :=
  ⟨h.row.of_block (hb.block gM h.row.lt), fun l hl => own_below (h.own l hl) hb, h.apart, h.bd⟩
theorem MS.cell (h : MS w gM n base V L) {l : Nat} (hl : l < n) : w.cell? ⟨gM, l, none⟩ = some (V l) := h.row.cell hl
/-- A list's numbers, one by one. -/
theorem MS.at (h : MS w gM n base V L) {l : Nat} (hl : l < n) {k : Nat} (hk : k < (L l).length) :
    ∃ g c, V l = .slice (some ⟨g, 0, none⟩) (L l).length c ∧ (L l).length ≤ c ∧ g < w.heap.size ∧ base ≤ g ∧ w.cell? ⟨g, k, none⟩ = some (.int .i64 ((L l)[k] : Nat)) ∧ (∀ o, w.frozen? ⟨g, o, none⟩ = false) ∧ ∃ cur, w.heap[g]? = some (.cells cur 3 (0, 0)) := by
  rcases (h.own l hl).2 with ⟨h1, h2⟩ | ⟨g, c, cur, h1, h2, h3, h4, h5, h6, h7⟩
  · omega
  · refine ⟨g, c, h1, h4, rowlt h3, h2, ?_, fun o => rowfree h3 o, cur, h3⟩
    rw [rowcell h3]
    have e : (cur.toList.take ((L l).length * 1))[k]? = (intVs (L l))[k]? := by rw [h7]
    rw [List.getElem?_take_of_lt (by omega)] at e
    rw [Array.getElem?_toList] at e
    rw [e]
    simp [intVs, hk]

/-- One block, and perhaps another, may turn; new ones come. -/
structure Foot (w w' : World) (g : Nat) (r : Option Nat) : Prop where
  os : w'.os = w.os
  tape : w'.tape = w.tape
  output : w'.output = w.output
  size : w.heap.size ≤ w'.heap.size
  block : ∀ k, k < w.heap.size → k ≠ g → r ≠ some k → w'.heap[k]? = w.heap[k]?
theorem Foot.of_below {g : Nat} {r : Option Nat} (a : Below w.heap.size w w') : Foot w w' g r := ⟨a.os, a.tape, a.output, a.size, fun k hk _ _ => a.block k hk⟩
theorem Foot.of_one {g x : Nat} (a : One w w' (some x)) : Foot w w' g (some x) := ⟨a.os, a.tape, a.output, a.size, fun k hk _ h => a.block k hk h⟩
theorem Foot.blk {g k : Nat} {r : Option Nat} {x : Obj} (a : Foot w w' g r) (hx : w.heap[k]? = some x) (h1 : k ≠ g) (h2 : r ≠ some k) : w'.heap[k]? = some x := by rw [a.block k (rowlt hx) h1 h2]; exact hx
theorem Foot.below {g B : Nat} {r : Option Nat} (a : Foot w w' g r) (h1 : B ≤ g) (h2 : ∀ k, r = some k → B ≤ k) (hB : B ≤ w.heap.size) : Below B w w' :=
  ⟨a.os, a.tape, a.output, a.size, fun k hk => a.block k (by omega) (by omega) (fun e => by have := h2 k e; omega)⟩

set_option maxRecDepth 20000 in
set_option maxHeartbeats 4000000 in
theorem refUsed_in (h : MS w gM n base V L) (l : Nat) (hl : l < n) :
    Calls Try.prog 52 #[.pointer (some ⟨gM, l, none⟩)] w fun e w' => e = .returned (.int .i64 (posCount (L l))) ∧ w = w' := by
  obtain ⟨A, c, hV⟩ := own_form (h.own l hl)
  have hb := h.bd l hl
  have HA := Lib.hid (fun k (hk : k < (L l).length) => h.at hl hk)
  have C := h.cell hl
  rw [hV] at C
  have HV := Lib.hid hV
  obtain ⟨z, hz⟩ : ∃ z, z = (L l).length := ⟨_, rfl⟩
  rw [← hz] at C hb
  have HZ := Lib.hid hz
  clear h hV hz
  go_enter Try.func52, Try.ntmps52
  go_wp2_with fail
  go_loop [3, 4] (fun a b => ∃ k : Nat, k ≤ z ∧ b = .int .i64 k ∧ a = .int .i64 (posCount ((L l).take k))) (fun _ b => z - (intOf b).toNat)
  case atStart => exact ⟨0, Nat.zero_le _, rfl, rfl⟩
  case round =>
    obtain ⟨k, hk, rfl, rfl⟩ := hrel
    by_cases hlt : k < z
    · have f1 : (k : Int) < z := by omega
      have hkl : k < (L l).length := by rw [← HZ.out]; exact hlt
      obtain ⟨g, c', h1, h2, h3, h4, h5, h6, _⟩ := HA.out k hkl
      have h1' := h1
      rw [HV.out] at h1'
      simp only [Value.slice.injEq] at h1'
      obtain ⟨rfl, _, rfl⟩ := h1'
      have hn := posCount_take_next (L l) k hkl
      have hp := posCount_le ((L l).take k)
      have hp2 : ((L l).take k).length ≤ k := List.length_take_le _ _
      obtain ⟨x, hx⟩ : ∃ x, x = (L l)[k] := ⟨_, rfl⟩
      rw [← hx] at h5 hn
      obtain ⟨p, hpp⟩ : ∃ p, p = posCount ((L l).take k) := ⟨_, rfl⟩
      rw [← hpp] at hn hp ⊢
      clear hx hpp h1
      by_cases hx0 : 0 < x
      · rw [if_pos hx0] at hn
        have HN := Lib.hid hn
        clear hn
        have f2 : (0 : Int) < x := by omega
        go_wp2_with fail
        go_round
        case rel => exact ⟨k + 1, by omega, by go_num, by rw [HN.out]; go_num⟩
        case measure => simp [intOf]; omega
      · rw [if_neg hx0] at hn
        have HN := Lib.hid hn
        clear hn
        have f2 : ¬ ((0 : Int) < x) := by omega
        go_wp2_with fail
        go_round
        case rel => exact ⟨k + 1, by omega, by go_num, by rw [HN.out]; rfl⟩
        case measure => simp [intOf]; omega
    · obtain rfl : k = z := by omega
      go_wp2_with fail
      go_ret
      exact ⟨ret_int (by rw [HZ.out, List.take_length]), rfl⟩
/-! ### Take -/
theorem own_set {w : World} {base g c n : Nat} {xs : List Nat} (h : w.ownsRow base 3 1 (.slice (some ⟨g, 0, none⟩) n c) n (intVs xs)) (hn : xs.length = n) (k x : Nat) (hk : k < n) :
    (w.setCell ⟨g, k, none⟩ (.int .i64 x)).ownsRow base 3 1 (.slice (some ⟨g, 0, none⟩) n c) n (intVs (xs.set k x)) := by
  rcases h.2 with ⟨h1, h2⟩ | ⟨g0, c0, cur, h1, h2, h3, h4, h5, h6, h7⟩
  · cases h1
  · cases h1
    refine ⟨by simpa [intVs] using hn, .inr ⟨g, c, cur.setIfInBounds k (.int .i64 x), rfl, h2, heap_setCell_same h3 _ (by omega), h4, h5, by simpa using h6, ?_⟩⟩
    rw [Array.toList_setIfInBounds, List.take_set, h7]
    simp [intVs, List.map_set]
def setL (L : Nat → List Nat) (l : Nat) (x : List Nat) : Nat → List Nat := fun j => if j = l then x else L j
def setV (V : Nat → Value) (l : Nat) (x : Value) : Nat → Value := fun j => if j = l then x else V j
/-- A list's number is another one. -/
theorem MS.store (h : MS w gM n base V L) {l : Nat} (hl : l < n) {k : Nat} (hk : k < (L l).length) (x : Nat) {g c : Nat} (hV : V l = .slice (some ⟨g, 0, none⟩) (L l).length c) :
    MS (w.setCell ⟨g, k, none⟩ (.int .i64 x)) gM n base V (setL L l ((L l).set k x)) ∧ One w (w.setCell ⟨g, k, none⟩ (.int .i64 x)) (some g) := by
  have o := one_setCell w g k (.int .i64 (x : Int))
  have hgm : g ≠ gM := fun e => by
    subst e
    obtain ⟨d, h1, _⟩ := h.row
    obtain ⟨g', c', h2, _, _, _, _, _, cur, h3⟩ := h.at hl hk
    rw [hV] at h2
    cases h2
    rw [h1] at h3
    simp at h3
  have hown := h.own l hl
  rw [hV] at hown
  refine ⟨⟨h.row.of_block (o.block gM h.row.lt (fun e => hgm (by cases e; rfl))), fun j hj => ?_, h.apart, fun j hj => ?_⟩, o⟩
  · unfold setL
    by_cases e : j = l
    · subst e
      rw [if_pos rfl, List.length_set, hV]
      exact own_set hown rfl k x hk
    · rw [if_neg e]
      exact own_one (h.own j hj) o (fun q hq e2 => by cases e2; exact h.apart j l hj hl e g hq (by rw [hV]; rfl))
  · unfold setL
    split
    · rw [List.length_set]; exact h.bd l hl
    · exact h.bd j hj

set_option maxRecDepth 20000 in
set_option maxHeartbeats 4000000 in
theorem refTake_full (h : MS w gM n base V L) (l : Nat) (hl : l < n) (r : Nat) (hc : r ≤ posCount (L l)) :
    Calls Try.prog 49 #[.pointer (some ⟨gM, l, none⟩), .int .i64 r] w fun e w' => e = .returned (.int .i64 (-1)) ∧ w = w' := by
  obtain ⟨A, c, hV⟩ := own_form (h.own l hl)
  have hb := h.bd l hl
  have HA := Lib.hid (fun k (hk : k < (L l).length) => h.at hl hk)
  have C := h.cell hl
  rw [hV] at C
  have HV := Lib.hid hV
  have HM := Lib.hid h
  obtain ⟨z, hz⟩ : ∃ z, z = (L l).length := ⟨_, rfl⟩
  rw [← hz] at C hb
  have HZ := Lib.hid hz
  have HC := Lib.hid hc
  clear h hV hz hc
  go_enter Try.func49, Try.ntmps49
  go_wp2_with fail
  go_loop [5, 6] (fun a b => ∃ k : Nat, k ≤ z ∧ b = .int .i64 k ∧ a = .int .i64 (posCount ((L l).take k))) (fun _ b => z - (intOf b).toNat)
  case atStart => exact ⟨0, Nat.zero_le _, rfl, rfl⟩
  case round =>
    obtain ⟨k, hk, rfl, rfl⟩ := hrel
    by_cases hlt : k < z
    · have f1 : (k : Int) < z := by omega
      have hkl : k < (L l).length := by rw [← HZ.out]; exact hlt
      obtain ⟨g, c', h1, h2, h3, h4, h5, h6, _⟩ := HA.out k hkl
      have h1' := h1
      rw [HV.out] at h1'
      simp only [Value.slice.injEq] at h1'
      obtain ⟨rfl, _, rfl⟩ := h1'
      have hn := posCount_take_next (L l) k hkl
      have hp := posCount_le ((L l).take k)
      have hp2 : ((L l).take k).length ≤ k := List.length_take_le _ _
      obtain ⟨x, hx⟩ : ∃ x, x = (L l)[k] := ⟨_, rfl⟩
      rw [← hx] at h5 hn
      obtain ⟨p, hpp⟩ : ∃ p, p = posCount ((L l).take k) := ⟨_, rfl⟩
      rw [← hpp] at hn hp ⊢
      clear hx hpp h1
      by_cases hx0 : 0 < x
      · rw [if_pos hx0] at hn
        have HN := Lib.hid hn
        clear hn
        have f2 : (0 : Int) < x := by omega
        go_wp2_with fail
        go_round
        case rel => exact ⟨k + 1, by omega, by go_num, by rw [HN.out]; go_num⟩
        case measure => simp [intOf]; omega
      · rw [if_neg hx0] at hn
        have HN := Lib.hid hn
        clear hn
        have f2 : ¬ ((0 : Int) < x) := by omega
        go_wp2_with fail
        go_round
        case rel => exact ⟨k + 1, by omega, by go_num, by rw [HN.out]; rfl⟩
        case measure => simp [intOf]; omega
    · obtain rfl : k = z := by omega
      have hfull : posCount ((L l).take k) = posCount (L l) := by rw [HZ.out, List.take_length]
      have hpl := posCount_le (L l)
      rw [hfull]
      clear hfull
      obtain ⟨p, hp⟩ : ∃ p, p = posCount (L l) := ⟨_, rfl⟩
      rw [← hp] at hpl HC ⊢
      clear hp
      have f2 : (r : Int) ≤ (p : Int) := by have := HC.out; omega
      go_wp2_with fail
      go_ret
      exact ⟨rfl, rfl⟩
set_option maxRecDepth 20000 in
set_option maxHeartbeats 4000000 in
theorem refTake_hole (h : MS w gM n base V L) (l : Nat) (hl : l < n) (r : Nat) (hc : posCount (L l) < r) (k : Nat) (hk : k < (L l).length) (h0 : (L l)[k] = 0) (hlow : ∀ j (hj : j < k), (L l)[j] ≠ 0) :
    Calls Try.prog 49 #[.pointer (some ⟨gM, l, none⟩), .int .i64 r] w fun e w' => e = .returned (.int .i64 k) ∧ MS w' gM n base V (setL L l ((L l).set k 1)) ∧ Foot w w' gM (V l).ownBlock := by
  obtain ⟨A, c, hV⟩ := own_form (h.own l hl)
  have hb := h.bd l hl
  have HA := Lib.hid (fun k (hk : k < (L l).length) => h.at hl hk)
  have C := h.cell hl
  rw [hV] at C
  have HV := Lib.hid hV
  have HM := Lib.hid h
  obtain ⟨z, hz⟩ : ∃ z, z = (L l).length := ⟨_, rfl⟩
  rw [← hz] at C hb
  have HZ := Lib.hid hz
  have HC := Lib.hid hc
  clear h hV hz hc
  have HK0 := Lib.hid h0
  have HLW := Lib.hid hlow
  obtain ⟨t, ht⟩ : ∃ t, t = k := ⟨_, rfl⟩
  have HT := Lib.hid ht
  have htz : t < z := by rw [HZ.out, ht]; exact hk
  clear h0 hlow ht
  go_enter Try.func49, Try.ntmps49
  go_wp2_with fail
  go_loop [5, 6] (fun a b => ∃ y : Nat, y ≤ z ∧ b = .int .i64 y ∧ a = .int .i64 (posCount ((L l).take y))) (fun _ b => z - (intOf b).toNat)
  case atStart => exact ⟨0, Nat.zero_le _, rfl, rfl⟩
  case round =>
    obtain ⟨y, hy, rfl, rfl⟩ := hrel
    by_cases hlt : y < z
    · have f1 : (y : Int) < z := by omega
      have hkl : y < (L l).length := by rw [← HZ.out]; exact hlt
      obtain ⟨g, c', h1, h2, h3, h4, h5, h6, _⟩ := HA.out y hkl
      have h1' := h1
      rw [HV.out] at h1'
      simp only [Value.slice.injEq] at h1'
      obtain ⟨rfl, _, rfl⟩ := h1'
      have hn := posCount_take_next (L l) y hkl
      have hp := posCount_le ((L l).take y)
      have hp2 : ((L l).take y).length ≤ y := List.length_take_le _ _
      obtain ⟨x, hx⟩ : ∃ x, x = (L l)[y] := ⟨_, rfl⟩
      rw [← hx] at h5 hn
      obtain ⟨p, hpp⟩ : ∃ p, p = posCount ((L l).take y) := ⟨_, rfl⟩
      rw [← hpp] at hn hp ⊢
      clear hx hpp h1
      by_cases hx0 : 0 < x
      · rw [if_pos hx0] at hn
        have HN := Lib.hid hn
        clear hn
        have f2 : (0 : Int) < x := by omega
        go_wp2_with fail
        go_round
        case rel => exact ⟨y + 1, by omega, by go_num, by rw [HN.out]; go_num⟩
        case measure => simp [intOf]; omega
      · rw [if_neg hx0] at hn
        have HN := Lib.hid hn
        clear hn
        have f2 : ¬ ((0 : Int) < x) := by omega
        go_wp2_with fail
        go_round
        case rel => exact ⟨y + 1, by omega, by go_num, by rw [HN.out]; rfl⟩
        case measure => simp [intOf]; omega
    · obtain rfl : y = z := by omega
      have hfull : posCount ((L l).take y) = posCount (L l) := by rw [HZ.out, List.take_length]
      have hpl := posCount_le (L l)
      rw [hfull]
      clear hfull
      obtain ⟨p, hp⟩ : ∃ p, p = posCount (L l) := ⟨_, rfl⟩
      rw [← hp] at hpl HC ⊢
      clear hp
      have f2 : ¬ ((r : Int) ≤ (p : Int)) := by have := HC.out; omega
      go_wp2_with fail
      go_loop [7] (fun b => ∃ x : Nat, x ≤ t ∧ b = .int .i64 x) (fun b => y - (intOf b).toNat)
      case atStart => exact ⟨0, Nat.zero_le _, rfl⟩
      case round =>
        obtain ⟨x, hx, rfl⟩ := hrel
        have hkl : x < (L l).length := by rw [← HZ.out]; omega
        have f1 : (x : Int) < y := by omega
        obtain ⟨g, c', h1, h2, h3, h4, h5, h6, _⟩ := HA.out x hkl
        have H1 := Lib.hid h1
        have h1' := h1
        rw [HV.out] at h1'
        simp only [Value.slice.injEq] at h1'
        obtain ⟨rfl, _, rfl⟩ := h1'
        clear h1
        by_cases hlt : x < t
        · have f3 : ((((L l)[x] : Nat) : Int) == 0) = false := by
            have := HLW.out x (by rw [← HT.out]; exact hlt)
            simp only [beq_eq_false_iff_ne]
            omega
          obtain ⟨u, hu⟩ : ∃ u, u = (L l)[x] := ⟨_, rfl⟩
          rw [← hu] at h5 f3
          clear hu
          go_wp2_with fail
          go_round
          case rel => exact ⟨x + 1, by omega, by go_num⟩
          case measure => simp [intOf]; omega
        · obtain rfl : x = t := by omega
          have f3 : (L l)[x] = 0 := by
            have := HK0.out
            simp only [HT.out]
            exact this
          rw [f3] at h5
          clear f3
          go_wp2_with fail
          go_ret
          obtain ⟨a1, a2⟩ := HM.out.store hl hkl 1 H1.out
          refine ⟨ret_int (by rw [HT.out]), by rw [← HT.out]; exact a1, ?_⟩
          rw [H1.out]
          exact Foot.of_one a2
theorem MS.grow {w1 w8 : World} (h : MS w1 gM n base V L) {l : Nat} (hl : l < n) (x : Nat) {v8 : Value} (own8 : w8.ownsRow base 3 1 v8 ((L l).length + 1) (intVs (L l ++ [x]))) (gr : w1.grownBy w8 (V l).ownBlock)
    (loc : v8.ownBlock = (V l).ownBlock ∨ v8.ownBlock = some w1.heap.size) (hlen : (L l).length + 1 ≤ 1000) :
    MS (w8.setCell ⟨gM, l, none⟩ v8) gM n base (setV V l v8) (setL L l (L l ++ [x])) ∧ Foot w1 (w8.setCell ⟨gM, l, none⟩ v8) gM (V l).ownBlock := by
  have o8 := one_of_grown gr
  have o9 := one_setCell w8 gM l v8
  have notM : ∀ (w : World) (v : Value) (k : Nat) (xs : List Value), w.ownsRow base 3 1 v k xs → (∃ c, w.heap[gM]? = some (.cells c 112 (0, 0))) → ∀ q, v.ownBlock = some q → q ≠ gM := fun w v k xs ho hc q hq e => by
    subst e
    obtain ⟨_, cur, h1⟩ := own_blk ho hq
    obtain ⟨c, h2⟩ := hc
    rw [h1] at h2
    simp at h2
  have hM1 : ∃ c, w1.heap[gM]? = some (.cells c 112 (0, 0)) := by
    obtain ⟨c, h1, _⟩ := h.row
    exact ⟨c, h1⟩
  have hVM : ∀ j, j < n → ∀ q, (V j).ownBlock = some q → q ≠ gM := fun j hj q hq => notM w1 (V j) _ _ (h.own j hj) hM1 q hq
  have hr8 : w8.rowIs gM 112 n V := h.row.of_block (o8.block gM h.row.lt (fun e => hVM l hl gM e rfl))
  have hM8 : ∃ c, w8.heap[gM]? = some (.cells c 112 (0, 0)) := by
    obtain ⟨c, h1, _⟩ := hr8
    exact ⟨c, h1⟩
  refine ⟨⟨(hr8.set l v8).congr (fun j hj => by unfold setV; split <;> rfl), fun j hj => ?_, fun a b ha hb hab k hk => ?_, fun j hj => ?_⟩, ?_⟩
  · unfold setV setL
    by_cases e : j = l
    · rw [if_pos e, if_pos e, List.length_append]
      exact own_one own8 o9 (fun q hq e2 => by cases e2; exact notM w8 v8 _ _ own8 hM8 gM hq rfl)
    · rw [if_neg e, if_neg e]
      exact own_one (own_one (h.own j hj) o8 (fun q hq e2 => h.apart l j hl hj (fun e3 => e e3.symm) q e2 hq)) o9 (fun q hq e2 => by cases e2; exact hVM j hj gM hq rfl)
  · unfold setV at hk ⊢
    have lt1 : ∀ j, j < n → ∀ q, (V j).ownBlock = some q → q < w1.heap.size := fun j hj q hq => ((h.own j hj).lt q hq).2
    by_cases ea : a = l
    · rw [if_pos ea] at hk
      rw [if_neg (fun e => hab (ea.trans e.symm))]
      rcases loc with hloc | hloc
      · rw [hloc] at hk
        exact h.apart l b hl hb (fun e => hab (ea.trans e)) k hk
      · rw [hloc] at hk
        cases hk
        intro hq
        have := lt1 b hb _ hq
        omega
    · rw [if_neg ea] at hk
      by_cases eb : b = l
      · rw [if_pos eb]
        rcases loc with hloc | hloc
        · rw [hloc]
          exact h.apart a l ha hl ea k hk
        · rw [hloc]
          intro hq
          cases hq
          have := lt1 a ha _ hk
          omega
      · rw [if_neg eb]
        exact h.apart a b ha hb hab k hk
  · unfold setL
    split
    · rw [List.length_append]; simpa using hlen
    · exact h.bd j hj
  · exact ⟨o9.os.trans o8.os, o9.tape.trans o8.tape, o9.output.trans o8.output, Nat.le_trans o8.size o9.size, fun k hk h1 h2 => (o9.block k (Nat.lt_of_lt_of_le hk o8.size) (fun e => h1 (by cases e; rfl))).trans (o8.block k hk h2)⟩

set_option maxRecDepth 20000 in
set_option maxHeartbeats 4000000 in
theorem refTake_app (h : MS w gM n base V L) (hbase : base ≤ w.heap.size) (l : Nat) (hl : l < n) (r : Nat) (hc : posCount (L l) < r) (hlow : ∀ j (hj : j < (L l).length), (L l)[j] ≠ 0) (hlen : (L l).length < 1000) :
    Calls Try.prog 49 #[.pointer (some ⟨gM, l, none⟩), .int .i64 r] w fun e w' => e = .returned (.int .i64 (L l).length) ∧ (∃ v', MS w' gM n base (setV V l v') (setL L l (L l ++ [1]))) ∧ Foot w w' gM (V l).ownBlock := by
  obtain ⟨A, c, hV⟩ := own_form (h.own l hl)
  have hb := h.bd l hl
  have HA := Lib.hid (fun k (hk : k < (L l).length) => h.at hl hk)
  have C := h.cell hl
  rw [hV] at C
  have HV := Lib.hid hV
  have HM := Lib.hid h
  obtain ⟨z, hz⟩ : ∃ z, z = (L l).length := ⟨_, rfl⟩
  rw [← hz] at C hb
  have HZ := Lib.hid hz
  have HC := Lib.hid hc
  clear h hV hz hc
  have HLW := Lib.hid hlow
  have HLN := Lib.hid hlen
  have HBS := Lib.hid hbase
  clear hlow hlen hbase
  go_enter Try.func49, Try.ntmps49
  go_wp2_with fail
  go_loop [5, 6] (fun a b => ∃ y : Nat, y ≤ z ∧ b = .int .i64 y ∧ a = .int .i64 (posCount ((L l).take y))) (fun _ b => z - (intOf b).toNat)
  case atStart => exact ⟨0, Nat.zero_le _, rfl, rfl⟩
  case round =>
    obtain ⟨y, hy, rfl, rfl⟩ := hrel
    by_cases hlt : y < z
    · have f1 : (y : Int) < z := by omega
      have hkl : y < (L l).length := by rw [← HZ.out]; exact hlt
      obtain ⟨g, c', h1, h2, h3, h4, h5, h6, _⟩ := HA.out y hkl
      have h1' := h1
      rw [HV.out] at h1'
      simp only [Value.slice.injEq] at h1'
      obtain ⟨rfl, _, rfl⟩ := h1'
      have hn := posCount_take_next (L l) y hkl
      have hp := posCount_le ((L l).take y)
      have hp2 : ((L l).take y).length ≤ y := List.length_take_le _ _
      obtain ⟨x, hx⟩ : ∃ x, x = (L l)[y] := ⟨_, rfl⟩
      rw [← hx] at h5 hn
      obtain ⟨p, hpp⟩ : ∃ p, p = posCount ((L l).take y) := ⟨_, rfl⟩
      rw [← hpp] at hn hp ⊢
      clear hx hpp h1
      by_cases hx0 : 0 < x
      · rw [if_pos hx0] at hn
        have HN := Lib.hid hn
        clear hn
        have f2 : (0 : Int) < x := by omega
        go_wp2_with fail
        go_round
        case rel => exact ⟨y + 1, by omega, by go_num, by rw [HN.out]; go_num⟩
        case measure => simp [intOf]; omega
      · rw [if_neg hx0] at hn
        have HN := Lib.hid hn
        clear hn
        have f2 : ¬ ((0 : Int) < x) := by omega
        go_wp2_with fail
        go_round
        case rel => exact ⟨y + 1, by omega, by go_num, by rw [HN.out]; rfl⟩
        case measure => simp [intOf]; omega
    · obtain rfl : y = z := by omega
      have hfull : posCount ((L l).take y) = posCount (L l) := by rw [HZ.out, List.take_length]
      have hpl := posCount_le (L l)
      rw [hfull]
      clear hfull
      obtain ⟨p, hp⟩ : ∃ p, p = posCount (L l) := ⟨_, rfl⟩
      rw [← hp] at hpl HC ⊢
      clear hp
      have f2 : ¬ ((r : Int) ≤ (p : Int)) := by have := HC.out; omega
      go_wp2_with fail
      go_loop [7] (fun b => ∃ x : Nat, x ≤ y ∧ b = .int .i64 x) (fun b => y - (intOf b).toNat)
      case atStart => exact ⟨0, Nat.zero_le _, rfl⟩
      case round =>
        obtain ⟨x, hx, rfl⟩ := hrel
        by_cases hlt : x < y
        · have hkl : x < (L l).length := by rw [← HZ.out]; omega
          have f1 : (x : Int) < y := by omega
          obtain ⟨g, c', h1, h2, h3, h4, h5, h6, _⟩ := HA.out x hkl
          have h1' := h1
          rw [HV.out] at h1'
          simp only [Value.slice.injEq] at h1'
          obtain ⟨rfl, _, rfl⟩ := h1'
          clear h1
          have f3 : ((((L l)[x] : Nat) : Int) == 0) = false := by
            have := HLW.out x hkl
            simp only [beq_eq_false_iff_ne]
            omega
          obtain ⟨u, hu⟩ : ∃ u, u = (L l)[x] := ⟨_, rfl⟩
          rw [← hu] at h5 f3
          clear hu
          go_wp2_with fail
          go_round
          case rel => exact ⟨x + 1, by omega, by go_num⟩
          case measure => simp [intOf]; omega
        · obtain rfl : x = y := by omega
          have f1 : ¬ ((x : Int) < x) := by omega
          go_wp2_with (with_reducible refine wpList_stop (some 60) rfl ?_)
          refine Lib.hid ?_
          have hbi5 := bnew w (.cells #[.int .i64 1] 3)
          have hM5 := HM.out.keep hbi5
          have hl5 := heap_alloc_last w (.cells #[.int .i64 1] 3)
          have hO5 := hM5.own l hl
          rw [HV.out] at hO5
          have hln := HLN.out
          rw [← HZ.out] at hO5 hln
          refine wpList_append_sr rfl (.tmp 58) (.tmp 59) 53 rfl (some 60) rfl base 3 (.int .i64 0) 1 8 Try.underlying53 (by kernel_rfl) rfl (by decide) (.slice A x c) (.slice (some ⟨w.heap.size, 0, none⟩) 1 1) x 1 (intVs (L l)) _ rfl hO5 rfl (SR.lit hl5 rfl) (List.all_eq_true.1 (by rfl)) (by unfold maxLen; omega) (by omega) (Nat.le_trans HBS.out hbi5.size) ?_
          intro v8 w8 hown8 hgr8 hloc8
          obtain ⟨A8, c8, rfl⟩ := own_form hown8
          have hgr8' : (w.alloc (.cells #[.int .i64 1] 3)).grownBy w8 (V l).ownBlock := by rw [HV.out, ← HZ.out]; exact hgr8
          have hloc8' : (Value.slice A8 (x + 1) c8).ownBlock = (V l).ownBlock ∨ (Value.slice A8 (x + 1) c8).ownBlock = some (w.alloc (.cells #[.int .i64 1] 3)).heap.size := by rw [HV.out, ← HZ.out]; exact hloc8
          obtain ⟨m1, m2⟩ := hM5.grow hl 1 (v8 := .slice A8 (x + 1) c8) (by rw [← HZ.out]; simpa [intVs] using hown8) hgr8' hloc8' (by rw [← HZ.out]; omega)
          have r8 : w8.rowIs gM 112 n V := hM5.row.of_block ((one_of_grown hgr8').block gM hM5.row.lt (fun e => by
            obtain ⟨_, cur, q1⟩ := own_blk (hM5.own l hl) e
            obtain ⟨cc, q2, _⟩ := hM5.row
            rw [q1] at q2
            simp at q2))
          have HM1 := Lib.hid m1
          have HM2 := Lib.hid m2
          have C8 := r8.cell (i := l) hl
          have C9 := r8.frozen
          rw [HV.out, ← HZ.out] at C8
          have f5 : IntKind.i64.wrap ((x : Int) + 1 - 1) = x := by rw [IntKind.wrap_i64]; omega
          have f6 : ((x + 1 : Nat) : Int) = (x : Int) + 1 := by omega
          clear hown8 hgr8 hloc8 hgr8' hloc8' m1 m2 r8 hO5 hl5 hM5 C
          go_wp2_with fail
          go_ret
          refine ⟨ret_int (by rw [← HZ.out]; try omega), ⟨_, HM1.out⟩, ?_⟩
          have b := HM2.out
          exact ⟨b.os, b.tape, b.output, Nat.le_trans hbi5.size b.size, fun k hk h1 h2 => (b.block k (Nat.lt_of_lt_of_le hk hbi5.size) h1 h2).trans (hbi5.block k hk)⟩
end
end Go.Proofs.Ytfnkbgcgajgppaa
