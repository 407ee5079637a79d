/- Contracts: the document's Pages and Fits; ops.Load. -/
import Derived.Test.YtbdcbkmacpameaaOpsE
import Derived.Test.YtbdcbkmacpameaaHeld
set_option linter.unusedVariables false
set_option linter.unusedSimpArgs false
namespace Go.Proofs.Ytbdcbkmacpameaa
open Go.RowKit

set_option maxHeartbeats 1000000 in
theorem refPages_any (x : Int) (hx : 0 ≤ x) (hx' : x ≤ 255) (n : Nat) (hn : n ≤ 10000) (w : World) :
    Calls Try.prog 38 #[.int .i64 x, .int .i64 n] w fun e w' => e = .returned (.int .i64 (((n : Int) + 64 - 1) / 64 + x)) ∧ Below w.heap.size w w' := by
  go_enter Try.func38, Try.ntmps38
  go_wp2_with fail
  go_loopw [5] (fun v5 wr => ∃ k : Nat, (k : Int) ≤ ((n : Int) + 64 - 1) / 64 ∧ v5 = .int .i64 k ∧ Below w.heap.size w wr) (fun v5 _ => (((n : Int) + 64 - 1) / 64 - intOf v5).toNat)
  case atStart => exact ⟨0, by omega, rfl, Below.refl _ _⟩
  case round =>
    obtain ⟨k, hk, rfl, hB⟩ := hrel
    by_cases hlt : (k : Int) * 64 < (n : Int)
    · go_wp2_with fail
      go_roundw
      case rel => exact ⟨k + 1, by omega, by go_num, hB⟩
      case measure => simp [intOf]; omega
    · have e : (k : Int) = ((n : Int) + 64 - 1) / 64 := by omega
      have he := Lib.hid e
      clear e
      go_wp2_with fail
      go_ret
      exact ⟨by rw [← he.out]; rfl, hB⟩

instance (x n : Int) : Decidable (progFits x n) := by unfold progFits; infer_instance
def fitsB (x n : Int) : Bool := decide (progFits x n)

set_option maxHeartbeats 1000000 in
theorem refFits_any (x : Int) (hx : 0 ≤ x) (hx' : x ≤ 255) (n : Nat) (hn : n ≤ 10000) (w : World) :
    Calls Try.prog 35 #[.int .i64 x, .int .i64 n] w fun e w' => e = .returned (.bool (fitsB x n)) ∧ Below w.heap.size w w' := by
  by_cases h0 : (n : Int) ≤ 0
  · have e : fitsB x n = false := by unfold fitsB; rw [decide_eq_false_iff_not]; unfold progFits; omega
    rw [e]
    go_enter Try.func35, Try.ntmps35
    go_wp2_with fail
    go_ret
    exact ⟨rfl, Below.refl _ _⟩
  have h0' : 0 < (n : Int) := by omega
  by_cases h1 : 2048 < (n : Int)
  · have e : fitsB x n = false := by unfold fitsB; rw [decide_eq_false_iff_not]; unfold progFits; omega
    rw [e]
    go_enter Try.func35, Try.ntmps35
    go_wp2_with fail
    go_ret
    exact ⟨rfl, Below.refl _ _⟩
  have h1' : (n : Int) ≤ 2048 := by omega
  have e : fitsB x n = decide (((n : Int) + 64 - 1) / 64 + x ≤ 32) := by
    unfold fitsB
    refine decide_eq_decide.2 ?_
    unfold progFits
    constructor
    · intro h; exact h.2.2
    · intro h; exact ⟨h0', h1', h⟩
  rw [e]
  go_enter Try.func35, Try.ntmps35
  go_wp2_with (go_at_call 38; refine (refPages_any x hx hx' n hn _).mono ?_; rintro e w1 ⟨he, hb⟩; subst he)
  go_ret
  exact ⟨rfl, hb⟩

/-- May bytes be a program's file? -/
def isFile (zs : List Int) : Prop := 4 ≤ zs.length ∧ zs.getD 0 0 = 71 ∧ zs.getD 1 0 = 88 ∧ zs.getD 3 0 = 0 ∧ progFits (zs.getD 2 0) ((zs.length - 4 : Nat) : Int)

theorem heap_cells_other {g k : Nat} (hne : k ≠ g) : ∀ (vs : List Value) (o : Nat) (w : World), (w.setCells g o vs).heap[k]? = w.heap[k]?
  | [], _, _ => rfl
  | v :: r, o, w => by
    show ((w.setCell ⟨g, o, none⟩ v).setCells g (o + 1) r).heap[k]? = _
    rw [heap_cells_other hne r (o + 1) _]
    exact Below.heap_setCell _ _ _ _ (by exact hne)

theorem isSome_of {α : Type} {o : Option α} {x : α} (h : o = some x) : o.isSome = true := by rw [h]; rfl

theorem SR.dropAt {w : World} {B : Option Addr} {n cap cap' : Nat} {xs : List Value} {b off : Nat} (h : SR w (.slice (some ⟨b, off, none⟩) n cap) n 1 xs) (i : Nat) (hi : i ≤ n) (hc : n - i ≤ cap') (hc' : cap' ≤ maxLen) (hB : i < n → B = some ⟨b, off + i, none⟩) (hB' : ∃ a, B = some a) :
    SR w (.slice B (n - i) cap') (n - i) 1 (xs.drop i) := by
  have hl : xs.length = n := by simpa using h.1
  refine ⟨by simp [hl], ?_⟩
  rcases h.2 with ⟨h1, h2⟩ | ⟨a, c, h1, h2, h3, h4⟩
  · cases h1
  · cases h1
    by_cases hlt : i < n
    · refine .inr ⟨_, cap', by rw [hB hlt], hc, hc', fun h0 => ?_⟩
      obtain ⟨e1, e2, e3⟩ := h4 (by omega)
      refine ⟨rfl, e2, fun j hj => ?_⟩
      rw [List.getElem?_drop]
      have := e3 (i + j) (by omega)
      rw [← this]
      simp only [Nat.add_assoc]
    · obtain ⟨a, rfl⟩ := hB'
      exact .inr ⟨a, cap', rfl, hc, hc', fun h0 => by omega⟩

set_option maxHeartbeats 1000000 in
theorem opsLoad_short (w : World) (A : Option Addr) (n cap : Nat) (h : n < 4) :
    Calls Try.prog 36 #[.slice A n cap] w fun e w' => e = .returned (.tuple #[.agg #[.int .u8 0, .slice none 0 0], .int .i64 19]) ∧ Below w.heap.size w w' := by
  have h4 : (n : Int) < 4 := by omega
  go_enter Try.func36, Try.ntmps36
  go_wp2_with fail
  exact bodyPost_ret (v := .tuple #[.agg #[.int .u8 0, .slice none 0 0], .int .i64 19]) (by simp [results, Try.results36, go_sem]) rfl ⟨rfl, by first | exact bnew _ _ | exact (bnew w _).setCell (Nat.le_refl _) _⟩

set_option maxHeartbeats 1000000 in
theorem opsLoad_head (w : World) (g off n cap : Nat) (z0 z1 z3 : Int) (h : 4 ≤ n) (c0 : w.cell? ⟨g, off, none⟩ = some (.int .u8 z0)) (c1 : w.cell? ⟨g, off + 1, none⟩ = some (.int .u8 z1)) (c3 : w.cell? ⟨g, off + 3, none⟩ = some (.int .u8 z3)) (hg : g < w.heap.size) (hbad : ¬ (z0 = 71 ∧ z1 = 88 ∧ z3 = 0)) :
    Calls Try.prog 36 #[.slice (some ⟨g, off, none⟩) n cap] w fun e w' => e = .returned (.tuple #[.agg #[.int .u8 0, .slice none 0 0], .int .i64 19]) ∧ Below w.heap.size w w' := by
  have h4 : ¬ (n : Int) < 4 := by omega
  by_cases e0 : z0 = 71
  · subst e0
    by_cases e1 : z1 = 88
    · subst e1
      have e3 : z3 ≠ 0 := fun h => hbad ⟨rfl, rfl, h⟩
      go_enter Try.func36, Try.ntmps36
      go_wp2_with fail
      exact bodyPost_ret (v := .tuple #[.agg #[.int .u8 0, .slice none 0 0], .int .i64 19]) (by simp [results, Try.results36, go_sem]) rfl ⟨rfl, by first | exact bnew _ _ | exact (bnew w _).setCell (Nat.le_refl _) _⟩
    · go_enter Try.func36, Try.ntmps36
      go_wp2_with fail
      exact bodyPost_ret (v := .tuple #[.agg #[.int .u8 0, .slice none 0 0], .int .i64 19]) (by simp [results, Try.results36, go_sem]) rfl ⟨rfl, by first | exact bnew _ _ | exact (bnew w _).setCell (Nat.le_refl _) _⟩
  · go_enter Try.func36, Try.ntmps36
    go_wp2_with fail
    exact bodyPost_ret (v := .tuple #[.agg #[.int .u8 0, .slice none 0 0], .int .i64 19]) (by simp [results, Try.results36, go_sem]) rfl ⟨rfl, by first | exact bnew _ _ | exact (bnew w _).setCell (Nat.le_refl _) _⟩

set_option maxRecDepth 10000 in
set_option maxHeartbeats 4000000 in
theorem opsLoad_mid (w : World) (g off n cap : Nat) (zs : List Int) (h : 4 ≤ n) (hn : n ≤ 4000) (hsi : SI w .u8 (.slice (some ⟨g, off, none⟩) n cap) zs) (hl : zs.length = n) (h0 : zs.getD 0 0 = 71) (h1 : zs.getD 1 0 = 88) (h3 : zs.getD 3 0 = 0) (hg : g < w.heap.size) (hcap : n ≤ cap) (hcm : cap ≤ maxLen)
    (hc : ∀ i, i < n → w.cell? ⟨g, off + i, none⟩ = some (.int .u8 (zs.getD i 0))) :
    Calls Try.prog 36 #[.slice (some ⟨g, off, none⟩) n cap] w fun e w' => Below w.heap.size w w' ∧
      ((progFits (zs.getD 2 0) ((n - 4 : Nat) : Int) ∧ ∃ ad c, e = .returned (.tuple #[.agg #[.int .u8 (zs.getD 2 0), .slice ad (n - 4) c], .int .i64 0]) ∧ SI w' .u8 (.slice ad (n - 4) c) (zs.drop 4)) ∨
       (¬ progFits (zs.getD 2 0) ((n - 4 : Nat) : Int) ∧ e = .returned (.tuple #[.agg #[.int .u8 0, .slice none 0 0], .int .i64 19]))) := by
  have c0 : w.cell? ⟨g, off, none⟩ = some (.int .u8 71) := by rw [← h0]; exact hc 0 (by omega)
  have c1 : w.cell? ⟨g, off + 1, none⟩ = some (.int .u8 88) := by rw [← h1]; exact hc 1 (by omega)
  have c3 : w.cell? ⟨g, off + 3, none⟩ = some (.int .u8 0) := by rw [← h3]; exact hc 3 (by omega)
  have c2 := hc 2 (by omega)
  have hz2 : 0 ≤ zs.getD 2 0 ∧ zs.getD 2 0 ≤ 255 := by
    rw [List.getD_eq_getElem?_getD, List.getElem?_eq_getElem (by omega)]
    exact wf_u8 (hsi.wf _ (List.getElem_mem _))
  have hsr0 : SR w (.slice (some ⟨g, off, none⟩) n cap) n 1 (zs.map (Value.int .u8)) := by have := hsi.sr; rwa [hl] at this
  obtain ⟨B, hB, hsr2⟩ : ∃ B : Addr, (if cap = 4 then some (⟨g, off, none⟩ : Addr) else some ⟨g, off + 4, none⟩) = some B ∧ Hid (SR w (.slice (some B) (n - 4) (cap - 4)) (n - 4) 1 ((zs.map (Value.int .u8)).drop 4)) := by
    by_cases h : cap = 4
    · exact ⟨⟨g, off, none⟩, by simp [h], hsr0.dropAt 4 (by omega) (by omega) (by omega) (fun h' => by omega) ⟨_, rfl⟩⟩
    · exact ⟨⟨g, off + 4, none⟩, by simp [h], hsr0.dropAt 4 (by omega) (by omega) (by omega) (fun h' => rfl) ⟨_, rfl⟩⟩
  have hwf := Lib.hid hsi.wf
  generalize zs.getD 2 0 = z2 at *
  clear hsi hsr0 hc h0 h1 h3
  have h4 : ¬ (n : Int) < 4 := by omega
  have h4' : (4 : Int) ≤ (n : Int) := by omega
  have hic : 4 ≤ cap := by omega
  have h2n : ¬ (n : Int) ≤ 2 := by omega
  have h2n' : (2 : Int) < (n : Int) := by omega
  have hbN := bnew w (.cells #[.int .u8 0, .slice none 0 0] 45)
  have hr2 := heap_alloc_last w (.cells #[.int .u8 0, .slice none 0 0] 45)
  have hs1 : (w.alloc (.cells #[.int .u8 0, .slice none 0 0] 45)).heap.size = w.heap.size + 1 := by simp
  go_enter Try.func36, Try.ntmps36
  go_wp2_with fail
  generalize w.alloc (.cells #[.int .u8 0, .slice none 0 0] 45) = w1 at *
  have hsr1 := Lib.hid (hsr2.out.keep hbN)
  have k2 : w1.cell? ⟨g, off + 2, none⟩ = some (.int .u8 z2) := (hbN.cell (by exact hg)).trans c2
  have hk2 : ∀ w', Below w1.heap.size w1.drew w' → w'.cell? ⟨g, off + 2, none⟩ = some (.int .u8 z2) := fun w' hb => (hb.cell (by show g < w1.heap.size; omega)).trans k2
  have hSd : Below w1.heap.size w1.drew w1.drew := Below.refl _ _
  clear c0 c1 c2 c3 hsr2 k2
  refine wp_region_held (S := fun w' => Below w1.heap.size w1.drew w') (by kernel_rfl) ?_
  change wpAnyH _ _ _ _ _ _ _ _ (World.drew _)
  refine takeH 0 (.slice (some ⟨g, off, none⟩) n cap) (some 28) rfl rfl (by kernel_rfl) (by kernel_rfl) (by kernel_rfl) (fun _ _ _ h => h) (.inl ⟨by kernel_rfl, fun w _ => by go_simp⟩) hSd ?_
  refine takeH 1 (.pointer (some ⟨g, off + 2, none⟩)) (some 29) rfl rfl (by kernel_rfl) (by kernel_rfl) (by kernel_rfl) (fun _ _ _ h => h) (.inl ⟨by kernel_rfl, fun w _ => by go_simp⟩) hSd ?_
  refine takeH 2 (.int .u8 z2) (some 30) rfl rfl (by kernel_rfl) (by kernel_rfl) (by kernel_rfl) (fun _ _ _ h => h) (.inl ⟨by kernel_rfl, fun w hw => by have hc := hk2 w hw; go_simp⟩) hSd ?_
  refine takeH 4 (.slice (some ⟨g, off, none⟩) n cap) (some 32) rfl rfl (by kernel_rfl) (by kernel_rfl) (by kernel_rfl) (fun _ _ _ h => h) (.inl ⟨by kernel_rfl, fun w _ => by go_simp⟩) hSd ?_
  refine takeH 5 (.slice (some B) (n - 4) (cap - 4)) (some 33) rfl rfl (by kernel_rfl) (by kernel_rfl) (by kernel_rfl) (fun _ _ _ h => h) (.inl ⟨by kernel_rfl, fun w _ => by go_simp⟩) hSd ?_
  have hsrd : SR w1.drew (.slice (some B) (n - 4) (cap - 4)) (n - 4) 1 ((zs.map (Value.int .u8)).drop 4) := hsr1.out
  refine litAppendAlloc 3 6 7 8 31 34 35 4 (by decide) (by decide) (by decide) (by decide) (by decide) (by decide) (by decide) (by decide) rfl rfl rfl rfl rfl rfl rfl rfl rfl rfl rfl (by kernel_rfl) (by kernel_rfl) (by kernel_rfl) (by kernel_rfl) (by kernel_rfl) (by kernel_rfl) (by kernel_rfl) (by kernel_rfl) (fun _ _ _ _ h => h) (by kernel_rfl) (by kernel_rfl) (by kernel_rfl)
    5 45 43 #[.int .u8 0, .slice none 0 0] (fun a w => ?r3) (fun a w => ?r8) (.tmp 33) rfl (.slice (some B) (n - 4) (cap - 4)) (fun v3 => ?hd) (fun v3 v8 => ?hd') (fun v3 => ?hx) (fun v3 v8 => ?hx') (.int .u8 0) 1 1 (n - 4) ((zs.map (Value.int .u8)).drop 4)
    Try.underlying43 u8_info rfl (by omega) hsrd (fun u hu => ints_one _ _ u (List.mem_of_mem_drop hu)) (by simp [maxLen]; omega) (by omega)
    (fun ad c => .agg #[.int .u8 z2, .slice ad (n - 4) c]) (fun L ad c => .inl ⟨by kernel_rfl, fun w _ => by go_simp⟩) (fun L G ad c => .inl ⟨by kernel_rfl, fun w _ => by go_simp⟩) ?_
  case r3 => go_simp
  case r8 => go_simp
  case hd => go_simp
  case hd' => go_simp
  case hx => go_simp
  case hx' => go_simp
  intro L G ad3 cp3 w4 hb4 hgeG hrowG hown3 hne3
  have hgeG' : w1.heap.size ≤ G := hgeG
  have hrow4 : w4.rowIs G 45 2 (fun i => #[Value.int .u8 0, .slice none 0 0].toList.getD i undef) := ⟨_, hrowG, rfl, fun i hi => by
    have : i = 0 ∨ i = 1 := by omega
    rcases this with rfl | rfl <;> rfl⟩
  have h45 : (Try.prog.info? 45).map (·.size) = some 2 := by kernel_rfl
  refine storeH 9 rfl (by kernel_rfl) (by kernel_rfl) (by kernel_rfl) 45 (.tmp 4) (.tmp 35) rfl rfl G 0 #[.int .u8 z2, .slice ad3 (n - 4) cp3] ?hx ?hy h45 (fun j hj => by rw [Nat.zero_add]; exact isSome_of (hrow4.cell (by simpa using hj))) (fun j hj => hrow4.frozen _) (by intro v hv; simp at hv; rcases hv with rfl | rfl <;> rfl)
    (fun w' hw' => by rw [hw']; exact below_setCells hgeG _ _ _ hb4) ?_
  case hx => go_simp
  case hy => go_simp
  intro w5 hw5
  have hb5 : Below w1.heap.size w1.drew w5 := by rw [hw5]; exact below_setCells hgeG' _ _ _ hb4
  have hrow5 : w5.rowIs G 45 2 (fun i => #[Value.int .u8 z2, .slice ad3 (n - 4) cp3].toList.getD i undef) := by
    rw [hw5]
    refine (rowIs_setCells _ 0 _ _ hrow4).congr (fun i hi => ?_)
    have : i = 0 ∨ i = 1 := by omega
    rcases this with rfl | rfl <;> rfl
  have hown5 : w5.ownsRow w1.heap.size 5 1 (.slice ad3 (n - 4) cp3) (n - 4) ((zs.map (Value.int .u8)).drop 4) := by
    refine own_keep hown3 (fun k hk => ?_)
    rw [hw5]
    exact heap_cells_other (fun h => hne3 (by rw [← h]; exact hk)) _ _ _
  clear hw5 hrow4 hrowG hown3 hne3 hk2 hb4 hsrd
  have q0 := hrow5.cell (i := 0) (by omega)
  have q1 := hrow5.cell (i := 1) (by omega)
  simp only [List.getD_cons_zero, List.getD_cons_succ] at q0 q1
  go_simp
  go_wp2_with fail
  go_at_call 52; refine (opsFits_any z2 hz2.1 hz2.2 ad3 (n - 4) cp3 (by omega) _).mono ?_; rintro e w6 ⟨⟨c, rfl, hc⟩, hb6⟩
  have hb56 : Below w1.heap.size w1.drew w6 := hb5.trans (hb6.mono hb5.size)
  have hown6 := Lib.hid (own_keep hown5 (fun k hk => hb6.block k (hown5.lt k hk).2))
  have hrow6 := hrow5.of_block (hb6.block _ hrow5.lt)
  have r0 := hrow6.cell (i := 0) (by omega)
  have r1 := hrow6.cell (i := 1) (by omega)
  simp only [List.getD_cons_zero, List.getD_cons_succ] at r0 r1
  have hr2' := bkeep (w := w6) (W := w1.drew) hb56 hr2
  have hr2w := hr2'
  have t0 := rowcell hr2'
  have tf := rowfree hr2'
  have hlt6 := rowlt hr2'
  have hne6 : G ≠ w.heap.size := by omega
  have hbw6 : Below w.heap.size w w6 := (bdrewN hbN 1).trans (hb56.mono (by omega))
  clear q0 q1 hrow5 hown5 hrow6 hr2' hsr1 hbN hr2
  rcases hc with ⟨hfit, rfl⟩ | ⟨hfit, rfl⟩
  · go_wp2_with fail
    have hrow2 : w6.rowIs w.heap.size 45 2 (fun i => #[Value.int .u8 0, .slice none 0 0].toList.getD i undef) := ⟨_, hr2w, rfl, fun i hi => by
      have : i = 0 ∨ i = 1 := by omega
      rcases this with rfl | rfl <;> rfl⟩
    have hrF := (hrow2.set 0 (.int .u8 z2)).set 1 (.slice ad3 (n - 4) cp3)
    have hbF : Below w.heap.size w ((w6.setCell ⟨w.heap.size, 0, none⟩ (.int .u8 z2)).setCell ⟨w.heap.size, 1, none⟩ (.slice ad3 (n - 4) cp3)) := (hbw6.setCell (Nat.le_refl _) _).setCell (Nat.le_refl _) _
    have hownF : ((w6.setCell ⟨w.heap.size, 0, none⟩ (.int .u8 z2)).setCell ⟨w.heap.size, 1, none⟩ (.slice ad3 (n - 4) cp3)).ownsRow w1.heap.size 5 1 (.slice ad3 (n - 4) cp3) (n - 4) ((zs.map (Value.int .u8)).drop 4) :=
      own_keep hown6.out (fun k hk => by
        have := (hown6.out.lt k hk).1
        rw [Below.heap_setCell _ _ _ _ (by show k ≠ w.heap.size; omega), Below.heap_setCell _ _ _ _ (by show k ≠ w.heap.size; omega)])
    have hrun := run_loadVar_piece (P := Try.prog) ((w6.setCell ⟨w.heap.size, 0, none⟩ (.int .u8 z2)).setCell ⟨w.heap.size, 1, none⟩ (.slice ad3 (n - 4) cp3)) 45 w.heap.size 0 #[.int .u8 z2, .slice ad3 (n - 4) cp3] _ (fun j v hv => by
      have hj : j < 2 := by
        rcases Nat.lt_or_ge j 2 with h | h
        · exact h
        · rw [List.getElem?_eq_none (by simpa using h)] at hv; cases hv
      rw [Nat.zero_add, hrF.cell hj]
      have : j = 0 ∨ j = 1 := by omega
      rcases this with rfl | rfl <;> simpa using hv) Try.underlying45 rfl h45
    exact bodyPost_ret (v := .tuple #[.agg #[.int .u8 z2, .slice ad3 (n - 4) cp3], .int .i64 0]) (by simp [results, Try.results36, Act.put, asAddr, hrun]) rfl ⟨hbF, .inl ⟨hfit, ad3, cp3, rfl, ⟨by have := SR.of_own hownF; rw [← List.map_drop] at this; rwa [show (zs.drop 4).length = n - 4 by simp [hl]], fun z hz => hwf.out z (List.mem_of_mem_drop hz)⟩⟩⟩
  · go_wp2_with fail
    have hrow2 : w6.rowIs w.heap.size 45 2 (fun i => #[Value.int .u8 0, .slice none 0 0].toList.getD i undef) := ⟨_, hr2w, rfl, fun i hi => by
      have : i = 0 ∨ i = 1 := by omega
      rcases this with rfl | rfl <;> rfl⟩
    have hrF := (hrow2.set 0 (.int .u8 0)).set 1 (.slice none 0 0)
    have hbF : Below w.heap.size w ((w6.setCell ⟨w.heap.size, 0, none⟩ (.int .u8 0)).setCell ⟨w.heap.size, 1, none⟩ (.slice none 0 0)) := (hbw6.setCell (Nat.le_refl _) _).setCell (Nat.le_refl _) _
    have hownF : ((w6.setCell ⟨w.heap.size, 0, none⟩ (.int .u8 0)).setCell ⟨w.heap.size, 1, none⟩ (.slice none 0 0)).ownsRow w1.heap.size 5 1 (.slice ad3 (n - 4) cp3) (n - 4) ((zs.map (Value.int .u8)).drop 4) :=
      own_keep hown6.out (fun k hk => by
        have := (hown6.out.lt k hk).1
        rw [Below.heap_setCell _ _ _ _ (by show k ≠ w.heap.size; omega), Below.heap_setCell _ _ _ _ (by show k ≠ w.heap.size; omega)])
    have hrun := run_loadVar_piece (P := Try.prog) ((w6.setCell ⟨w.heap.size, 0, none⟩ (.int .u8 0)).setCell ⟨w.heap.size, 1, none⟩ (.slice none 0 0)) 45 w.heap.size 0 #[.int .u8 0, .slice none 0 0] _ (fun j v hv => by
      have hj : j < 2 := by
        rcases Nat.lt_or_ge j 2 with h | h
        · exact h
        · rw [List.getElem?_eq_none (by simpa using h)] at hv; cases hv
      rw [Nat.zero_add, hrF.cell hj]
      have : j = 0 ∨ j = 1 := by omega
      rcases this with rfl | rfl <;> simpa using hv) Try.underlying45 rfl h45
    exact bodyPost_ret (v := .tuple #[.agg #[.int .u8 0, .slice none 0 0], .int .i64 19]) (by simp [results, Try.results36, Act.put, asAddr, hrun]) rfl ⟨hbF, .inr ⟨hfit, rfl⟩⟩

theorem opsLoad_any (w : World) (v : Value) (zs : List Int) (hv : SI w .u8 v zs) (hn : zs.length ≤ 4000) :
    Calls Try.prog 36 #[v] w fun e w' => Below w.heap.size w w' ∧
      ((isFile zs ∧ ∃ ad c, e = .returned (.tuple #[.agg #[.int .u8 (zs.getD 2 0), .slice ad (zs.length - 4) c], .int .i64 0]) ∧ SI w' .u8 (.slice ad (zs.length - 4) c) (zs.drop 4)) ∨
       (¬ isFile zs ∧ e = .returned (.tuple #[.agg #[.int .u8 0, .slice none 0 0], .int .i64 19]))) := by
  by_cases h4 : 4 ≤ zs.length
  · rcases hv.cases with ⟨h, _⟩ | ⟨hp, g, off, cap, rfl, hc1, hc2, hg, hc⟩
    · rw [h] at h4; simp at h4
    · by_cases hh : zs.getD 0 0 = 71 ∧ zs.getD 1 0 = 88 ∧ zs.getD 3 0 = 0
      · refine (opsLoad_mid w g off zs.length cap zs h4 hn hv rfl hh.1 hh.2.1 hh.2.2 hg hc1 hc2 hc).mono ?_
        rintro e w' ⟨hb, h | h⟩
        · exact ⟨hb, .inl ⟨⟨h4, hh.1, hh.2.1, hh.2.2, h.1⟩, h.2⟩⟩
        · exact ⟨hb, .inr ⟨fun hf => h.1 hf.2.2.2.2, h.2⟩⟩
      · refine (opsLoad_head w g off zs.length cap (zs.getD 0 0) (zs.getD 1 0) (zs.getD 3 0) h4 (hc 0 (by omega)) (hc 1 (by omega)) (hc 3 (by omega)) hg hh).mono ?_
        rintro e w' ⟨he, hb⟩
        exact ⟨hb, .inr ⟨fun hf => hh ⟨hf.2.1, hf.2.2.1, hf.2.2.2.1⟩, he⟩⟩
  · obtain ⟨A, cap, rfl, _, _⟩ := hv.sr.form
    refine (opsLoad_short w A zs.length cap (by omega)).mono ?_
    rintro e w' ⟨he, hb⟩
    exact ⟨hb, .inr ⟨fun hf => h4 hf.1, he⟩⟩
end Go.Proofs.Ytbdcbkmacpameaa
