/- Contracts of package disk: Write, Read. -/
import Derived.Test.YtonfnlohbgbffaaDiskC
import Derived.Deep.MidRow
set_option linter.unusedVariables false
set_option linter.unusedSimpArgs false
namespace Go.Proofs.Ytonfnlohbgbffaa
open Go.RowKit

set_option maxRecDepth 100000 in
set_option maxHeartbeats 400000 in
theorem diskWrite_ok {w : World} {g gb n : Nat} {C : Nat → Value} {left : Int} {dead : Bool} {writes reads : Int} (h : DK w g gb n C left dead writes reads)
    (hw0 : 0 ≤ writes) (hw1 : writes < 1000000000) (hl0 : -1 ≤ left) (hl1 : left ≤ 9223372036854775807) (hn : n ≤ 65536) (k : Nat) (hk : k < n) (hd : dead = false) (hl : left ≠ 0) (D : Nat → Value) (hD : ∀ k, k < 64 → ∃ z : Int, D k = .int .u8 z ∧ 0 ≤ z ∧ z ≤ 255) :
    Calls Try.prog 52 #[.pointer (some ⟨g, 0, none⟩), .int .i64 k, .agg (rowArr 64 D)] w fun e w' => e = .returned (.int .i64 0) ∧ DK w' g gb n (wrote C k D) (if 0 < left then left - 1 else left) false (writes + 1) reads ∧ Two w w' g gb := by
  subst hd
  have c1 := h.c1
  have c2 := h.c2
  have c3 := h.c3
  have c0 := h.c0
  have f1 := h.row.frozen
  have hgl := h.row.lt
  have hl0' : (left == 0) = false := by simp [hl]
  go_enter Try.func52, Try.ntmps52
  go_wp2_with fail
  have hrow5 := rowIs_of_arr (heap_alloc_last w (.cells (rowArr 64 D) 52))
  have h1 := h.kept (bnew w (.cells (rowArr 64 D) 52))
  have hne5 : w.heap.size ≠ gb := Nat.ne_of_gt h.blk.lt
  have hsz : (w.alloc (.cells (rowArr 64 D) 52)).heap.size = w.heap.size + 1 := by simp
  have T1 := (Two.refl w g gb).below (bnew w (.cells (rowArr 64 D) 52))
  generalize hg5 : w.heap.size = g5 at *
  clear hg5
  generalize w.alloc (.cells (rowArr 64 D) 52) = w1 at *
  have c0 := h1.c0
  clear c1 c2 c3 f1
  have d0 : w1.drew.cell? ⟨g, 0, none⟩ = some (.slice (some ⟨gb, 0, none⟩) n n) := c0
  have H5 := Lib.hid (show w1.drew.rowIs g5 52 64 D from hrow5)
  clear hrow5
  have hb1 := h1.blk
  obtain ⟨wS, hwS⟩ : ∃ wS, wS = w1.drew.setCells gb (k * 64) (rowArr 64 D).toList := ⟨_, rfl⟩
  have hDK : DK wS g gb n (wrote C k D) left false writes reads := by rw [hwS]; exact (h1.drewN 1).write k hk D hD
  have hTw : Two w wS g gb := by rw [hwS]; exact (T1.drewN 1).setCells (rowArr 64 D).toList (k * 64)
  have h5S : wS.rowIs g5 52 64 D := by rw [hwS]; exact rowIs_other hne5 _ _ _ H5.out
  replace hwS := Lib.hid hwS
  have hone : ∀ v ∈ (rowArr 64 D).toList, v.oneCell' = true := fun v hv => by
    obtain ⟨i, hi⟩ := List.mem_iff_getElem?.1 hv
    obtain ⟨h1, rfl⟩ := rowArr_get _ _ _ _ hi
    obtain ⟨z, hz, _⟩ := hD i h1
    rw [hz]; rfl
  have h5g : w1.drew.rowIs g5 52 64 D := H5.out
  have hS5 : ∀ w, (w = w1.drew ∨ w = wS) → ∀ j v, (rowArr 64 D).toList[j]? = some v → w.cell? ⟨g5, 0 + j, none⟩ = some v := fun w hw j v hv => by
    obtain ⟨h1, rfl⟩ := rowArr_get _ _ _ _ hv
    rw [Nat.zero_add]
    rcases hw with rfl | rfl
    · exact h5g.cell h1
    · exact h5S.cell h1
  have hS0 : ∀ w, (w = w1.drew ∨ w = wS) → w.cell? ⟨g, 0, none⟩ = some (.slice (some ⟨gb, 0, none⟩) n n) := fun w hw => by
    rcases hw with rfl | rfl
    · exact d0
    · exact hDK.c0
  refine wp_region_held (S := fun w => w = w1.drew ∨ w = wS) (by kernel_rfl) ?_
  change wpAnyH _ _ _ _ _ _ _ _ (World.drew _)
  have hcS : ∀ j, j < (rowArr 64 D).size → (w1.drew.cell? ⟨gb, k * 64 + j, none⟩).isSome = true := fun j hj => by rw [rowArr_size] at hj; exact isSome_of (World.rowIs.cell (w := w1.drew) hb1 (by omega))
  have hfS : ∀ j, j < (rowArr 64 D).size → w1.drew.frozen? ⟨gb, k * 64 + j, none⟩ = false := fun j hj => World.rowIs.frozen (w := w1.drew) hb1 _
  have hbs : (Try.prog.info? 52).map (·.size) = some (rowArr 64 D).size := by rw [rowArr_size]; exact block_size
  refine takeH 0 (.pointer (some ⟨g, 0, none⟩)) (some 35) rfl rfl (by kernel_rfl) (by kernel_rfl) (by kernel_rfl) (fun _ _ _ h => h) (.inl ⟨by rfl, fun w _ => by go_simp⟩) (.inl rfl) ?_
  refine takeH 1 (.pointer (some ⟨g, 0, none⟩)) (some 36) rfl rfl (by kernel_rfl) (by kernel_rfl) (by kernel_rfl) (fun _ _ _ h => h) (.inl ⟨by rfl, fun w _ => by go_simp⟩) (.inl rfl) ?_
  refine takeH 2 (.pointer (some ⟨g, 0, none⟩)) (some 37) rfl rfl (by kernel_rfl) (by kernel_rfl) (by kernel_rfl) (fun _ _ _ h => h) (.inl ⟨by rfl, fun w _ => by go_simp⟩) (.inl rfl) ?_
  refine takeH 3 (.slice (some ⟨gb, 0, none⟩) n n) (some 38) rfl rfl (by kernel_rfl) (by kernel_rfl) (by kernel_rfl) (fun _ _ _ h => h) (.inl ⟨by rfl, fun w hw => by have hc := hS0 w hw; go_simp⟩) (.inl rfl) ?_
  refine takeH 4 (.int .i64 k) (some 39) rfl rfl (by kernel_rfl) (by kernel_rfl) (by kernel_rfl) (fun _ _ _ h => h) (.inl ⟨by rfl, fun w _ => by go_simp⟩) (.inl rfl) ?_
  refine takeH 5 (.agg (rowArr 64 D)) (some 40) rfl rfl (by kernel_rfl) (by kernel_rfl) (by kernel_rfl) (fun _ _ _ h => h) (yi_piece (by rfl) 52 (.tmp 5) rfl g5 0 rfl (rowArr 64 D) _ hS5 block_under rfl hbs) (.inl rfl) ?_
  refine takeH 6 (.pointer (some ⟨gb, k * 64, none⟩)) (some 41) rfl rfl (by kernel_rfl) (by kernel_rfl) (by kernel_rfl) (fun _ _ _ h => h) (.inl ⟨by rfl, fun w _ => by go_simp⟩) (.inl rfl) ?_
  refine storeH 7 rfl ?hw (by kernel_rfl) (by kernel_rfl) 52 (.tmp 41) (.tmp 40) rfl rfl gb (k * 64) (rowArr 64 D) ?hx ?hy hbs hcS hfS hone ?hS ?h
  case hw => rfl
  case hx => go_simp
  case hy => go_simp
  case hS => exact fun w' hw' => .inr (hw'.trans hwS.out.symm)
  intro w' hw'
  obtain rfl : w' = wS := hw'.trans hwS.out.symm
  clear hw' hwS
  go_simp
  clear hS0 hS5 hb1 H5 h5g h1 T1 c0 d0 hone
  have c1 := hDK.c1
  have c3 := hDK.c3
  have f1 := hDK.row.frozen
  have hw2 : writes + 1 ≤ 9223372036854775807 := by omega
  go_wp2_with fail
  · go_ret
    exact ⟨rfl, (hDK.setWrites _).setLeft _, (hTw.set 3 _).set 1 _⟩
  · go_ret
    exact ⟨rfl, hDK.setWrites _, hTw.set 3 _⟩

set_option maxHeartbeats 1000000 in
theorem diskWrite_range {w : World} {g gb n : Nat} {C : Nat → Value} {left : Int} {dead : Bool} {writes reads : Int} (h : DK w g gb n C left dead writes reads) (x : Int) (hx : x < 0 ∨ (n : Int) ≤ x) (D : Nat → Value) :
    Calls Try.prog 52 #[.pointer (some ⟨g, 0, none⟩), .int .i64 x, .agg (rowArr 64 D)] w fun e w' => e = .returned (.int .i64 27) ∧ DK w' g gb n C left dead writes reads ∧ Two w w' g gb := by
  have h1 := h.kept (bnew w (.cells (rowArr 64 D) 52))
  have T1 := (Two.refl w g gb).below (bnew w (.cells (rowArr 64 D) 52))
  have c0 := h.c0
  have hgl := h.row.lt
  by_cases hx0 : x < 0
  · go_enter Try.func52, Try.ntmps52
    go_wp2_with fail
    go_ret
    exact ⟨rfl, h1, T1⟩
  · have hx1 : (n : Int) ≤ x := by omega
    go_enter Try.func52, Try.ntmps52
    go_wp2_with fail
    go_ret
    exact ⟨rfl, h1, T1⟩

set_option maxHeartbeats 1000000 in
theorem diskWrite_nil (w : World) (x : Int) (D : Nat → Value) :
    Calls Try.prog 52 #[.pointer none, .int .i64 x, .agg (rowArr 64 D)] w fun e w' => e = .returned (.int .i64 1) ∧ Below w.heap.size w w' := by
  have T1 := bnew w (.cells (rowArr 64 D) 52)
  go_enter Try.func52, Try.ntmps52
  go_wp2_with fail
  go_ret
  exact ⟨rfl, T1⟩

set_option maxHeartbeats 1000000 in
theorem diskWrite_no {w : World} {g gb n : Nat} {C : Nat → Value} {left : Int} {dead : Bool} {writes reads : Int} (h : DK w g gb n C left dead writes reads) (k : Nat) (hk : k < n) (hd : dead = true ∨ left = 0) (D : Nat → Value) :
    Calls Try.prog 52 #[.pointer (some ⟨g, 0, none⟩), .int .i64 k, .agg (rowArr 64 D)] w fun e w' => e = .returned (.int .i64 24) ∧ DK w' g gb n C left true writes reads ∧ Two w w' g gb := by
  have h1 := h.kept (bnew w (.cells (rowArr 64 D) 52))
  have T1 := (Two.refl w g gb).below (bnew w (.cells (rowArr 64 D) 52))
  have c0 := h.c0
  have c1 := h.c1
  have c2 := h.c2
  have f1 := h.row.frozen
  have hgl := h.row.lt
  by_cases hl : left = 0
  · subst hl
    go_enter Try.func52, Try.ntmps52
    go_wp2_with fail
    go_ret
    exact ⟨rfl, (h.setDead true).kept (bnew _ _), ((Two.refl w g gb).set 2 _).below (bnew _ _)⟩
  · have hl0' : (left == 0) = false := by simp [hl]
    obtain rfl : dead = true := by rcases hd with h | h; exact h; exact absurd h hl
    go_enter Try.func52, Try.ntmps52
    go_wp2_with fail
    go_ret
    exact ⟨rfl, h1, T1⟩

theorem Two.newCells {w : World} {g gb x : Nat} (hx : w.heap.size ≤ x) : ∀ (vs : List Value) (o : Nat) {w1 : World}, Two w w1 g gb → Two w (w1.setCells x o vs) g gb
  | [], _, _, h => h
  | v :: r, o, w1, h => Two.newCells hx r (o + 1) ⟨h.os, h.tape, h.output, by simpa using h.size, fun k hk hkg hkb => by rw [Below.heap_setCell _ _ _ _ (by show k ≠ x; omega)]; exact h.block k hk hkg hkb⟩

set_option maxRecDepth 10000 in
set_option maxHeartbeats 1000000 in
theorem diskRead_ok {w : World} {g gb n : Nat} {C : Nat → Value} {left : Int} {dead : Bool} {writes reads : Int} (h : DK w g gb n C left dead writes reads) (hr0 : 0 ≤ reads) (hr1 : reads < 1000000000) (hn : n ≤ 65536) (k : Nat) (hk : k < n) :
    Calls Try.prog 69 #[.pointer (some ⟨g, 0, none⟩), .int .i64 k] w fun e w' => e = .returned (.tuple #[.agg (rowArr 64 (fun j => C (k * 64 + j))), .int .i64 0]) ∧ DK w' g gb n C left dead writes (reads + 1) ∧ Two w w' g gb := by
  have c0 := h.c0
  have c4 := h.c4
  have f1 := h.row.frozen
  have hgl := h.row.lt
  have hneg : w.heap.size ≠ g := by omega
  have hneb : w.heap.size ≠ gb := Nat.ne_of_gt h.blk.lt
  have hw2 : reads + 1 ≤ 9223372036854775807 := by omega
  obtain ⟨wA, hwA⟩ : ∃ wA, wA = (w.setCell ⟨g, 4, none⟩ (.int .i64 (reads + 1))).alloc (.cells noughts 52) := ⟨_, rfl⟩
  have hA : DK wA g gb n C left dead writes (reads + 1) := by rw [hwA]; exact (h.setReads _).kept (bnew _ _)
  have TA : Two w wA g gb := by rw [hwA]; exact ((Two.refl w g gb).set 4 _).below (bnew _ _)
  have hr5 : wA.rowIs w.heap.size 52 64 (fun _ => .int .u8 0) := by
    have := rowIs_of_arr (heap_alloc_last (w.setCell ⟨g, 4, none⟩ (.int .i64 (reads + 1))) (.cells noughts 52))
    rw [show (w.setCell ⟨g, 4, none⟩ (.int .i64 (reads + 1))).heap.size = w.heap.size by simp] at this
    rw [hwA]; exact this
  have hbk : wA.rowIs gb 52 (n * 64) C := hA.blk
  have hbs : ∀ f, (Try.prog.info? 52).map (·.size) = some (rowArr 64 f).size := fun f => by rw [rowArr_size]; exact block_size
  have hc1 : ∀ j v, (rowArr 64 (fun j => C (k * 64 + j))).toList[j]? = some v → wA.cell? ⟨gb, k * 64 + j, none⟩ = some v := fun j v hv => by
    obtain ⟨h1, rfl⟩ := rowArr_get _ _ _ _ hv
    exact hbk.cell (by omega)
  have hcr : ∀ j, j < (rowArr 64 (fun j => C (k * 64 + j))).size → (wA.cell? ⟨w.heap.size, 0 + j, none⟩).isSome = true := fun j hj => by rw [rowArr_size] at hj; rw [Nat.zero_add]; exact isSome_of (hr5.cell hj)
  have hone : ∀ v ∈ (rowArr 64 (fun j => C (k * 64 + j))).toList, v.oneCell' = true := fun v hv => by
    obtain ⟨i, hi⟩ := List.mem_iff_getElem?.1 hv
    obtain ⟨h1, rfl⟩ := rowArr_get _ _ _ _ hi
    obtain ⟨z, hz, _⟩ := h.one (k * 64 + i) (by omega)
    rw [hz]; rfl
  have hwB := hwA
  rw [hwA] at hc1 hcr hr5
  have H1 := Lib.hid hc1
  have H2 := Lib.hid hcr
  have H3 := Lib.hid hr5
  have H4 := Lib.hid hwA
  clear hc1 hcr hr5 hbk hwA hwB
  have hrA : wA.rowIs w.heap.size 52 64 (fun _ => .int .u8 0) := by rw [H4.out]; exact H3.out
  have R5 := Lib.hid hrA
  clear hrA
  go_enter Try.func69, Try.ntmps69
  go_wp2_with (first
    | (refine wpList_allocTo rfl 52 rfl (some 4) rfl (.agg noughts) noughts_zero ?_)
    | (refine wpList_load_pieceTo rfl 52 (.tmp 35) rfl (some 36) rfl gb (k * 64) (by go_simp) (rowArr 64 (fun j => C (k * 64 + j))) _ H1.out block_under rfl (by rw [rowArr_size]; exact block_size) ?_)
    | (refine wpList_store_pieceTo rfl 52 (.tmp 4) (.tmp 36) rfl rfl w.heap.size 0 (rowArr 64 (fun j => C (k * 64 + j))) (by go_simp) (by go_simp) (by rw [rowArr_size]; exact block_size) H2.out (fun j _ => H3.out.frozen _) hone ?_; intro wS hwS; have HS := Lib.hid hwS; clear hwS))
  have hwS := HS.out
  rw [← H4.out] at hwS
  have hDS : DK wS g gb n C left dead writes (reads + 1) := by
    rw [hwS]
    exact ⟨rowIs_other hneg.symm _ _ _ hA.row, rowIs_other hneb.symm _ _ _ hA.blk, hA.ne, hA.one⟩
  have hTS : Two w wS g gb := by
    rw [hwS]
    exact TA.newCells (Nat.le_refl _) _ _
  have hrS : wS.rowIs w.heap.size 52 64 (fun j => C (k * 64 + j)) := by
    rw [hwS]
    exact (rowIs_piece (m := 64) (off := 0) (h := fun j => C (k * 64 + j)) R5.out).congr (fun i hi => by rw [if_pos (by omega)]; rfl)
  have hrun : (loadVar 52 ⟨w.heap.size, 0, none⟩).run Try.prog wS = .ok (.agg (rowArr 64 (fun j => C (k * 64 + j)))) wS := run_loadVar_piece wS 52 w.heap.size 0 _ _ (fun j v h => by
    obtain ⟨h1, rfl⟩ := rowArr_get _ _ _ _ h
    rw [Nat.zero_add]; exact hrS.cell h1) block_under rfl (by rw [rowArr_size]; exact block_size)
  clear HS hwS H4
  exact bodyPost_ret (v := .tuple #[.agg (rowArr 64 (fun j => C (k * 64 + j))), .int .i64 0]) (by simp [results, Try.results69, Act.put, asAddr, hrun]) rfl ⟨rfl, hDS, hTS⟩
end Go.Proofs.Ytonfnlohbgbffaa
