/- The document's disk: contracts of Write, Read; Read outside. -/
import Derived.Test.YtcjnnonfnlemmaaDiskJ
set_option linter.unusedVariables false
set_option linter.unusedSimpArgs false
namespace Go.Proofs.Ytcjnnonfnlemmaa
open Go.RowKit

/-- A disk: its object at block g, its blocks' bytes at block gb. -/
structure RK (w : World) (g gb n : Nat) (C : Nat → Value) (left : Int) (dead : Bool) (writes reads : Int) : Prop where
  row : w.rowIs g 46 5 (diskCell gb n left dead writes reads)
  blk : w.rowIs gb 32 (n * 64) C
  ne : g ≠ gb
  one : ∀ k, k < n * 64 → ∃ z : Int, C k = .int .u8 z ∧ 0 ≤ z ∧ z ≤ 255

section
variable {w w' : World} {g gb n : Nat} {C : Nat → Value} {left : Int} {dead : Bool} {writes reads : Int}

theorem RK.kept (h : RK w g gb n C left dead writes reads) (hb : Below w.heap.size w w') : RK w' g gb n C left dead writes reads :=
  ⟨h.row.of_block (hb.block g h.row.lt), h.blk.of_block (hb.block gb h.blk.lt), h.ne, h.one⟩
theorem RK.drewN (h : RK w g gb n C left dead writes reads) (k : Nat) : RK (w.drewN k) g gb n C left dead writes reads := ⟨h.row, h.blk, h.ne, h.one⟩

theorem RK.setLeft (h : RK w g gb n C left dead writes reads) (x : Int) : RK (w.setCell ⟨g, 1, none⟩ (.int .i64 x)) g gb n C x dead writes reads := by
  refine ⟨(h.row.set 1 _).congr (fun i hi => ?_), h.blk.setOther (by exact h.ne.symm) _, h.ne, h.one⟩
  have h5 : i = 0 ∨ i = 1 ∨ i = 2 ∨ i = 3 ∨ i = 4 := by omega
  rcases h5 with rfl | rfl | rfl | rfl | rfl <;> rfl
theorem RK.setDead (h : RK w g gb n C left dead writes reads) (x : Bool) : RK (w.setCell ⟨g, 2, none⟩ (.bool x)) g gb n C left x writes reads := by
  refine ⟨(h.row.set 2 _).congr (fun i hi => ?_), h.blk.setOther (by exact h.ne.symm) _, h.ne, h.one⟩
  have h5 : i = 0 ∨ i = 1 ∨ i = 2 ∨ i = 3 ∨ i = 4 := by omega
  rcases h5 with rfl | rfl | rfl | rfl | rfl <;> rfl
theorem RK.setWrites (h : RK w g gb n C left dead writes reads) (x : Int) : RK (w.setCell ⟨g, 3, none⟩ (.int .i64 x)) g gb n C left dead x reads := by
  refine ⟨(h.row.set 3 _).congr (fun i hi => ?_), h.blk.setOther (by exact h.ne.symm) _, h.ne, h.one⟩
  have h5 : i = 0 ∨ i = 1 ∨ i = 2 ∨ i = 3 ∨ i = 4 := by omega
  rcases h5 with rfl | rfl | rfl | rfl | rfl <;> rfl
theorem RK.setReads (h : RK w g gb n C left dead writes reads) (x : Int) : RK (w.setCell ⟨g, 4, none⟩ (.int .i64 x)) g gb n C left dead writes x := by
  refine ⟨(h.row.set 4 _).congr (fun i hi => ?_), h.blk.setOther (by exact h.ne.symm) _, h.ne, h.one⟩
  have h5 : i = 0 ∨ i = 1 ∨ i = 2 ∨ i = 3 ∨ i = 4 := by omega
  rcases h5 with rfl | rfl | rfl | rfl | rfl <;> rfl
end

section
variable {w : World} {g gb n : Nat} {C : Nat → Value} {left : Int} {dead : Bool} {writes reads : Int}
theorem RK.c0 (h : RK w g gb n C left dead writes reads) : w.cell? ⟨g, 0, none⟩ = some (.slice (some ⟨gb, 0, none⟩) n n) := h.row.cell (by omega)
theorem RK.c1 (h : RK w g gb n C left dead writes reads) : w.cell? ⟨g, 1, none⟩ = some (.int .i64 left) := h.row.cell (by omega)
theorem RK.c2 (h : RK w g gb n C left dead writes reads) : w.cell? ⟨g, 2, none⟩ = some (.bool dead) := h.row.cell (by omega)
theorem RK.c3 (h : RK w g gb n C left dead writes reads) : w.cell? ⟨g, 3, none⟩ = some (.int .i64 writes) := h.row.cell (by omega)
theorem RK.c4 (h : RK w g gb n C left dead writes reads) : w.cell? ⟨g, 4, none⟩ = some (.int .i64 reads) := h.row.cell (by omega)
end

theorem RK.write {w : World} {g gb n : Nat} {C : Nat → Value} {left : Int} {dead : Bool} {writes reads : Int} (h : RK w g gb n C left dead writes reads) (k : Nat) (hk : k < n) (D : Nat → Value) (hD : ∀ k, k < 64 → ∃ z : Int, D k = .int .u8 z ∧ 0 ≤ z ∧ z ≤ 255) :
    RK (w.setCells gb (k * 64) (rowArr 64 D).toList) g gb n (wrote C k D) left dead writes reads := by
  have hb := rowIs_piece (m := 64) (off := k * 64) (h := D) h.blk
  refine ⟨?_, hb, h.ne, fun j hj => ?_⟩
  · exact rowIs_other h.ne _ _ _ h.row
  · unfold wrote
    split
    · exact hD _ (by omega)
    · exact h.one j hj

theorem RK.congr {w : World} {g gb n : Nat} {C C' : Nat → Value} {left left' : Int} {dead dead' : Bool} {writes writes' reads reads' : Int} (h : RK w g gb n C left dead writes reads) (hC : ∀ j, j < n * 64 → C j = C' j)
    (h1 : left = left') (h2 : dead = dead') (h3 : writes = writes') (h4 : reads = reads') : RK w g gb n C' left' dead' writes' reads' := by
  subst h1; subst h2; subst h3; subst h4
  exact ⟨h.row, h.blk.congr (fun i hi => hC i hi), h.ne, fun k hk => by rw [← hC k hk]; exact h.one k hk⟩


set_option maxRecDepth 100000 in
set_option maxHeartbeats 400000 in
theorem refWrite_ok {w : World} {g gb n : Nat} {C : Nat → Value} {left : Int} {dead : Bool} {writes reads : Int} (h : RK w g gb n C left dead writes reads)
    (hw0 : 0 ≤ reads) (hw1 : reads < 1000000000) (hl0 : -1 ≤ left) (hl1 : left ≤ 9223372036854775807) (hn : n ≤ 65536) (k : Nat) (hk : k < n) (hd : dead = false) (hl : left ≠ 0) (D : Nat → Value) (hD : ∀ k, k < 64 → ∃ z : Int, D k = .int .u8 z ∧ 0 ≤ z ∧ z ≤ 255) :
    Calls Try.prog 21 #[.pointer (some ⟨g, 0, none⟩), .int .i64 k, .agg (rowArr 64 D)] w fun e w' => e = .returned (.int .i64 0) ∧ RK w' g gb n (wrote C k D) (if 0 < left then left - 1 else left) false writes (reads + 1) ∧ Two w w' g gb := by
  subst hd
  have c1 := h.c1
  have c2 := h.c2
  have c4 := h.c4
  have c0 := h.c0
  have f1 := h.row.frozen
  have hgl := h.row.lt
  have hl0' : (left == 0) = false := by simp [hl]
  go_enter Try.func21, Try.ntmps21
  go_wp2_with fail
  have hrow5 := rowIs_of_arr (heap_alloc_last w (.cells (rowArr 64 D) 32))
  have h1 := h.kept (bnew w (.cells (rowArr 64 D) 32))
  have hne5 : w.heap.size ≠ gb := Nat.ne_of_gt h.blk.lt
  have hsz : (w.alloc (.cells (rowArr 64 D) 32)).heap.size = w.heap.size + 1 := by simp
  have T1 := (Two.refl w g gb).below (bnew w (.cells (rowArr 64 D) 32))
  generalize hg5 : w.heap.size = g5 at *
  clear hg5
  generalize w.alloc (.cells (rowArr 64 D) 32) = w1 at *
  have c0 := h1.c0
  clear c1 c2 c4 f1
  have d0 : w1.drew.cell? ⟨g, 0, none⟩ = some (.slice (some ⟨gb, 0, none⟩) n n) := c0
  have H5 := Lib.hid (show w1.drew.rowIs g5 32 64 D from hrow5)
  clear hrow5
  have hb1 := h1.blk
  obtain ⟨wS, hwS⟩ : ∃ wS, wS = w1.drew.setCells gb (k * 64) (rowArr 64 D).toList := ⟨_, rfl⟩
  have hRK : RK wS g gb n (wrote C k D) left false writes reads := by rw [hwS]; exact (h1.drewN 1).write k hk D hD
  have hTw : Two w wS g gb := by rw [hwS]; exact (T1.drewN 1).setCells (rowArr 64 D).toList (k * 64)
  have h5S : wS.rowIs g5 32 64 D := by rw [hwS]; exact rowIs_other hne5 _ _ _ H5.out
  replace hwS := Lib.hid hwS
  have hone : ∀ v ∈ (rowArr 64 D).toList, v.oneCell' = true := fun v hv => by
    obtain ⟨i, hi⟩ := List.mem_iff_getElem?.1 hv
    obtain ⟨h1, rfl⟩ := rowArr_get _ _ _ _ hi
    obtain ⟨z, hz, _⟩ := hD i h1
    rw [hz]; rfl
  have h5g : w1.drew.rowIs g5 32 64 D := H5.out
  have hS5 : ∀ w, (w = w1.drew ∨ w = wS) → ∀ j v, (rowArr 64 D).toList[j]? = some v → w.cell? ⟨g5, 0 + j, none⟩ = some v := fun w hw j v hv => by
    obtain ⟨h1, rfl⟩ := rowArr_get _ _ _ _ hv
    rw [Nat.zero_add]
    rcases hw with rfl | rfl
    · exact h5g.cell h1
    · exact h5S.cell h1
  have hS0 : ∀ w, (w = w1.drew ∨ w = wS) → w.cell? ⟨g, 0, none⟩ = some (.slice (some ⟨gb, 0, none⟩) n n) := fun w hw => by
    rcases hw with rfl | rfl
    · exact d0
    · exact hRK.c0
  refine wp_region_held (S := fun w => w = w1.drew ∨ w = wS) (by kernel_rfl) ?_
  change wpAnyH _ _ _ _ _ _ _ _ (World.drew _)
  have hcS : ∀ j, j < (rowArr 64 D).size → (w1.drew.cell? ⟨gb, k * 64 + j, none⟩).isSome = true := fun j hj => by rw [rowArr_size] at hj; exact isSome_of (World.rowIs.cell (w := w1.drew) hb1 (by omega))
  have hfS : ∀ j, j < (rowArr 64 D).size → w1.drew.frozen? ⟨gb, k * 64 + j, none⟩ = false := fun j hj => World.rowIs.frozen (w := w1.drew) hb1 _
  have hbs : (Try.prog.info? 32).map (·.size) = some (rowArr 64 D).size := by rw [rowArr_size]; exact block_size
  refine takeH 0 (.pointer (some ⟨g, 0, none⟩)) (some 30) rfl rfl (by kernel_rfl) (by kernel_rfl) (by kernel_rfl) (fun _ _ _ h => h) (.inl ⟨by rfl, fun w _ => by go_simp⟩) (.inl rfl) ?_
  refine takeH 1 (.pointer (some ⟨g, 0, none⟩)) (some 31) rfl rfl (by kernel_rfl) (by kernel_rfl) (by kernel_rfl) (fun _ _ _ h => h) (.inl ⟨by rfl, fun w _ => by go_simp⟩) (.inl rfl) ?_
  refine takeH 2 (.pointer (some ⟨g, 0, none⟩)) (some 32) rfl rfl (by kernel_rfl) (by kernel_rfl) (by kernel_rfl) (fun _ _ _ h => h) (.inl ⟨by rfl, fun w _ => by go_simp⟩) (.inl rfl) ?_
  refine takeH 3 (.slice (some ⟨gb, 0, none⟩) n n) (some 33) rfl rfl (by kernel_rfl) (by kernel_rfl) (by kernel_rfl) (fun _ _ _ h => h) (.inl ⟨by rfl, fun w hw => by have hc := hS0 w hw; go_simp⟩) (.inl rfl) ?_
  refine takeH 4 (.int .i64 k) (some 34) rfl rfl (by kernel_rfl) (by kernel_rfl) (by kernel_rfl) (fun _ _ _ h => h) (.inl ⟨by rfl, fun w _ => by go_simp⟩) (.inl rfl) ?_
  refine takeH 5 (.agg (rowArr 64 D)) (some 35) rfl rfl (by kernel_rfl) (by kernel_rfl) (by kernel_rfl) (fun _ _ _ h => h) (yi_piece (by rfl) 32 (.tmp 5) rfl g5 0 rfl (rowArr 64 D) _ hS5 block_under rfl hbs) (.inl rfl) ?_
  refine takeH 6 (.pointer (some ⟨gb, k * 64, none⟩)) (some 36) rfl rfl (by kernel_rfl) (by kernel_rfl) (by kernel_rfl) (fun _ _ _ h => h) (.inl ⟨by rfl, fun w _ => by go_simp⟩) (.inl rfl) ?_
  refine storeH 7 rfl ?hw (by kernel_rfl) (by kernel_rfl) 32 (.tmp 36) (.tmp 35) rfl rfl gb (k * 64) (rowArr 64 D) ?hx ?hy hbs hcS hfS hone ?hS ?h
  case hw => rfl
  case hx => go_simp
  case hy => go_simp
  case hS => exact fun w' hw' => .inr (hw'.trans hwS.out.symm)
  intro w' hw'
  obtain rfl : w' = wS := hw'.trans hwS.out.symm
  clear hw' hwS
  go_simp
  clear hS0 hS5 hb1 H5 h5g h1 T1 c0 d0 hone
  have c1 := hRK.c1
  have c4 := hRK.c4
  have f1 := hRK.row.frozen
  have hw2 : reads + 1 ≤ 9223372036854775807 := by omega
  go_wp2_with fail
  · go_ret
    exact ⟨rfl, (hRK.setReads _).setLeft _, (hTw.set 4 _).set 1 _⟩
  · go_ret
    exact ⟨rfl, hRK.setReads _, hTw.set 4 _⟩

set_option maxHeartbeats 1000000 in
theorem refWrite_range {w : World} {g gb n : Nat} {C : Nat → Value} {left : Int} {dead : Bool} {writes reads : Int} (h : RK w g gb n C left dead writes reads) (x : Int) (hx : x < 0 ∨ (n : Int) ≤ x) (D : Nat → Value) :
    Calls Try.prog 21 #[.pointer (some ⟨g, 0, none⟩), .int .i64 x, .agg (rowArr 64 D)] w fun e w' => e = .returned (.int .i64 27) ∧ RK w' g gb n C left dead writes reads ∧ Two w w' g gb := by
  have h1 := h.kept (bnew w (.cells (rowArr 64 D) 32))
  have T1 := (Two.refl w g gb).below (bnew w (.cells (rowArr 64 D) 32))
  have c0 := h.c0
  have hgl := h.row.lt
  by_cases hx0 : x < 0
  · go_enter Try.func21, Try.ntmps21
    go_wp2_with fail
    go_ret
    exact ⟨rfl, h1, T1⟩
  · have hx1 : (n : Int) ≤ x := by omega
    go_enter Try.func21, Try.ntmps21
    go_wp2_with fail
    go_ret
    exact ⟨rfl, h1, T1⟩

set_option maxHeartbeats 1000000 in
theorem refWrite_no {w : World} {g gb n : Nat} {C : Nat → Value} {left : Int} {dead : Bool} {writes reads : Int} (h : RK w g gb n C left dead writes reads) (k : Nat) (hk : k < n) (hd : dead = true ∨ left = 0) (D : Nat → Value) :
    Calls Try.prog 21 #[.pointer (some ⟨g, 0, none⟩), .int .i64 k, .agg (rowArr 64 D)] w fun e w' => e = .returned (.int .i64 24) ∧ RK w' g gb n C left true writes reads ∧ Two w w' g gb := by
  have h1 := h.kept (bnew w (.cells (rowArr 64 D) 32))
  have T1 := (Two.refl w g gb).below (bnew w (.cells (rowArr 64 D) 32))
  have c0 := h.c0
  have c1 := h.c1
  have c2 := h.c2
  have f1 := h.row.frozen
  have hgl := h.row.lt
  by_cases hl : left = 0
  · subst hl
    go_enter Try.func21, Try.ntmps21
    go_wp2_with fail
    go_ret
    exact ⟨rfl, (h.setDead true).kept (bnew _ _), ((Two.refl w g gb).set 2 _).below (bnew _ _)⟩
  · have hl0' : (left == 0) = false := by simp [hl]
    obtain rfl : dead = true := by rcases hd with h | h; exact h; exact absurd h hl
    go_enter Try.func21, Try.ntmps21
    go_wp2_with fail
    go_ret
    exact ⟨rfl, h1, T1⟩


set_option maxRecDepth 10000 in
set_option maxHeartbeats 1000000 in
theorem refRead_ok {w : World} {g gb n : Nat} {C : Nat → Value} {left : Int} {dead : Bool} {writes reads : Int} (h : RK w g gb n C left dead writes reads) (hr0 : 0 ≤ writes) (hr1 : writes < 1000000000) (hn : n ≤ 65536) (k : Nat) (hk : k < n) :
    Calls Try.prog 19 #[.pointer (some ⟨g, 0, none⟩), .int .i64 k] w fun e w' => e = .returned (.tuple #[.agg (rowArr 64 (fun j => C (k * 64 + j))), .int .i64 0]) ∧ RK w' g gb n C left dead (writes + 1) reads ∧ Two w w' g gb := by
  have c0 := h.c0
  have c3 := h.c3
  have f1 := h.row.frozen
  have hgl := h.row.lt
  have hneg : w.heap.size ≠ g := by omega
  have hneb : w.heap.size ≠ gb := Nat.ne_of_gt h.blk.lt
  have hw2 : writes + 1 ≤ 9223372036854775807 := by omega
  obtain ⟨wA, hwA⟩ : ∃ wA, wA = (w.setCell ⟨g, 3, none⟩ (.int .i64 (writes + 1))).alloc (.cells noughts 32) := ⟨_, rfl⟩
  have hA : RK wA g gb n C left dead (writes + 1) reads := by rw [hwA]; exact (h.setWrites _).kept (bnew _ _)
  have TA : Two w wA g gb := by rw [hwA]; exact ((Two.refl w g gb).set 3 _).below (bnew _ _)
  have hr5 : wA.rowIs w.heap.size 32 64 (fun _ => .int .u8 0) := by
    have := rowIs_of_arr (heap_alloc_last (w.setCell ⟨g, 3, none⟩ (.int .i64 (writes + 1))) (.cells noughts 32))
    rw [show (w.setCell ⟨g, 3, none⟩ (.int .i64 (writes + 1))).heap.size = w.heap.size by simp] at this
    rw [hwA]; exact this
  have hbk : wA.rowIs gb 32 (n * 64) C := hA.blk
  have hbs : ∀ f, (Try.prog.info? 32).map (·.size) = some (rowArr 64 f).size := fun f => by rw [rowArr_size]; exact block_size
  have hc1 : ∀ j v, (rowArr 64 (fun j => C (k * 64 + j))).toList[j]? = some v → wA.cell? ⟨gb, k * 64 + j, none⟩ = some v := fun j v hv => by
    obtain ⟨h1, rfl⟩ := rowArr_get _ _ _ _ hv
    exact hbk.cell (by omega)
  have hcr : ∀ j, j < (rowArr 64 (fun j => C (k * 64 + j))).size → (wA.cell? ⟨w.heap.size, 0 + j, none⟩).isSome = true := fun j hj => by rw [rowArr_size] at hj; rw [Nat.zero_add]; exact isSome_of (hr5.cell hj)
  have hone : ∀ v ∈ (rowArr 64 (fun j => C (k * 64 + j))).toList, v.oneCell' = true := fun v hv => by
    obtain ⟨i, hi⟩ := List.mem_iff_getElem?.1 hv
    obtain ⟨h1, rfl⟩ := rowArr_get _ _ _ _ hi
    obtain ⟨z, hz, _⟩ := h.one (k * 64 + i) (by omega)
    rw [hz]; rfl
  have hwB := hwA
  rw [hwA] at hc1 hcr hr5
  have H1 := Lib.hid hc1
  have H2 := Lib.hid hcr
  have H3 := Lib.hid hr5
  have H4 := Lib.hid hwA
  clear hc1 hcr hr5 hbk hwA hwB
  have hrA : wA.rowIs w.heap.size 32 64 (fun _ => .int .u8 0) := by rw [H4.out]; exact H3.out
  have R5 := Lib.hid hrA
  clear hrA
  go_enter Try.func19, Try.ntmps19
  go_wp2_with (first
    | (refine wpList_allocTo rfl 32 rfl (some 4) rfl (.agg noughts) noughts_zero ?_)
    | (refine wpList_load_pieceTo rfl 32 (.tmp 31) rfl (some 32) rfl gb (k * 64) (by go_simp) (rowArr 64 (fun j => C (k * 64 + j))) _ H1.out block_under rfl (by rw [rowArr_size]; exact block_size) ?_)
    | (refine wpList_store_pieceTo rfl 32 (.tmp 4) (.tmp 32) rfl rfl w.heap.size 0 (rowArr 64 (fun j => C (k * 64 + j))) (by go_simp) (by go_simp) (by rw [rowArr_size]; exact block_size) H2.out (fun j _ => H3.out.frozen _) hone ?_; intro wS hwS; have HS := Lib.hid hwS; clear hwS))
  have hwS := HS.out
  rw [← H4.out] at hwS
  have hDS : RK wS g gb n C left dead (writes + 1) reads := by
    rw [hwS]
    exact ⟨rowIs_other hneg.symm _ _ _ hA.row, rowIs_other hneb.symm _ _ _ hA.blk, hA.ne, hA.one⟩
  have hTS : Two w wS g gb := by
    rw [hwS]
    exact TA.newCells (Nat.le_refl _) _ _
  have hrS : wS.rowIs w.heap.size 32 64 (fun j => C (k * 64 + j)) := by
    rw [hwS]
    exact (rowIs_piece (m := 64) (off := 0) (h := fun j => C (k * 64 + j)) R5.out).congr (fun i hi => by rw [if_pos (by omega)]; rfl)
  have hrun : (loadVar 32 ⟨w.heap.size, 0, none⟩).run Try.prog wS = .ok (.agg (rowArr 64 (fun j => C (k * 64 + j)))) wS := run_loadVar_piece wS 32 w.heap.size 0 _ _ (fun j v h => by
    obtain ⟨h1, rfl⟩ := rowArr_get _ _ _ _ h
    rw [Nat.zero_add]; exact hrS.cell h1) block_under rfl (by rw [rowArr_size]; exact block_size)
  clear HS hwS H4
  exact bodyPost_ret (v := .tuple #[.agg (rowArr 64 (fun j => C (k * 64 + j))), .int .i64 0]) (by simp [results, Try.results19, Act.put, asAddr, hrun]) rfl ⟨rfl, hDS, hTS⟩

set_option maxRecDepth 10000 in
set_option maxHeartbeats 1000000 in
theorem diskRead_range {w : World} {g gb n : Nat} {C : Nat → Value} {left : Int} {dead : Bool} {writes reads : Int} (h : DK w g gb n C left dead writes reads) (x : Int) (hx : x < 0 ∨ (n : Int) ≤ x) {X : Array Value} (hX : Hid (X = noughts)) :
    Calls Try.prog 13 #[.pointer (some ⟨g, 0, none⟩), .int .i64 x] w fun e w' => e = .returned (.tuple #[.agg X, .int .i64 27]) ∧ Below w.heap.size w w' := by
  have Xs : X.size = 64 := by rw [hX.out]; exact rowArr_size _ _
  have Xe : X = rowArr 64 (fun _ => .int .u8 0) := hX.out
  have Xo : ∀ v ∈ X.toList, v.oneCell' = true := by rw [hX.out]; exact (U8s.row (fun k _ => ⟨0, rfl, by omega, by omega⟩)).one
  have hz : ((Try.prog.info? 32).bind (·.zero)) = some (.agg X) := by rw [hX.out]; exact noughts_zero
  have hb : Try.prog.built 32 [] = some X := by rw [hX.out]; kernel_rfl
  have hr := rowIs_of_arr (w := w.alloc (.cells X 32)) (n := 64) (f := fun _ => .int .u8 0) (by rw [← Xe]; exact heap_alloc_last w (.cells X 32))
  have HR := Lib.hid hr
  have HE := Lib.hid Xe
  clear hr Xe
  replace hb := Lib.hid hb
  replace hz := Lib.hid hz
  have c0 := h.c0
  have hgl := h.row.lt
  by_cases hx0 : x < 0
  · go_enter Try.func13, Try.ntmps13
    go_wp2_with (first
      | (refine wpList_allocTo rfl 32 rfl (some 4) rfl (.agg X) hz.out ?_)
      | (refine wpList_buildTo rfl 32 _ rfl (some 22) rfl X ?hf ?_; case hf => (rw [hX.out]; kernel_rfl))
      | (refine wpList_store_pieceTo rfl 32 (.tmp 4) (.tmp 22) rfl rfl w.heap.size 0 X (by go_simp) (by go_simp) (by rw [Xs]; exact block_size) (fun j hj => by rw [Nat.zero_add]; exact isSome_of (HR.out.cell (by omega))) (fun j hj => HR.out.frozen _) Xo ?_; intro wS hwS; have HS := Lib.hid hwS; clear hwS))
    have hS := HS.out
    change wS = (w.alloc (.cells X 32)).setCells w.heap.size 0 X.toList at hS
    have hB : Below w.heap.size w wS := by rw [hS]; exact below_setCells (Nat.le_refl _) _ _ _ (bnew w _)
    have hrS : wS.rowIs w.heap.size 32 64 (fun _ => .int .u8 0) := by
      rw [hS, HE.out]
      have := HR.out
      rw [HE.out] at this
      exact (rowIs_piece (m := 64) (off := 0) (h := fun _ => .int .u8 0) this).congr (fun i hi => by rw [if_pos (by omega)])
    have hrun : (loadVar 32 ⟨w.heap.size, 0, none⟩).run Try.prog wS = .ok (.agg X) wS := run_loadVar_piece wS 32 w.heap.size 0 X _ (fun j v hv => by
      rw [HE.out] at hv
      obtain ⟨h1, rfl⟩ := rowArr_get _ _ _ _ hv
      rw [Nat.zero_add]; exact hrS.cell h1) block_under rfl (by rw [Xs]; exact block_size)
    clear HS hS
    exact bodyPost_ret (v := .tuple #[.agg X, .int .i64 27]) (by simp [results, Try.results13, Act.put, asAddr, hrun]) rfl ⟨rfl, hB⟩
  · have hx1 : (n : Int) ≤ x := by omega
    go_enter Try.func13, Try.ntmps13
    go_wp2_with (first
      | (refine wpList_allocTo rfl 32 rfl (some 4) rfl (.agg X) hz.out ?_)
      | (refine wpList_buildTo rfl 32 _ rfl (some 22) rfl X ?hf ?_; case hf => (rw [hX.out]; kernel_rfl))
      | (refine wpList_store_pieceTo rfl 32 (.tmp 4) (.tmp 22) rfl rfl w.heap.size 0 X (by go_simp) (by go_simp) (by rw [Xs]; exact block_size) (fun j hj => by rw [Nat.zero_add]; exact isSome_of (HR.out.cell (by omega))) (fun j hj => HR.out.frozen _) Xo ?_; intro wS hwS; have HS := Lib.hid hwS; clear hwS))
    have hS := HS.out
    change wS = (w.alloc (.cells X 32)).setCells w.heap.size 0 X.toList at hS
    have hB : Below w.heap.size w wS := by rw [hS]; exact below_setCells (Nat.le_refl _) _ _ _ (bnew w _)
    have hrS : wS.rowIs w.heap.size 32 64 (fun _ => .int .u8 0) := by
      rw [hS, HE.out]
      have := HR.out
      rw [HE.out] at this
      exact (rowIs_piece (m := 64) (off := 0) (h := fun _ => .int .u8 0) this).congr (fun i hi => by rw [if_pos (by omega)])
    have hrun : (loadVar 32 ⟨w.heap.size, 0, none⟩).run Try.prog wS = .ok (.agg X) wS := run_loadVar_piece wS 32 w.heap.size 0 X _ (fun j v hv => by
      rw [HE.out] at hv
      obtain ⟨h1, rfl⟩ := rowArr_get _ _ _ _ hv
      rw [Nat.zero_add]; exact hrS.cell h1) block_under rfl (by rw [Xs]; exact block_size)
    clear HS hS
    exact bodyPost_ret (v := .tuple #[.agg X, .int .i64 27]) (by simp [results, Try.results13, Act.put, asAddr, hrun]) rfl ⟨rfl, hB⟩

set_option maxRecDepth 10000 in
set_option maxHeartbeats 1000000 in
theorem refRead_range {w : World} {g gb n : Nat} {C : Nat → Value} {left : Int} {dead : Bool} {writes reads : Int} (h : RK w g gb n C left dead writes reads) (x : Int) (hx : x < 0 ∨ (n : Int) ≤ x) {X : Array Value} (hX : Hid (X = noughts)) :
    Calls Try.prog 19 #[.pointer (some ⟨g, 0, none⟩), .int .i64 x] w fun e w' => e = .returned (.tuple #[.agg X, .int .i64 27]) ∧ Below w.heap.size w w' := by
  have Xs : X.size = 64 := by rw [hX.out]; exact rowArr_size _ _
  have Xe : X = rowArr 64 (fun _ => .int .u8 0) := hX.out
  have Xo : ∀ v ∈ X.toList, v.oneCell' = true := by rw [hX.out]; exact (U8s.row (fun k _ => ⟨0, rfl, by omega, by omega⟩)).one
  have hz : ((Try.prog.info? 32).bind (·.zero)) = some (.agg X) := by rw [hX.out]; exact noughts_zero
  have hb : Try.prog.built 32 [] = some X := by rw [hX.out]; kernel_rfl
  have hr := rowIs_of_arr (w := w.alloc (.cells X 32)) (n := 64) (f := fun _ => .int .u8 0) (by rw [← Xe]; exact heap_alloc_last w (.cells X 32))
  have HR := Lib.hid hr
  have HE := Lib.hid Xe
  clear hr Xe
  replace hb := Lib.hid hb
  replace hz := Lib.hid hz
  have c0 := h.c0
  have hgl := h.row.lt
  by_cases hx0 : x < 0
  · go_enter Try.func19, Try.ntmps19
    go_wp2_with (first
      | (refine wpList_allocTo rfl 32 rfl (some 4) rfl (.agg X) hz.out ?_)
      | (refine wpList_buildTo rfl 32 _ rfl (some 17) rfl X ?hf ?_; case hf => (rw [hX.out]; kernel_rfl))
      | (refine wpList_store_pieceTo rfl 32 (.tmp 4) (.tmp 17) rfl rfl w.heap.size 0 X (by go_simp) (by go_simp) (by rw [Xs]; exact block_size) (fun j hj => by rw [Nat.zero_add]; exact isSome_of (HR.out.cell (by omega))) (fun j hj => HR.out.frozen _) Xo ?_; intro wS hwS; have HS := Lib.hid hwS; clear hwS))
    have hS := HS.out
    change wS = (w.alloc (.cells X 32)).setCells w.heap.size 0 X.toList at hS
    have hB : Below w.heap.size w wS := by rw [hS]; exact below_setCells (Nat.le_refl _) _ _ _ (bnew w _)
    have hrS : wS.rowIs w.heap.size 32 64 (fun _ => .int .u8 0) := by
      rw [hS, HE.out]
      have := HR.out
      rw [HE.out] at this
      exact (rowIs_piece (m := 64) (off := 0) (h := fun _ => .int .u8 0) this).congr (fun i hi => by rw [if_pos (by omega)])
    have hrun : (loadVar 32 ⟨w.heap.size, 0, none⟩).run Try.prog wS = .ok (.agg X) wS := run_loadVar_piece wS 32 w.heap.size 0 X _ (fun j v hv => by
      rw [HE.out] at hv
      obtain ⟨h1, rfl⟩ := rowArr_get _ _ _ _ hv
      rw [Nat.zero_add]; exact hrS.cell h1) block_under rfl (by rw [Xs]; exact block_size)
    clear HS hS
    exact bodyPost_ret (v := .tuple #[.agg X, .int .i64 27]) (by simp [results, Try.results19, Act.put, asAddr, hrun]) rfl ⟨rfl, hB⟩
  · have hx1 : (n : Int) ≤ x := by omega
    go_enter Try.func19, Try.ntmps19
    go_wp2_with (first
      | (refine wpList_allocTo rfl 32 rfl (some 4) rfl (.agg X) hz.out ?_)
      | (refine wpList_buildTo rfl 32 _ rfl (some 17) rfl X ?hf ?_; case hf => (rw [hX.out]; kernel_rfl))
      | (refine wpList_store_pieceTo rfl 32 (.tmp 4) (.tmp 17) rfl rfl w.heap.size 0 X (by go_simp) (by go_simp) (by rw [Xs]; exact block_size) (fun j hj => by rw [Nat.zero_add]; exact isSome_of (HR.out.cell (by omega))) (fun j hj => HR.out.frozen _) Xo ?_; intro wS hwS; have HS := Lib.hid hwS; clear hwS))
    have hS := HS.out
    change wS = (w.alloc (.cells X 32)).setCells w.heap.size 0 X.toList at hS
    have hB : Below w.heap.size w wS := by rw [hS]; exact below_setCells (Nat.le_refl _) _ _ _ (bnew w _)
    have hrS : wS.rowIs w.heap.size 32 64 (fun _ => .int .u8 0) := by
      rw [hS, HE.out]
      have := HR.out
      rw [HE.out] at this
      exact (rowIs_piece (m := 64) (off := 0) (h := fun _ => .int .u8 0) this).congr (fun i hi => by rw [if_pos (by omega)])
    have hrun : (loadVar 32 ⟨w.heap.size, 0, none⟩).run Try.prog wS = .ok (.agg X) wS := run_loadVar_piece wS 32 w.heap.size 0 X _ (fun j v hv => by
      rw [HE.out] at hv
      obtain ⟨h1, rfl⟩ := rowArr_get _ _ _ _ hv
      rw [Nat.zero_add]; exact hrS.cell h1) block_under rfl (by rw [Xs]; exact block_size)
    clear HS hS
    exact bodyPost_ret (v := .tuple #[.agg X, .int .i64 27]) (by simp [results, Try.results19, Act.put, asAddr, hrun]) rfl ⟨rfl, hB⟩

end Go.Proofs.Ytcjnnonfnlemmaa
