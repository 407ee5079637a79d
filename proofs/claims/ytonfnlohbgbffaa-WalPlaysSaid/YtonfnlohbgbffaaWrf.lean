/- The document's disk: its objects, Read, Write, Log; a disk as an invariant. The document's Head. The document's Places. The document's log: install, Recover. The document's log: Recover. -/
import Derived.Test.YtonfnlohbgbffaaWalS
import Derived.BigQuiet
set_option linter.unusedVariables false
set_option linter.unusedSimpArgs false
namespace Go.Proofs.Ytonfnlohbgbffaa
open Go.RowKit

def refCell (gb n ex : Nat) (left : Int) (dead : Bool) (writes reads : Int) (k : Nat) : Value :=
  if k = 0 then .slice (some ⟨gb, 0, none⟩) n (n + ex) else if k = 1 then .int .i64 left else if k = 2 then .bool dead else if k = 3 then .int .i64 writes else .int .i64 reads
/-- A disk: its object at block g, its blocks' bytes at block gb. -/
structure RK (w : World) (g gb n ex : Nat) (C : Nat → Value) (left : Int) (dead : Bool) (writes reads : Int) : Prop where
  row : w.rowIs g 108 5 (refCell gb n ex left dead writes reads)
  blk : w.rowIs gb 52 ((n + ex) * 64) C
  ne : g ≠ gb
  one : ∀ k, k < n * 64 → ∃ z : Int, C k = .int .u8 z ∧ 0 ≤ z ∧ z ≤ 255

section
variable {w w' : World} {g gb n ex : Nat} {C : Nat → Value} {left : Int} {dead : Bool} {writes reads : Int}

theorem RK.kept (h : RK w g gb n ex C left dead writes reads) (hb : Below w.heap.size w w') : RK w' g gb n ex C left dead writes reads :=
  ⟨h.row.of_block (hb.block g h.row.lt), h.blk.of_block (hb.block gb h.blk.lt), h.ne, h.one⟩
theorem RK.drewN (h : RK w g gb n ex C left dead writes reads) (k : Nat) : RK (w.drewN k) g gb n ex C left dead writes reads := ⟨h.row, h.blk, h.ne, h.one⟩

theorem RK.setLeft (h : RK w g gb n ex C left dead writes reads) (x : Int) : RK (w.setCell ⟨g, 1, none⟩ (.int .i64 x)) g gb n ex C x dead writes reads := by
  refine ⟨(h.row.set 1 _).congr (fun i hi => ?_), h.blk.setOther (by exact h.ne.symm) _, h.ne, h.one⟩
  have h5 : i = 0 ∨ i = 1 ∨ i = 2 ∨ i = 3 ∨ i = 4 := by omega
  rcases h5 with rfl | rfl | rfl | rfl | rfl <;> rfl
theorem RK.setDead (h : RK w g gb n ex C left dead writes reads) (x : Bool) : RK (w.setCell ⟨g, 2, none⟩ (.bool x)) g gb n ex C left x writes reads := by
  refine ⟨(h.row.set 2 _).congr (fun i hi => ?_), h.blk.setOther (by exact h.ne.symm) _, h.ne, h.one⟩
  have h5 : i = 0 ∨ i = 1 ∨ i = 2 ∨ i = 3 ∨ i = 4 := by omega
  rcases h5 with rfl | rfl | rfl | rfl | rfl <;> rfl
theorem RK.setWrites (h : RK w g gb n ex C left dead writes reads) (x : Int) : RK (w.setCell ⟨g, 3, none⟩ (.int .i64 x)) g gb n ex C left dead x reads := by
  refine ⟨(h.row.set 3 _).congr (fun i hi => ?_), h.blk.setOther (by exact h.ne.symm) _, h.ne, h.one⟩
  have h5 : i = 0 ∨ i = 1 ∨ i = 2 ∨ i = 3 ∨ i = 4 := by omega
  rcases h5 with rfl | rfl | rfl | rfl | rfl <;> rfl
theorem RK.setReads (h : RK w g gb n ex C left dead writes reads) (x : Int) : RK (w.setCell ⟨g, 4, none⟩ (.int .i64 x)) g gb n ex C left dead writes x := by
  refine ⟨(h.row.set 4 _).congr (fun i hi => ?_), h.blk.setOther (by exact h.ne.symm) _, h.ne, h.one⟩
  have h5 : i = 0 ∨ i = 1 ∨ i = 2 ∨ i = 3 ∨ i = 4 := by omega
  rcases h5 with rfl | rfl | rfl | rfl | rfl <;> rfl
end

section
variable {w : World} {g gb n ex : Nat} {C : Nat → Value} {left : Int} {dead : Bool} {writes reads : Int}
theorem RK.c0 (h : RK w g gb n ex C left dead writes reads) : w.cell? ⟨g, 0, none⟩ = some (.slice (some ⟨gb, 0, none⟩) n (n + ex)) := h.row.cell (by omega)
theorem RK.c1 (h : RK w g gb n ex C left dead writes reads) : w.cell? ⟨g, 1, none⟩ = some (.int .i64 left) := h.row.cell (by omega)
theorem RK.c2 (h : RK w g gb n ex C left dead writes reads) : w.cell? ⟨g, 2, none⟩ = some (.bool dead) := h.row.cell (by omega)
theorem RK.c3 (h : RK w g gb n ex C left dead writes reads) : w.cell? ⟨g, 3, none⟩ = some (.int .i64 writes) := h.row.cell (by omega)
theorem RK.c4 (h : RK w g gb n ex C left dead writes reads) : w.cell? ⟨g, 4, none⟩ = some (.int .i64 reads) := h.row.cell (by omega)
end

theorem RK.write {w : World} {g gb n ex : Nat} {C : Nat → Value} {left : Int} {dead : Bool} {writes reads : Int} (h : RK w g gb n ex C left dead writes reads) (k : Nat) (hk : k < n) (D : Nat → Value) (hD : ∀ k, k < 64 → ∃ z : Int, D k = .int .u8 z ∧ 0 ≤ z ∧ z ≤ 255) :
    RK (w.setCells gb (k * 64) (rowArr 64 D).toList) g gb n ex (wrote C k D) left dead writes reads := by
  have hb := rowIs_piece (m := 64) (off := k * 64) (h := D) h.blk
  refine ⟨?_, hb, h.ne, fun j hj => ?_⟩
  · exact rowIs_other h.ne _ _ _ h.row
  · unfold wrote
    split
    · exact hD _ (by omega)
    · exact h.one j hj

section
variable {w w' : World} {gd gb n ex : Nat} {D : Nat → Nat → Nat} {left : Int} {dead : Bool}
theorem RK.one' {C : Nat → Value} {writes reads : Int} {g x : Nat} (h : RK w g gb n ex C left dead writes reads) (o : One w w' (some x)) (h1 : x ≠ g) (h2 : x ≠ gb) : RK w' g gb n ex C left dead writes reads :=
  ⟨rowIs_one h.row o (Ne.symm h1), rowIs_one h.blk o (Ne.symm h2), h.ne, h.one⟩
set_option maxRecDepth 10000 in
set_option maxHeartbeats 1000000 in
theorem refRead_in {C : Nat → Value} {writes reads : Int} {g : Nat} (h : RK w g gb n ex C left dead writes reads) (hn : n ≤ 65536) (k : Nat) (hk : k < n) :
    Calls Try.prog 82 #[.pointer (some ⟨g, 0, none⟩), .int .i64 k] w fun e w' => e = .returned (.tuple #[.agg (rowArr 64 (fun j => C (k * 64 + j))), .int .i64 0]) ∧ (∃ r, RK w' g gb n ex C left dead r reads) ∧ Two w w' g gb := by
  have H := Lib.hid h
  have hgl := h.row.lt
  have hgb := h.blk.lt
  have HL := Lib.hid (show g < w.heap.size ∧ gb < w.heap.size from ⟨hgl, hgb⟩)
  clear h hgl hgb
  go_enter Try.func82, Try.ntmps82
  go_wp2_with (first
    | (refine wpList_new_row rfl 52 rfl (some 4) rfl 64 _ page_zero ?_; intro w1 G hG hr1 hb1; have HG := Lib.hid hG; have HR := Lib.hid hr1; have HB := Lib.hid hb1; have HA := Lib.hid (H.out.kept hb1); have c0 := HA.out.c0; have c3 := HA.out.c3; have f1 := HA.out.row.frozen; clear hr1 hb1 hG)
    | (refine wpList_load_pieceTo rfl 52 (.tmp 31) rfl (some 32) rfl gb (k * 64) (by go_simp) (rowArr 64 (fun j => C (k * 64 + j))) _ ?hc block_under rfl (by rw [rowArr_size]; exact block_size) ?_; case hc => (intro j v hv; obtain ⟨h1, rfl⟩ := rowArr_get _ _ _ _ hv; exact (HA.out.setWrites _).blk.cell (by omega)))
    | (refine wpList_row_store rfl 52 (.tmp 4) (.tmp 32) rfl rfl G 64 _ (fun j => C (k * 64 + j)) (by go_simp) (by go_simp) (rowIs_one HR.out (one_setCell _ g 3 _) (by have := HL.out; have := HG.out; omega)) ?h1 block_size ?_; case h1 => (intro i hi; obtain ⟨z, hz, _⟩ := H.out.one (k * 64 + i) (by omega); rw [hz]; rfl)
       intro w2 hr2 o2))
  have hD := HA.out.setWrites (wrap64 (writes + 1))
  have h1 := HL.out
  have h2 := HG.out
  have hD2 := hD.one' o2 (by omega) (by omega)
  have hT : Two w w2 g gb := (((Two.refl w g gb).below HB.out).set 3 _).newOne o2 HG.out
  have hrun := run_load_row (P := Try.prog) hr2 _ block_under rfl block_size
  exact bodyPost_ret (v := .tuple #[.agg (rowArr 64 (fun j => C (k * 64 + j))), .int .i64 0]) (by simp [results, Try.results82, Act.put, asAddr, hrun]) rfl ⟨rfl, ⟨_, hD2⟩, hT⟩

set_option maxRecDepth 100000 in
set_option maxHeartbeats 400000 in
theorem refWrite_in {C : Nat → Value} {writes reads : Int} {g : Nat} (h : RK w g gb n ex C left dead writes reads)
    (hl0 : -1 ≤ left) (hl1 : left ≤ 9223372036854775807) (hn : n ≤ 65536) (k : Nat) (hk : k < n) (hd : dead = false) (hl : left ≠ 0) (D : Nat → Value) (hD : ∀ k, k < 64 → ∃ z : Int, D k = .int .u8 z ∧ 0 ≤ z ∧ z ≤ 255) :
    Calls Try.prog 87 #[.pointer (some ⟨g, 0, none⟩), .int .i64 k, .agg (rowArr 64 D)] w fun e w' => e = .returned (.int .i64 0) ∧ RK w' g gb n ex (wrote C k D) (if 0 < left then left - 1 else left) false writes (wrap64 (reads + 1)) ∧ Two w w' g gb := by
  subst hd
  have c1 := h.c1
  have c2 := h.c2
  have c4 := h.c4
  have c0 := h.c0
  have f1 := h.row.frozen
  have hgl := h.row.lt
  have hl0' : (left == 0) = false := by simp [hl]
  go_enter Try.func87, Try.ntmps87
  go_wp2_with fail
  have hrow5 := rowIs_of_arr (heap_alloc_last w (.cells (rowArr 64 D) 52))
  have h1 := h.kept (bnew w (.cells (rowArr 64 D) 52))
  have hne5 : w.heap.size ≠ gb := Nat.ne_of_gt h.blk.lt
  have hsz : (w.alloc (.cells (rowArr 64 D) 52)).heap.size = w.heap.size + 1 := by simp
  have T1 := (Two.refl w g gb).below (bnew w (.cells (rowArr 64 D) 52))
  generalize hg5 : w.heap.size = g5 at *
  clear hg5
  generalize w.alloc (.cells (rowArr 64 D) 52) = w1 at *
  have c0 := h1.c0
  clear c1 c2 c4 f1
  have d0 : w1.drew.cell? ⟨g, 0, none⟩ = some (.slice (some ⟨gb, 0, none⟩) n (n + ex)) := c0
  have H5 := Lib.hid (show w1.drew.rowIs g5 52 64 D from hrow5)
  clear hrow5
  have hb1 := h1.blk
  obtain ⟨wS, hwS⟩ : ∃ wS, wS = w1.drew.setCells gb (k * 64) (rowArr 64 D).toList := ⟨_, rfl⟩
  have hRK : RK wS g gb n ex (wrote C k D) left false writes reads := by rw [hwS]; exact (h1.drewN 1).write k hk D hD
  have hTw : Two w wS g gb := by rw [hwS]; exact (T1.drewN 1).setCells (rowArr 64 D).toList (k * 64)
  have h5S : wS.rowIs g5 52 64 D := by rw [hwS]; exact rowIs_other hne5 _ _ _ H5.out
  replace hwS := Lib.hid hwS
  have hone : ∀ v ∈ (rowArr 64 D).toList, v.oneCell' = true := fun v hv => by
    obtain ⟨i, hi⟩ := List.mem_iff_getElem?.1 hv
    obtain ⟨h1, rfl⟩ := rowArr_get _ _ _ _ hi
    obtain ⟨z, hz, _⟩ := hD i h1
    rw [hz]; rfl
  have h5g : w1.drew.rowIs g5 52 64 D := H5.out
  have hS5 : ∀ w, (w = w1.drew ∨ w = wS) → ∀ j v, (rowArr 64 D).toList[j]? = some v → w.cell? ⟨g5, 0 + j, none⟩ = some v := fun w hw j v hv => by
    obtain ⟨h1, rfl⟩ := rowArr_get _ _ _ _ hv
    rw [Nat.zero_add]
    rcases hw with rfl | rfl
    · exact h5g.cell h1
    · exact h5S.cell h1
  have hS0 : ∀ w, (w = w1.drew ∨ w = wS) → w.cell? ⟨g, 0, none⟩ = some (.slice (some ⟨gb, 0, none⟩) n (n + ex)) := fun w hw => by
    rcases hw with rfl | rfl
    · exact d0
    · exact hRK.c0
  refine wp_region_held (S := fun w => w = w1.drew ∨ w = wS) (by kernel_rfl) ?_
  change wpAnyH _ _ _ _ _ _ _ _ (World.drew _)
  have hcS : ∀ j, j < (rowArr 64 D).size → (w1.drew.cell? ⟨gb, k * 64 + j, none⟩).isSome = true := fun j hj => by rw [rowArr_size] at hj; exact isSome_of (World.rowIs.cell (w := w1.drew) hb1 (by omega))
  have hfS : ∀ j, j < (rowArr 64 D).size → w1.drew.frozen? ⟨gb, k * 64 + j, none⟩ = false := fun j hj => World.rowIs.frozen (w := w1.drew) hb1 _
  have hbs : (Try.prog.info? 52).map (·.size) = some (rowArr 64 D).size := by rw [rowArr_size]; exact block_size
  refine takeH 0 (.pointer (some ⟨g, 0, none⟩)) (some 30) rfl rfl (by kernel_rfl) (by kernel_rfl) (by kernel_rfl) (fun _ _ _ h => h) (.inl ⟨by rfl, fun w _ => by go_simp⟩) (.inl rfl) ?_
  refine takeH 1 (.pointer (some ⟨g, 0, none⟩)) (some 31) rfl rfl (by kernel_rfl) (by kernel_rfl) (by kernel_rfl) (fun _ _ _ h => h) (.inl ⟨by rfl, fun w _ => by go_simp⟩) (.inl rfl) ?_
  refine takeH 2 (.pointer (some ⟨g, 0, none⟩)) (some 32) rfl rfl (by kernel_rfl) (by kernel_rfl) (by kernel_rfl) (fun _ _ _ h => h) (.inl ⟨by rfl, fun w _ => by go_simp⟩) (.inl rfl) ?_
  refine takeH 3 (.slice (some ⟨gb, 0, none⟩) n (n + ex)) (some 33) rfl rfl (by kernel_rfl) (by kernel_rfl) (by kernel_rfl) (fun _ _ _ h => h) (.inl ⟨by rfl, fun w hw => by have hc := hS0 w hw; go_simp⟩) (.inl rfl) ?_
  refine takeH 4 (.int .i64 k) (some 34) rfl rfl (by kernel_rfl) (by kernel_rfl) (by kernel_rfl) (fun _ _ _ h => h) (.inl ⟨by rfl, fun w _ => by go_simp⟩) (.inl rfl) ?_
  refine takeH 5 (.agg (rowArr 64 D)) (some 35) rfl rfl (by kernel_rfl) (by kernel_rfl) (by kernel_rfl) (fun _ _ _ h => h) (yi_piece (by rfl) 52 (.tmp 5) rfl g5 0 rfl (rowArr 64 D) _ hS5 block_under rfl hbs) (.inl rfl) ?_
  refine takeH 6 (.pointer (some ⟨gb, k * 64, none⟩)) (some 36) rfl rfl (by kernel_rfl) (by kernel_rfl) (by kernel_rfl) (fun _ _ _ h => h) (.inl ⟨by rfl, fun w _ => by go_simp⟩) (.inl rfl) ?_
  refine storeH 7 rfl ?hw (by kernel_rfl) (by kernel_rfl) 52 (.tmp 36) (.tmp 35) rfl rfl gb (k * 64) (rowArr 64 D) ?hx ?hy hbs hcS hfS hone ?hS ?h
  case hw => rfl
  case hx => go_simp
  case hy => go_simp
  case hS => exact fun w' hw' => .inr (hw'.trans hwS.out.symm)
  intro w' hw'
  obtain rfl : w' = wS := hw'.trans hwS.out.symm
  clear hw' hwS
  go_simp
  clear hS0 hS5 hb1 H5 h5g h1 T1 c0 d0 hone
  have c1 := hRK.c1
  have c4 := hRK.c4
  have f1 := hRK.row.frozen
  go_wp2_with fail
  · go_ret
    exact ⟨rfl, (hRK.setReads _).setLeft _, (hTw.set 4 _).set 1 _⟩
  · go_ret
    exact ⟨rfl, hRK.setReads _, hTw.set 4 _⟩



end
set_option maxHeartbeats 1000000 in
theorem refWrite_no {w : World} {g gb n ex : Nat} {C : Nat → Value} {left : Int} {dead : Bool} {writes reads : Int} (h : RK w g gb n ex C left dead writes reads) (k : Nat) (hk : k < n) (hd : dead = true ∨ left = 0) (D : Nat → Value) :
    Calls Try.prog 87 #[.pointer (some ⟨g, 0, none⟩), .int .i64 k, .agg (rowArr 64 D)] w fun e w' => e = .returned (.int .i64 24) ∧ RK w' g gb n ex C left true writes reads ∧ Two w w' g gb := by
  have h1 := h.kept (bnew w (.cells (rowArr 64 D) 52))
  have T1 := (Two.refl w g gb).below (bnew w (.cells (rowArr 64 D) 52))
  have c0 := h.c0
  have c1 := h.c1
  have c2 := h.c2
  have f1 := h.row.frozen
  have hgl := h.row.lt
  by_cases hl : left = 0
  · subst hl
    go_enter Try.func87, Try.ntmps87
    go_wp2_with fail
    go_ret
    exact ⟨rfl, (h.setDead true).kept (bnew _ _), ((Two.refl w g gb).set 2 _).below (bnew _ _)⟩
  · have hl0' : (left == 0) = false := by simp [hl]
    obtain rfl : dead = true := by rcases hd with h | h; exact h; exact absurd h hl
    go_enter Try.func87, Try.ntmps87
    go_wp2_with fail
    go_ret
    exact ⟨rfl, h1, T1⟩


set_option maxHeartbeats 1000000 in
theorem refWrite_range {w : World} {g gb n ex : Nat} {C : Nat → Value} {left : Int} {dead : Bool} {writes reads : Int} (h : RK w g gb n ex C left dead writes reads) (x : Int) (hx : x < 0 ∨ (n : Int) ≤ x) (D : Nat → Value) :
    Calls Try.prog 87 #[.pointer (some ⟨g, 0, none⟩), .int .i64 x, .agg (rowArr 64 D)] w fun e w' => e = .returned (.int .i64 27) ∧ RK w' g gb n ex C left dead writes reads ∧ Two w w' g gb := by
  have h1 := h.kept (bnew w (.cells (rowArr 64 D) 52))
  have T1 := (Two.refl w g gb).below (bnew w (.cells (rowArr 64 D) 52))
  have c0 := h.c0
  have hgl := h.row.lt
  by_cases hx0 : x < 0
  · go_enter Try.func87, Try.ntmps87
    go_wp2_with fail
    go_ret
    exact ⟨rfl, h1, T1⟩
  · have hx1 : (n : Int) ≤ x := by omega
    go_enter Try.func87, Try.ntmps87
    go_wp2_with fail
    go_ret
    exact ⟨rfl, h1, T1⟩

/-- The document's disk in a state. -/
structure RX (w : World) (gd gb n : Nat) (s : DSt) : Prop where
  dk : ∃ x y ex C, RK w gd gb n ex C s.left s.dead x y ∧ n + ex ≤ maxLen ∧ ∀ j, j < n * 64 → C j = diskC s.D j
  u8 : ∀ k i, s.D k i ≤ 255
  n : n ≤ 65536
  l0 : -1 ≤ s.left
  l1 : s.left ≤ 9223372036854775807
/-- The document's log on a disk. -/
structure RL (w : World) (gd gb gl n first : Nat) (s : DSt) : Prop where
  dx : RX w gd gb n s
  lg : w.rowIs gl 110 2 (logF gd first)
  fit : first + 31 ≤ n
section
variable {w w' : World} {gd gb gl n first : Nat} {s s' : DSt}
theorem RX.keepAt (h : RX w gd gb n s) (h1 : w'.heap[gd]? = w.heap[gd]?) (h2 : w'.heap[gb]? = w.heap[gb]?) : RX w' gd gb n s := by
  obtain ⟨x, y, ex, C, hk, hm, hC⟩ := h.dk
  exact ⟨⟨x, y, ex, C, ⟨hk.row.of_block h1, hk.blk.of_block h2, hk.ne, hk.one⟩, hm, hC⟩, h.u8, h.n, h.l0, h.l1⟩
theorem RX.lt (h : RX w gd gb n s) : gd < w.heap.size ∧ gb < w.heap.size := by
  obtain ⟨x, y, ex, C, hk, hm, hC⟩ := h.dk
  exact ⟨hk.row.lt, hk.blk.lt⟩
theorem RX.keep (h : RX w gd gb n s) (hb : Below w.heap.size w w') : RX w' gd gb n s := h.keepAt (hb.block _ h.lt.1) (hb.block _ h.lt.2)
theorem RX.one (h : RX w gd gb n s) {x : Nat} (o : One w w' (some x)) (h1 : x ≠ gd) (h2 : x ≠ gb) : RX w' gd gb n s :=
  h.keepAt (o.block _ h.lt.1 (fun e => h1 (by cases e; rfl))) (o.block _ h.lt.2 (fun e => h2 (by cases e; rfl)))
theorem RX.chg (h : RX w gd gb n s) {S : Nat → Prop} (c : Chg S w w') (h1 : ¬ S gd) (h2 : ¬ S gb) : RX w' gd gb n s := h.keepAt (c.block _ h.lt.1 h1) (c.block _ h.lt.2 h2)
theorem RX.ne (h : RX w gd gb n s) {g : Nat} {T : TypeId} {m : Nat} {f : Nat → Value} (hr : w.rowIs g T m f) (h1 : T ≠ 108) (h2 : T ≠ 52) : g ≠ gd ∧ g ≠ gb := by
  obtain ⟨x, y, ex, C, hk, hm, hC⟩ := h.dk
  exact ⟨rowIs_ne hr hk.row h1, rowIs_ne hr hk.blk h2⟩
theorem RX.c0 (h : RX w gd gb n s) : ∃ ex, n + ex ≤ maxLen ∧ ∀ w', Below w.heap.size w w' → w'.cell? ⟨gd, 0, none⟩ = some (.slice (some ⟨gb, 0, none⟩) n (n + ex)) := by
  obtain ⟨x, y, ex, C, hk, hm, hC⟩ := h.dk
  exact ⟨ex, hm, fun w' hb => (hk.kept hb).c0⟩
theorem RX.sr (h : RX w gd gb n s) : ∃ ex, (∀ w', Below w.heap.size w w' → w'.cell? ⟨gd, 0, none⟩ = some (.slice (some ⟨gb, 0, none⟩) n (n + ex))) ∧ SR w (.slice (some ⟨gb, 0, none⟩) n (n + ex)) n 64 (pgsV n s.D) := by
  obtain ⟨x, y, ex, C, hk, hm, hC⟩ := h.dk
  refine ⟨ex, fun w' hb => (hk.kept hb).c0, pgsV_len _ _, .inr ⟨_, n + ex, rfl, by omega, hm, fun _ => ⟨rfl, hk.blk.lt, fun i hi => ?_⟩⟩⟩
  show w.cell? ⟨gb, 0 + i, none⟩ = _
  rw [Nat.zero_add, hk.blk.cell (by omega), hC i hi, pgsV_get _ _ _ hi]
theorem RL.keep (h : RL w gd gb gl n first s) (hb : Below w.heap.size w w') : RL w' gd gb gl n first s := ⟨h.dx.keep hb, rowIs_below h.lg hb, h.fit⟩
theorem RL.ne (h : RL w gd gb gl n first s) : gl ≠ gd ∧ gl ≠ gb := h.dx.ne h.lg (by decide) (by decide)
theorem RL.lt (h : RL w gd gb gl n first s) : gd < w.heap.size ∧ gb < w.heap.size ∧ gl < w.heap.size := ⟨h.dx.lt.1, h.dx.lt.2, h.lg.lt⟩
theorem RL.notD (h : RL w gd gb gl n first s) : ¬ dset gd gb gl := fun e => by rcases e with e | e; exact h.ne.1 e; exact h.ne.2 e
theorem RL.setD (h : RL w gd gb gl n first s) (c : Chg (dset gd gb) w w') (hd : RX w' gd gb n s') : RL w' gd gb gl n first s' := ⟨hd, c.row h.lg h.notD, h.fit⟩
theorem RL.one (h : RL w gd gb gl n first s) {x : Nat} (o : One w w' (some x)) (hx : x ≠ gd ∧ x ≠ gb ∧ x ≠ gl) : RL w' gd gb gl n first s := ⟨h.dx.one o hx.1 hx.2.1, rowIs_one h.lg o hx.2.2.symm, h.fit⟩
theorem RL.chg (h : RL w gd gb gl n first s) {S : Nat → Prop} (c : Chg S w w') (h1 : ¬ S gd) (h2 : ¬ S gb) (h3 : ¬ S gl) : RL w' gd gb gl n first s := ⟨h.dx.chg c h1 h2, c.row h.lg h3, h.fit⟩
theorem RL.c0 (h : RL w gd gb gl n first s) : w.cell? ⟨gl, 0, none⟩ = some (.pointer (some ⟨gd, 0, none⟩)) := h.lg.cell (i := 0) (by omega)
theorem RL.c1 (h : RL w gd gb gl n first s) : w.cell? ⟨gl, 1, none⟩ = some (.int .i64 first) := h.lg.cell (i := 1) (by omega)
theorem RL.cells (h : RL w gd gb gl n first s) : ∀ w', Chg (dset gd gb) w w' → w'.cell? ⟨gl, 0, none⟩ = some (.pointer (some ⟨gd, 0, none⟩)) ∧ w'.cell? ⟨gl, 1, none⟩ = some (.int .i64 first) := fun w' c =>
  have hr := c.row h.lg h.notD
  ⟨hr.cell (i := 0) (by omega), hr.cell (i := 1) (by omega)⟩
theorem rxGet (h : RX w gd gb n s) (k : Nat) (hk : k < n) :
    Calls Try.prog 82 #[.pointer (some ⟨gd, 0, none⟩), .int .i64 k] w fun e w' => e = .returned (.tuple #[pageV (s.D k), .int .i64 0]) ∧ RX w' gd gb n s ∧ Chg (dset gd gb) w w' := by
  obtain ⟨x, y, ex, C, hd, hm, hC⟩ := h.dk
  refine (refRead_in hd h.n k hk).mono ?_
  rintro e w' ⟨rfl, ⟨r, h1⟩, h2⟩
  rw [show rowArr 64 (fun j => C (k * 64 + j)) = rowArr 64 (pgC (s.D k)) from by rw [← diskC_block]; exact rowArr_congr fun i hi => hC _ (by omega)]
  exact ⟨rfl, ⟨⟨_, _, ex, C, h1, hm, hC⟩, h.u8, h.n, h.l0, h.l1⟩, h2.chg⟩
theorem rxPut (h : RX w gd gb n s) (k : Nat) (hk : k < n) {f : Nat → Nat} (hf : ∀ i, f i ≤ 255) :
    Calls Try.prog 87 #[.pointer (some ⟨gd, 0, none⟩), .int .i64 k, pageV f] w fun e w' => e = .returned (.int .i64 s.code) ∧ RX w' gd gb n (s.put k f) ∧ Chg (dset gd gb) w w' := by
  obtain ⟨x, y, ex, C, hdk, hm, hC⟩ := h.dk
  unfold DSt.put DSt.code
  by_cases hu : s.up = true
  · rw [if_pos hu, if_pos hu]
    unfold DSt.up at hu
    simp only [Bool.and_eq_true, Bool.not_eq_true', decide_eq_true_eq] at hu
    refine (refWrite_in hdk h.l0 h.l1 h.n k hk hu.1 hu.2 (pgC f) (pgC_u8 hf)).mono ?_
    rintro e w' ⟨rfl, h1, h2⟩
    have h3 := h.l0
    have h4 := h.l1
    exact ⟨rfl, ⟨⟨_, _, ex, _, h1, hm, fun j hj => by rw [← diskC_set]; unfold wrote; split; rfl; exact hC j hj⟩, setBlk_u8 h.u8 hf, h.n, by show -1 ≤ (if 0 < s.left then s.left - 1 else s.left); split <;> omega, by show (if 0 < s.left then s.left - 1 else s.left) ≤ _; split <;> omega⟩, h2.chg⟩
  · rw [if_neg hu, if_neg hu]
    unfold DSt.up at hu
    refine (refWrite_no hdk k hk ?_ (pgC f)).mono ?_
    · by_cases hd : s.dead = true
      · exact .inl hd
      · right
        simp only [Bool.not_eq_true] at hd
        simpa [hd] using hu
    · rintro e w' ⟨rfl, h1, h2⟩
      exact ⟨rfl, ⟨⟨_, _, ex, C, h1, hm, hC⟩, h.u8, h.n, h.l0, h.l1⟩, h2.chg⟩
end
end Go.Proofs.Ytonfnlohbgbffaa

set_option linter.unusedVariables false
set_option linter.unusedSimpArgs false
namespace Go.Proofs.Ytonfnlohbgbffaa
open Go.RowKit

theorem headTo_put (L : List Nat) (k i : Nat) : (if i = 5 + 2 * k then L.getD k 0 / 256 % 256 else if i = 4 + 2 * k then L.getD k 0 % 256 else headTo L k i) = headTo L (k + 1) i := by
  have h := congrFun (headTo_next L k) i
  rw [← h]
  unfold put2B
  by_cases h1 : i = 5 + 2 * k
  · rw [if_pos h1, if_neg (by omega), if_pos (by omega)]
  · rw [if_neg h1]
    by_cases h2 : i = 4 + 2 * k
    · rw [if_pos h2, if_pos h2]
    · rw [if_neg h2, if_neg h2, if_neg (by omega)]
set_option maxRecDepth 10000 in
set_option maxHeartbeats 2000000 in
theorem refHead_in {w : World} {v : Value} {L : List Nat} (hv : SI w .i64 v (natInts L)) (hl : L.length ≤ 30) (h16 : ∀ n ∈ L, n ≤ 65535) :
    Calls Try.prog 51 #[v] w fun e w' => e = .returned (pageV (logB L)) ∧ Below w.heap.size w w' := by
  have hln : (natInts L).length = L.length := by simp [natInts]
  have hs := hv.sr
  rw [hln] at hs
  obtain ⟨ad, cap, rfl, hc1, hc2⟩ := hs.form
  have HS := Lib.hid hs
  have H16 := Lib.hid h16
  have f1 : IntKind.u8.wrap (L.length : Int) = L.length := by simp [IntKind.wrap, IntKind.bits, IntKind.signed]; omega
  clear hv h16 hln hc1 hc2 hs
  go_enter Try.func51, Try.ntmps51
  go_wp2_with (first
    | (refine wpList_new_row rfl 52 rfl (some 2) rfl 64 _ page_zero ?_; intro w1 G hG hr1 hb1; have HG := Lib.hid hG; have HR1 := Lib.hid hr1; have HB1 := Lib.hid hb1; clear hr1 hb1 hG)
    | (refine wpList_new_row rfl 52 rfl (some 3) rfl 64 _ page_zero ?_; intro w2 B hB hr2 hb2; have HGB := Lib.hid (Nat.ne_of_lt (Nat.lt_of_lt_of_le HR1.out.lt hB)); have HBW := Lib.hid (Nat.le_trans HB1.out.size hB); have HR2 := Lib.hid (rowIs_below HR1.out hb2); have HB2 := Lib.hid (bnext HB1.out hb2); have HQ2 := Lib.hid hr2; have c0 := hr2.cell (i := 0) (by omega); have c1 := hr2.cell (i := 1) (by omega); have c2 := hr2.cell (i := 2) (by omega); have df := hr2.frozen; clear hr2 hb2 hB))
  have o3 : One w2 (((w2.setCell ⟨B, 0, none⟩ (.int .u8 161)).setCell ⟨B, 1, none⟩ (.int .u8 103)).setCell ⟨B, 2, none⟩ (.int .u8 L.length)) (some B) := ((one_setCell _ B 0 _).trans (one_setCell _ B 1 _)).trans (one_setCell _ B 2 _)
  have HQ3 := Lib.hid (show World.rowIs (((w2.setCell ⟨B, 0, none⟩ (.int .u8 161)).setCell ⟨B, 1, none⟩ (.int .u8 103)).setCell ⟨B, 2, none⟩ (.int .u8 L.length)) B 52 64 (pgC (headTo L 0)) from by
    refine (((HQ2.out.set 0 _).set 1 _).set 2 _).congr (fun i hi => ?_)
    have h3 : L.length / 256 % 256 = 0 := by omega
    have h2 : L.length % 256 = L.length := by omega
    unfold pgC headTo
    rcases i with _ | _ | _ | _ | i
    · rfl
    · rfl
    · simp [h2]
    · simp [h3]
    · rw [if_neg (by omega), if_neg (by omega), if_neg (by omega), if_neg (by omega), if_neg (by omega), if_neg (by omega), if_neg (by omega), if_neg (by omega)])
  have HR3 := Lib.hid (rowIs_one HR2.out o3 HGB.out)
  have HB3 := Lib.hid (bone HB2.out o3 HBW.out HB2.out.size)
  clear o3 c0 c1 c2 df
  go_loopw [4] (fun r wx => ∃ k : Nat, k ≤ L.length ∧ r = .int .i64 k ∧ wx.rowIs B 52 64 (pgC (headTo L k)) ∧ wx.rowIs G 52 64 (pgC fun _ => 0) ∧ Below w.heap.size w wx) (fun r _ => L.length - (intOf r).toNat)
  case atStart => exact ⟨0, Nat.zero_le _, rfl, HQ3.out, HR3.out, HB3.out⟩
  case round =>
    obtain ⟨k, hk, rfl, hq, hr, hb⟩ := hrel
    have HQ := Lib.hid hq
    have HR := Lib.hid hr
    have HB := Lib.hid hb
    clear hq hr hb
    by_cases hkl : k < L.length
    · have f2 : (k : Int) < L.length := by omega
      obtain ⟨g, off, rfl, hg0, hc⟩ := HS.out.at (by omega)
      have hg : g < wr.heap.size := Nat.lt_of_lt_of_le hg0 HB.out.size
      obtain ⟨x, hx⟩ : ∃ x, x = L.getD k 0 := ⟨_, rfl⟩
      have hxm : L.getD k 0 ∈ L := by rw [List.getD_eq_getElem?_getD, List.getElem?_eq_getElem hkl]; exact List.getElem_mem hkl
      have hx16 : x ≤ 65535 := by rw [hx]; exact H16.out _ hxm
      have c1 : wr.cell? ⟨g, off + k, none⟩ = some (.int .i64 x) := by
        rw [World.cell?_of_block (HB.out.block g hg0), hc k (by omega), hx]
        simp [natInts, List.getD_eq_getElem?_getD, List.getElem?_eq_getElem hkl]
      have hgw : g ≠ B := fun e => by
        have := HBW.out
        omega
      obtain ⟨t1, ht1⟩ : ∃ t1, t1 = x % 256 := ⟨_, rfl⟩
      obtain ⟨t2, ht2⟩ : ∃ t2, t2 = x / 256 := ⟨_, rfl⟩
      have m1 : (x : Int) % 256 = (t1 : Int) := by omega
      have m2 : (x : Int).tmod 256 = (t1 : Int) := by rw [Int.tmod_eq_emod_of_nonneg (by omega)]; omega
      have m3 : (x : Int) / 256 = (t2 : Int) := by omega
      have m4 : (x : Int).tdiv 256 = (t2 : Int) := by rw [Int.tdiv_eq_ediv_of_nonneg (by omega)]; omega
      have m5 : IntKind.u8.wrap (t1 : Int) = t1 := by simp [IntKind.wrap, IntKind.bits, IntKind.signed]; omega
      have m6 : IntKind.u8.wrap (t2 : Int) = t2 := by simp [IntKind.wrap, IntKind.bits, IntKind.signed]; omega
      obtain ⟨b2, hb2'⟩ : ∃ y, y = 2 * k := ⟨_, rfl⟩
      obtain ⟨a, ha'⟩ : ∃ y, y = 4 + b2 := ⟨_, rfl⟩
      obtain ⟨a2, ha2'⟩ : ∃ y, y = 5 + b2 := ⟨_, rfl⟩
      have e1 : (2 : Int) * (k : Int) = (b2 : Int) := by omega
      have e2 : (4 : Int) + (b2 : Int) = (a : Int) := by omega
      have e6 : (5 : Int) + (b2 : Int) = (a2 : Int) := by omega
      have e3 : b2 ≤ 60 ∧ a < 64 ∧ a2 < 64 := by omega
      obtain ⟨e4, e5, e7⟩ := e3
      have e8 : (a : Int) < 64 := by omega
      have e9 : (a2 : Int) < 64 := by omega
      have d1 := HQ.out.cell (i := a) (by omega)
      have df := HQ.out.frozen
      have HSET := Lib.hid (show (wr.setCell ⟨B, a, none⟩ (.int .u8 t1)).rowIs B 52 64 _ from HQ.out.set a (.int .u8 t1))
      have d2 := HSET.out.cell (i := a2) (by omega)
      have df2 := HSET.out.frozen
      have c2 : (wr.setCell ⟨B, a, none⟩ (.int .u8 t1)).cell? ⟨g, off + k, none⟩ = some (.int .i64 x) := by
        rw [World.cell?_of_block ((one_setCell wr B a _).block g hg (fun e => hgw (by cases e; rfl)))]
        exact c1
      have HNX := Lib.hid (show ((wr.setCell ⟨B, a, none⟩ (.int .u8 t1)).setCell ⟨B, a2, none⟩ (.int .u8 t2)).rowIs B 52 64 (pgC (headTo L (k + 1))) from by
        refine (HSET.out.set a2 _).congr (fun i hi => ?_)
        have h2 : t2 % 256 = t2 := by omega
        unfold pgC
        rw [← headTo_put L k i, ← hx, ← ht1, ← ht2]
        by_cases h1 : i = a2
        · rw [if_pos h1, if_pos (show i = 5 + 2 * k by omega), h2]
        · rw [if_neg h1, if_neg (show ¬ i = 5 + 2 * k by omega)]
          by_cases h3 : i = a
          · rw [if_pos h3, if_pos (show i = 4 + 2 * k by omega)]
          · rw [if_neg h3, if_neg (show ¬ i = 4 + 2 * k by omega)])
      have o5 : One wr ((wr.setCell ⟨B, a, none⟩ (.int .u8 t1)).setCell ⟨B, a2, none⟩ (.int .u8 t2)) (some B) := (one_setCell _ B a _).trans (one_setCell _ B a2 _)
      have HR5 := Lib.hid (rowIs_one HR.out o5 HGB.out)
      have HB5 := Lib.hid (bone HB.out o5 HBW.out HB.out.size)
      clear hc hg hg0 hx hxm ht1 ht2 hb2' ha' ha2' o5 hgw
      go_wp2_with fail
      go_roundw
      case rel => exact ⟨k + 1, by omega, by go_num, HNX.out, HR5.out, HB5.out⟩
      case measure => simp [intOf]; omega
    · obtain rfl : k = L.length := by omega
      go_wp2_with (first
        | (refine wpList_row_load (by kernel_rfl) 52 (.tmp 3) rfl (some 37) rfl B 64 (pgC (logB L)) (by go_simp) HQ.out _ block_under rfl block_size ?_)
        | (refine wpList_row_store rfl 52 (.tmp 2) (.tmp 37) rfl rfl G 64 _ (pgC (logB L)) (by go_simp) (by go_simp) HR.out (fun _ _ => rfl) block_size ?_; intro w5 hr5 o5; have HB5 := Lib.hid (bone HB.out o5 HG.out HB.out.size); have HR5 := Lib.hid hr5; clear hr5 o5))
      have hrun := run_load_row (P := Try.prog) HR5.out _ block_under rfl block_size
      exact bodyPost_ret (v := pageV (logB L)) (by simp [results, Try.results51, Act.put, asAddr, hrun, pageV_eq]) rfl ⟨rfl, HB5.out⟩
end Go.Proofs.Ytonfnlohbgbffaa

set_option linter.unusedVariables false
set_option linter.unusedSimpArgs false
namespace Go.Proofs.Ytonfnlohbgbffaa
open Go.RowKit

theorem num2_magic {f : Nat → Nat} (hf : ∀ i, f i ≤ 255) : num2 f 0 ≠ 26529 ↔ f 0 ≠ 161 ∨ f 1 ≠ 103 := by
  have h0 := hf 0
  have h1 := hf 1
  show f 0 + 256 * f 1 ≠ 26529 ↔ _
  omega
set_option maxRecDepth 20000 in
set_option maxHeartbeats 4000000 in
theorem refPlaces_in {w : World} {n first : Nat} {f : Nat → Nat} (hf : ∀ i, f i ≤ 255) (hn : n ≤ 65536) (hfit : first + 31 ≤ n) :
    Calls Try.prog 83 #[pageV f, .int .i64 n, .int .i64 first] w fun e w' => ∃ v b, e = .returned (.tuple #[v, .bool b]) ∧ PlP w w' f n first v b ∧ Below w.heap.size w w' := by
  have HF := Lib.hid hf
  have h2 : num2 f 2 ≤ 65535 := by have := hf 2; have := hf (2 + 1); unfold num2; omega
  obtain ⟨m, hm⟩ : ∃ m, m = num2 f 2 := ⟨_, rfl⟩
  have HM := Lib.hid hm
  obtain ⟨x0, hx0⟩ : ∃ x, x = f 0 := ⟨_, rfl⟩
  obtain ⟨x1, hx1⟩ : ∃ x, x = f 1 := ⟨_, rfl⟩
  obtain ⟨x2, hx2⟩ : ∃ x, x = f 2 := ⟨_, rfl⟩
  obtain ⟨x3, hx3⟩ : ∃ x, x = f 3 := ⟨_, rfl⟩
  have hm3 : m = x2 + 256 * x3 := by rw [hm, hx2, hx3]; rfl
  obtain ⟨y3, hy3⟩ : ∃ y, y = 256 * x3 := ⟨_, rfl⟩
  have r1 : (256 : Int) * (x3 : Int) = (y3 : Int) := by omega
  have r1' : (x3 : Int) * 256 = (y3 : Int) := by omega
  have r2 : (x2 : Int) + (y3 : Int) = (m : Int) := by omega
  have b0 : x0 ≤ 255 := by rw [hx0]; exact hf 0
  have b1 : x1 ≤ 255 := by rw [hx1]; exact hf 1
  have b2 : x2 ≤ 255 := by rw [hx2]; exact hf 2
  have b3 : x3 ≤ 255 := by rw [hx3]; exact hf 3
  have r3 : y3 ≤ 65280 := by omega
  have HX := Lib.hid (show x0 = f 0 ∧ x1 = f 1 ∧ x2 = f 2 ∧ x3 = f 3 from ⟨hx0, hx1, hx2, hx3⟩)
  have HMG := Lib.hid (num2_magic hf)
  rw [← hm] at h2
  clear hf hm hm3 hx0 hx1 hx2 hx3 hy3
  go_enter Try.func83, Try.ntmps83
  go_wp2_with (with_reducible refine wpList_stop (some 3) rfl ?_)
  refine Lib.hid ?_
  refine wpList_box_row rfl 52 (.tmp 0) rfl (some 3) rfl 64 (pgC f) (by go_simp; try rfl) ?_
  intro w1 G hg1 hr1 hb1
  have HB1 := Lib.hid hb1
  have HR1 := Lib.hid hr1
  have c0 : w1.cell? ⟨G, 0, none⟩ = some (.int .u8 x0) := by rw [HX.out.1]; exact hr1.cell (i := 0) (by omega)
  have c1 : w1.cell? ⟨G, 1, none⟩ = some (.int .u8 x1) := by rw [HX.out.2.1]; exact hr1.cell (i := 1) (by omega)
  have c2 : w1.cell? ⟨G, 2, none⟩ = some (.int .u8 x2) := by rw [HX.out.2.2.1]; exact hr1.cell (i := 2) (by omega)
  have c3 : w1.cell? ⟨G, 3, none⟩ = some (.int .u8 x3) := by rw [HX.out.2.2.2]; exact hr1.cell (i := 3) (by omega)
  clear hr1 hb1 hg1
  by_cases hbad : (x0 ≠ 161 ∨ x1 ≠ 103) ∨ 30 < m
  · have HPL := Lib.hid (show places f n first = none from if_pos (by rw [HMG.out, ← HM.out, ← HX.out.1, ← HX.out.2.1]; exact hbad))
    have hways : ((x0 : Int) != 161) = true ∨ (((x0 : Int) != 161) = false ∧ ((x1 : Int) != 103) = true) ∨ (((x0 : Int) != 161) = false ∧ ((x1 : Int) != 103) = false ∧ (30 : Int) < m) := by
      by_cases hg : x0 = 161
      · right
        by_cases hg1 : x1 = 103
        · right
          exact ⟨by simp; omega, by simp; omega, by omega⟩
        · left
          exact ⟨by simp; omega, by simp; omega⟩
      · left
        simp; omega
    rcases hways with k1 | ⟨k1, k2⟩ | ⟨k1, k2, k3⟩
    · go_wp2_with fail
      go_ret2
      exact ⟨_, _, rfl, by unfold PlP; rw [HPL.out]; exact ⟨rfl, rfl⟩, HB1.out⟩
    · go_wp2_with fail
      go_ret2
      exact ⟨_, _, rfl, by unfold PlP; rw [HPL.out]; exact ⟨rfl, rfl⟩, HB1.out⟩
    · go_wp2_with fail
      go_ret2
      exact ⟨_, _, rfl, by unfold PlP; rw [HPL.out]; exact ⟨rfl, rfl⟩, HB1.out⟩
  · have k1 : ((x0 : Int) != 161) = false := by simp; omega
    have k2 : ((x1 : Int) != 103) = false := by simp; omega
    have k3 : decide ((30 : Int) < m) = false := by simp; omega
    have hm30 : m ≤ 30 := by omega
    have hnb : ¬ (num2 f 0 ≠ 26529 ∨ 30 < num2 f 2) := by rw [HMG.out, ← HM.out, ← HX.out.1, ← HX.out.2.1]; exact hbad
    have HPN := Lib.hid (show (toL f m).all (okTo n first) = true → places f n first = some (toL f m) from fun ha => by unfold places; rw [if_neg hnb, ← HM.out, if_pos ha])
    have HPN2 := Lib.hid (show ∀ k, k < m → okTo n first (num2 f (4 + 2 * k)) = false → places f n first = none from fun k hk ho => by
      unfold places
      rw [if_neg hnb, ← HM.out, if_neg]
      intro ha
      have := List.all_eq_true.1 ha (num2 f (4 + 2 * k)) (List.mem_map.2 ⟨k, List.mem_range.2 hk, rfl⟩)
      rw [ho] at this
      cases this)
    clear hnb hbad
    go_wp2_with fail
    clear c0 c1 c2 c3 k1 k2 k3 r1 r1' r2
    go_loopw [9, 10] (fun v r wx => ∃ k : Nat, k ≤ m ∧ r = .int .i64 k ∧ OwnN wx w.heap.size v (toL f k) ∧ Below w.heap.size w wx ∧ (toL f k).all (okTo n first) = true ∧ wx.rowIs G 52 64 (pgC f) ∧ (∀ x, v.ownBlock = some x → x ≠ G)) (fun _ r _ => m - (intOf r).toNat)
    case atStart => exact ⟨0, by omega, rfl, OwnN.nil _ _, HB1.out, rfl, HR1.out, fun x hx => by cases hx⟩
    case round =>
      obtain ⟨k, hk, rfl, hown, hbl, hall, hrow, hne⟩ := hrel
      obtain ⟨A1, c1, hform⟩ := hown.form
      subst hform
      rw [toL_len] at hown hne ⊢
      have HOWN := Lib.hid hown
      have HBL := Lib.hid hbl
      have HALL := Lib.hid hall
      have HROW := Lib.hid hrow
      have HNE := Lib.hid hne
      clear hown hbl hall hrow hne
      by_cases hkm : k < m
      · have g1 : (k : Int) < m := by omega
        obtain ⟨b2, hb2'⟩ : ∃ x, x = 2 * k := ⟨_, rfl⟩
        obtain ⟨a, ha'⟩ : ∃ x, x = 4 + b2 := ⟨_, rfl⟩
        obtain ⟨a2, ha2'⟩ : ∃ x, x = 5 + b2 := ⟨_, rfl⟩
        have e1 : (2 : Int) * (k : Int) = (b2 : Int) := by omega
        have e2 : (4 : Int) + (b2 : Int) = (a : Int) := by omega
        have e2' : (5 : Int) + (b2 : Int) = (a2 : Int) := by omega
        have e3 : b2 ≤ 60 ∧ a < 64 ∧ a2 < 64 := by omega
        obtain ⟨e4, e5, e6⟩ := e3
        have e7 : (a : Int) < 64 := by omega
        have e8 : (a2 : Int) < 64 := by omega
        obtain ⟨t, ht⟩ : ∃ t, t = num2 f (4 + 2 * k) := ⟨_, rfl⟩
        obtain ⟨p, hp⟩ : ∃ p, p = f a := ⟨_, rfl⟩
        obtain ⟨q, hq⟩ : ∃ q, q = f a2 := ⟨_, rfl⟩
        obtain ⟨z, hz⟩ : ∃ z, z = 256 * q := ⟨_, rfl⟩
        have hp255 : p ≤ 255 := by rw [hp]; exact HF.out a
        have hq255 : q ≤ 255 := by rw [hq]; exact HF.out a2
        have htz : t = p + z := by
          rw [ht, hz, hp, hq, ha', ha2', hb2']
          show f (4 + 2 * k) + 256 * f (4 + 2 * k + 1) = _
          rw [show 4 + 2 * k + 1 = 5 + 2 * k by omega]
        have s1 : (256 : Int) * (q : Int) = (z : Int) := by omega
        have s1' : (q : Int) * 256 = (z : Int) := by omega
        have s2 : (p : Int) + (z : Int) = (t : Int) := by omega
        have s3 : z ≤ 65280 := by omega
        have ht16 : t ≤ 65535 := by omega
        have HTT := Lib.hid ht
        have d1 : wr.cell? ⟨G, a, none⟩ = some (.int .u8 p) := by rw [hp]; exact HROW.out.cell (i := a) (by omega)
        have d2 : wr.cell? ⟨G, a2, none⟩ = some (.int .u8 q) := by rw [hq]; exact HROW.out.cell (i := a2) (by omega)
        clear hb2' ha' ha2' ht hp hq hz htz
        go_upto_region 8 with fail
        go_quiet (fail)
        have HB5 := Lib.hid (show Below w.heap.size w (wr.drewN nq) from bdrewN HBL.out nq)
        have HR5 := Lib.hid (show (wr.drewN nq).rowIs G 52 64 (pgC f) from HROW.out)
        have HO5 := Lib.hid (HOWN.out.keep (bdrewN (Below.refl wr.heap.size wr) nq))
        clear d1 d2 s1 s1' s2 e1 e2 e2'
        have fb : first ≤ 65536 := by omega
        by_cases o1 : t < n
        · have q1 : decide ((n : Int) ≤ t) = false := by simp; omega
          have hways : (first ≤ t ∧ t ≤ first + 30) ∨ ¬ (first ≤ t) ∨ (first ≤ t ∧ first + 30 < t) := by omega
          rcases hways with ⟨q2, q3⟩ | q2 | ⟨q2, q3⟩
          · have q4 : (first : Int) ≤ t := by omega
            have q5 : (t : Int) ≤ first + 30 := by omega
            have HPL := Lib.hid (HPN2.out k hkm (by rw [← HTT.out]; unfold okTo; simp; omega))
            go_wp2_with fail
            go_ret2
            exact ⟨_, _, rfl, by unfold PlP; rw [HPL.out]; exact ⟨rfl, rfl⟩, HB5.out⟩
          · have q4 : decide ((first : Int) ≤ t) = false := by simp; omega
            go_wp2_with (with_reducible refine wpList_stop (some 67) rfl ?_)
            refine Lib.hid ?_
            refine wpList_lit_int rfl (.tmp 66) rfl (some 67) rfl (t : Int) (by go_simp; try rfl) ?_
            intro w7 u hu hb7
            have HO7 := Lib.hid (HO5.out.keep hb7)
            have HR7 := Lib.hid (rowIs_below HR5.out hb7)
            have HB7 := Lib.hid (bnext HB5.out hb7)
            have hO7 := HO7.out
            refine wpList_add_int rfl (.tmp 65) (.tmp 67) rfl (some 68) rfl w.heap.size (.slice A1 k c1) u (toL f k) t (by go_simp) (by go_simp) HO7.out hu (by rw [toL_len]; omega) HB7.out.size ?_
            intro v8 w8 ho8 o8
            rw [HTT.out, ← toL_next] at ho8
            obtain ⟨A8, c8, hform⟩ := ho8.form
            subst hform
            rw [toL_len] at ho8 ⊢
            have HO8 := Lib.hid ho8
            have HR8 := Lib.hid (show w8.rowIs G 52 64 (pgC f) from HR7.out.of_block (o8.block G HR7.out.lt (fun e => own_ne_row HO7.out HR7.out G e rfl)))
            have HB8 := Lib.hid (HB7.out.trans (o8.toBelow (fun x hx => (HO7.out.lt x hx).1) HB7.out.size))
            have HA8 := Lib.hid (show (toL f (k + 1)).all (okTo n first) = true from by
              rw [toL_next, List.all_append, HALL.out, ← HTT.out]
              unfold okTo
              simp
              omega)
            clear hu hb7 ho8 o8 hO7
            go_wp2_with fail
            go_roundw
            case rel => exact ⟨k + 1, by omega, by go_num, HO8.out, HB8.out, HA8.out, HR8.out, own_ne_row HO8.out HR8.out⟩
            case measure => simp [intOf]; omega
          · have q4 : (first : Int) ≤ t := by omega
            have q5 : decide ((t : Int) ≤ first + 30) = false := by simp; omega
            go_wp2_with (with_reducible refine wpList_stop (some 67) rfl ?_)
            refine Lib.hid ?_
            refine wpList_lit_int rfl (.tmp 66) rfl (some 67) rfl (t : Int) (by go_simp; try rfl) ?_
            intro w7 u hu hb7
            have HO7 := Lib.hid (HO5.out.keep hb7)
            have HR7 := Lib.hid (rowIs_below HR5.out hb7)
            have HB7 := Lib.hid (bnext HB5.out hb7)
            have hO7 := HO7.out
            refine wpList_add_int rfl (.tmp 65) (.tmp 67) rfl (some 68) rfl w.heap.size (.slice A1 k c1) u (toL f k) t (by go_simp) (by go_simp) HO7.out hu (by rw [toL_len]; omega) HB7.out.size ?_
            intro v8 w8 ho8 o8
            rw [HTT.out, ← toL_next] at ho8
            obtain ⟨A8, c8, hform⟩ := ho8.form
            subst hform
            rw [toL_len] at ho8 ⊢
            have HO8 := Lib.hid ho8
            have HR8 := Lib.hid (show w8.rowIs G 52 64 (pgC f) from HR7.out.of_block (o8.block G HR7.out.lt (fun e => own_ne_row HO7.out HR7.out G e rfl)))
            have HB8 := Lib.hid (HB7.out.trans (o8.toBelow (fun x hx => (HO7.out.lt x hx).1) HB7.out.size))
            have HA8 := Lib.hid (show (toL f (k + 1)).all (okTo n first) = true from by
              rw [toL_next, List.all_append, HALL.out, ← HTT.out]
              unfold okTo
              simp
              omega)
            clear hu hb7 ho8 o8 hO7
            go_wp2_with fail
            go_roundw
            case rel => exact ⟨k + 1, by omega, by go_num, HO8.out, HB8.out, HA8.out, HR8.out, own_ne_row HO8.out HR8.out⟩
            case measure => simp [intOf]; omega
        · have q1 : (n : Int) ≤ t := by omega
          have HPL := Lib.hid (HPN2.out k hkm (by rw [← HTT.out]; unfold okTo; simp; omega))
          go_wp2_with fail
          go_ret2
          exact ⟨_, _, rfl, by unfold PlP; rw [HPL.out]; exact ⟨rfl, rfl⟩, HB5.out⟩
      · obtain rfl : k = m := by omega
        have HP := Lib.hid (HPN.out HALL.out)
        go_wp2_with fail
        go_ret2
        exact ⟨_, _, rfl, by unfold PlP; rw [HP.out]; exact ⟨rfl, by have h := HOWN.out; exact h⟩, HBL.out⟩
end Go.Proofs.Ytonfnlohbgbffaa

set_option linter.unusedVariables false
set_option linter.unusedSimpArgs false
namespace Go.Proofs.Ytonfnlohbgbffaa
open Go.RowKit

section
variable {w w' : World} {gd gb gl n first : Nat} {s : DSt}
set_option maxRecDepth 20000 in
set_option maxHeartbeats 4000000 in
theorem refInstall_in {v : Value} {L : List Nat} (h : RL w gd gb gl n first s) (hv : SI w .i64 v (natInts L)) (hl : L.length ≤ 30) (hL : ∀ k ∈ L, k < n) (hvo : ∀ x, v.ownBlock = some x → ¬ dset gd gb x) :
    Calls Try.prog 84 #[.pointer (some ⟨gl, 0, none⟩), v] w fun e w' => e = .returned (.int .i64 (install first L s).2) ∧ RL w' gd gb gl n first (install first L s).1 ∧ Chg (dset gd gb) w w' := by
  have hn := h.dx.n
  have hfit := h.fit
  have hlen := natInts_len L
  obtain ⟨A1, cap1, hform, hlc, hcm⟩ := hv.sr.form
  subst hform
  have HX0 := Lib.hid h
  have HV := Lib.hid hv
  have HVO := Lib.hid hvo
  have HL := Lib.hid hL
  obtain ⟨res, hres⟩ : ∃ r, r = inst first L 0 s := ⟨_, rfl⟩
  have HRES := Lib.hid hres
  have HIN := Lib.hid (show install first L s = if L = [] then (s, 0) else if res.2 = 0 then (res.1.put first (logB []), res.1.code) else res by rw [hres]; rfl)
  clear h hv hvo hL hres
  rw [hlen] at hlc ⊢
  go_enter Try.func84, Try.ntmps84
  go_wp2_with fail
  go_loopw [5] (fun r wx => ∃ (i : Nat) (t : DSt), i ≤ L.length ∧ r = .int .i64 i ∧ RL wx gd gb gl n first t ∧ Chg (dset gd gb) w wx ∧ inst first (L.drop i) i t = res) (fun r _ => L.length - (intOf r).toNat)
  case atStart => exact ⟨0, s, by omega, rfl, HX0.out, Chg.of_below _ (Below.refl _ _), HRES.out.symm⟩
  case round =>
    obtain ⟨i, t, hi, rfl, hx, hcg, hin⟩ := hrel
    have HX := Lib.hid hx
    have HCG := Lib.hid hcg
    have HIN2 := Lib.hid hin
    clear hx hcg hin
    by_cases hil : i < L.length
    · have g1 : (i : Int) < L.length := by omega
      obtain ⟨q, hq⟩ : ∃ q, q = L.getD i 0 := ⟨_, rfl⟩
      have hqn : q < n := by
        rw [hq, List.getD_eq_getElem?_getD, List.getElem?_eq_getElem hil]
        exact HL.out _ (List.getElem_mem hil)
      have hdrop : L.drop i = q :: L.drop (i + 1) := by
        rw [hq, List.getD_eq_getElem?_getD, List.getElem?_eq_getElem hil]
        exact List.drop_eq_getElem_cons hil
      have HDR := Lib.hid hdrop
      obtain ⟨g0, off, hA, hcz⟩ : ∃ g0 off, A1 = some ⟨g0, off, none⟩ ∧ ∀ w', Chg (dset gd gb) w w' → w'.cell? ⟨g0, off + i, none⟩ = some (.int .i64 q) := by
        rcases HV.out.cases with ⟨h, _⟩ | ⟨_, g0, off, c1, hs, _, _, hg, hc⟩
        · rw [h] at hlen; simp at hlen; omega
        have hcz := hc i (by rw [hlen]; exact hil)
        injection hs with e1 e2 e3
        refine ⟨g0, off, e1, fun w' hcg => ?_⟩
        rw [World.cell?_of_block (hcg.block g0 hg (HVO.out g0 (by rw [e1]; rfl))), hcz, hq]
        unfold natInts
        simp [List.getD_eq_getElem?_getD, List.getElem?_eq_getElem hil]
      subst hA
      have HCZ := Lib.hid hcz
      clear hq hdrop hcz
      obtain ⟨p, hp⟩ : ∃ p, p = first + 1 + i := ⟨_, rfl⟩
      have hpn : p < n := by omega
      have k1 : (first : Int) + 1 = ((first + 1 : Nat) : Int) := by omega
      have k2 : ((first + 1 : Nat) : Int) + (i : Int) = (p : Int) := by omega
      obtain ⟨f1, hf1⟩ : ∃ f1, f1 = first + 1 := ⟨_, rfl⟩
      rw [← hf1] at k1 k2
      have kb : f1 ≤ 70000 ∧ p ≤ 70000 ∧ first ≤ 70000 := by omega
      obtain ⟨kb1, kb2, kb3⟩ := kb
      have wr1 : IntKind.i64.wrap (f1 : Int) = f1 := by simp [IntKind.wrap, IntKind.bits, IntKind.signed]; omega
      have wr2 : IntKind.i64.wrap (p : Int) = p := by simp [IntKind.wrap, IntKind.bits, IntKind.signed]; omega
      have HP := Lib.hid hp
      clear hp hf1
      obtain ⟨f, hf⟩ : ∃ f, f = t.D p := ⟨_, rfl⟩
      have HF := Lib.hid hf
      have HU8 := Lib.hid (show ∀ i, f i ≤ 255 from fun i => by rw [hf]; exact HX.out.dx.u8 p i)
      clear hf
      go_upto_region 4 with fail
      go_cut [6, 7] (fun sp se wx => ∃ M, sp = .pointer (some ⟨M, 0, none⟩) ∧ se = .int .i64 0 ∧ wr.heap.size ≤ M ∧ wx.rowIs M 52 64 (pgC f) ∧ RL wx gd gb gl n first t ∧ Chg (dset gd gb) wr wx)
      case first =>
        have HC := Lib.hid (show ∀ w', Chg (dset gd gb) wr w' → w'.cell? ⟨gl, 0, none⟩ = some (.pointer (some ⟨gd, 0, none⟩)) ∧ w'.cell? ⟨gl, 1, none⟩ = some (.int .i64 first) from HX.out.cells)
        have HGET := Lib.hid (show ∀ w', Below wr.heap.size wr w' → Calls Try.prog 82 #[.pointer (some ⟨gd, 0, none⟩), .int .i64 p] w' fun e w2 => e = .returned (.tuple #[pageV f, .int .i64 0]) ∧ RX w2 gd gb n t ∧ Chg (dset gd gb) w' w2 from fun w' hb => by rw [HF.out]; exact rxGet (HX.out.keep hb).dx p hpn)
        have hS : Chg (dset gd gb) wr (World.drew wr) := Chg.of_below _ (drewb wr)
        refine wp_region_held (S := Chg (dset gd gb) wr) (by kernel_rfl) ?_
        change wpAnyH _ _ _ _ _ _ _ _ (World.drew _)
        refine takeH 0 (.pointer (some ⟨gl, 0, none⟩)) (some 16) rfl rfl (by kernel_rfl) (by kernel_rfl) (by kernel_rfl) (fun _ _ _ h => h) (.inl ⟨by kernel_rfl, fun w _ => by go_simp⟩) hS ?_
        refine takeH 1 (.pointer (some ⟨gl, 0, none⟩)) (some 17) rfl rfl (by kernel_rfl) (by kernel_rfl) (by kernel_rfl) (fun _ _ _ h => h) (.inl ⟨by kernel_rfl, fun w _ => by go_simp⟩) hS ?_
        refine takeH 2 (.pointer (some ⟨gl, 0, none⟩)) (some 18) rfl rfl (by kernel_rfl) (by kernel_rfl) (by kernel_rfl) (fun _ _ _ h => h) (.inl ⟨by kernel_rfl, fun w _ => by go_simp⟩) hS ?_
        refine takeH 3 (.pointer (some ⟨gd, 0, none⟩)) (some 19) rfl rfl (by kernel_rfl) (by kernel_rfl) (by kernel_rfl) (fun _ _ _ h => h) (.inl ⟨by kernel_rfl, fun w hw => by have hc := (HC.out w hw).1; go_simp⟩) hS ?_
        refine takeH 4 (.pointer (some ⟨gl, 0, none⟩)) (some 20) rfl rfl (by kernel_rfl) (by kernel_rfl) (by kernel_rfl) (fun _ _ _ h => h) (.inl ⟨by kernel_rfl, fun w _ => by go_simp⟩) hS ?_
        refine takeH 5 (.pointer (some ⟨gl, 0, none⟩)) (some 21) rfl rfl (by kernel_rfl) (by kernel_rfl) (by kernel_rfl) (fun _ _ _ h => h) (.inl ⟨by kernel_rfl, fun w _ => by go_simp⟩) hS ?_
        refine takeH 6 (.pointer (some ⟨gl, 1, none⟩)) (some 22) rfl rfl (by kernel_rfl) (by kernel_rfl) (by kernel_rfl) (fun _ _ _ h => h) (.inl ⟨by kernel_rfl, fun w _ => by go_simp⟩) hS ?_
        refine takeH 7 (.int .i64 first) (some 23) rfl rfl (by kernel_rfl) (by kernel_rfl) (by kernel_rfl) (fun _ _ _ h => h) (.inl ⟨by kernel_rfl, fun w hw => by have hc := (HC.out w hw).2; go_simp⟩) hS ?_
        refine takeH 8 (.int .i64 f1) (some 24) rfl rfl (by kernel_rfl) (by kernel_rfl) (by kernel_rfl) (fun _ _ _ h => h) (.inl ⟨by kernel_rfl, fun w _ => by go_simp⟩) hS ?_
        refine takeH 9 (.int .i64 i) (some 25) rfl rfl (by kernel_rfl) (by kernel_rfl) (by kernel_rfl) (fun _ _ _ h => h) (.inl ⟨by kernel_rfl, fun w _ => by go_simp⟩) hS ?_
        refine takeH 10 (.int .i64 p) (some 26) rfl rfl (by kernel_rfl) (by kernel_rfl) (by kernel_rfl) (fun _ _ _ h => h) (.inl ⟨by kernel_rfl, fun w _ => by go_simp⟩) hS ?_
        go_simp
        have hSB : Chg (dset gd gb) wr ((World.drew wr).alloc (.cells (Value.agg (rowArr 64 (pgC fun _ => 0))).cells 52)) := hS.next (bnew _ _)
        refine callAlloc 11 15 rfl rfl rfl rfl (by kernel_rfl) (by kernel_rfl) 27 6 rfl rfl 82 #[.pointer (some ⟨gd, 0, none⟩), .int .i64 p] 52 rfl (.agg (rowArr 64 (pgC fun _ => 0))) page_zero (by go_simp; try rfl) (fun _ w' => by go_simp; try rfl) ((HGET.out _ (drewb wr)).mono ?_) hSB (fun M hM0 => (HGET.out _ (bnewAfter (drewb wr) _)).mono ?_) (by decide) (by decide)
        · rintro e wT ⟨he, hT, hD⟩
          have hS1 : Chg (dset gd gb) wr wT := hS.trans hD (fun k _ h => h)
          refine ⟨_, he, hS1, ?_⟩
          clear he
          refine takeH 12 (.tuple #[pageV f, .int .i64 0]) (some 15) rfl rfl (by kernel_rfl) (by kernel_rfl) (by kernel_rfl) (fun _ _ _ h => h) (.inl ⟨by kernel_rfl, fun w _ => by go_simp⟩) hS1 ?_
          refine takeH 13 (pageV f) (some 28) rfl rfl (by kernel_rfl) (by kernel_rfl) (by kernel_rfl) (fun _ _ _ h => h) (.inl ⟨by kernel_rfl, fun w _ => by go_simp⟩) hS1 ?_
          refine takeH 14 (.int .i64 0) (some 29) rfl rfl (by kernel_rfl) (by kernel_rfl) (by kernel_rfl) (fun _ _ _ h => h) (.inl ⟨by kernel_rfl, fun w _ => by go_simp⟩) hS1 ?_
          refine runH 15 _ (some 6) rfl (by kernel_rfl) (by kernel_rfl) rfl (exec_alloc 52 rfl (.agg (rowArr 64 (pgC fun _ => 0))) page_zero) (hS1.next (bnew _ _)) ?_
          have hm := rowIs_of_arr (heap_alloc_last wT (.cells (rowArr 64 (pgC fun _ => 0)) 52))
          have hS2 := hS1.next (bnew wT (.cells (rowArr 64 (pgC fun _ => 0)) 52))
          have hM : wr.heap.size ≤ wT.heap.size := hS1.size
          have hT2 := ((HX.out.keep (drewb wr)).setD hD hT).keep (bnew wT (.cells (rowArr 64 (pgC fun _ => 0)) 52))
          refine storeRowY 16 rfl (by kernel_rfl) (by kernel_rfl) rfl 52 _ _ rfl wT.heap.size 64 _ (pgC f) (by go_simp; try rfl) (by go_simp; try rfl) hm (fun _ _ => rfl) block_size (fun w3 h3 o3 => ?_)
          have hS3 : Chg (dset gd gb) wr w3 := hS2.one o3 (.inr hM)
          refine ⟨hS3, ?_⟩
          refine takeH 17 (.int .i64 0) (some 7) rfl rfl (by kernel_rfl) (by kernel_rfl) (by kernel_rfl) (fun _ _ _ h => h) (.inl ⟨by kernel_rfl, fun w _ => by go_simp⟩) hS3 ?_
          refine wpAnyH_done (by kernel_rfl) ?_ _
          go_simp
          go_wp2_with fail
          go_meet
          exact ⟨_, rfl, rfl, hM, h3, hT2.one o3 (by have := HX.out.lt; omega), hS3⟩
        · rintro e wT ⟨he, hT, hD⟩
          have hS1 : Chg (dset gd gb) wr wT := hSB.trans hD (fun k _ h => h)
          refine ⟨_, he, hS1, fun fl hfl => ?_⟩
          obtain rfl : fl = 5 := by simpa using hfl
          clear hfl he
          refine takeH 12 (.tuple #[pageV f, .int .i64 0]) (some 15) rfl rfl (by kernel_rfl) (by kernel_rfl) (by kernel_rfl) (fun _ _ _ h => h) (.inl ⟨by kernel_rfl, fun w _ => by go_simp⟩) hS1 ?_
          refine takeH 13 (pageV f) (some 28) rfl rfl (by kernel_rfl) (by kernel_rfl) (by kernel_rfl) (fun _ _ _ h => h) (.inl ⟨by kernel_rfl, fun w _ => by go_simp⟩) hS1 ?_
          refine takeH 14 (.int .i64 0) (some 29) rfl rfl (by kernel_rfl) (by kernel_rfl) (by kernel_rfl) (fun _ _ _ h => h) (.inl ⟨by kernel_rfl, fun w _ => by go_simp⟩) hS1 ?_
          have HM1 := Lib.hid (show M = wr.heap.size from hM0)
          clear hM0
          have hm := hD.row (rowIs_of_arr (heap_alloc_last (World.drew wr) (.cells (rowArr 64 (pgC fun _ => 0)) 52))) (fun e => by have h1 := HX.out.lt; have h3 : (World.drew wr).heap.size = wr.heap.size := rfl; rcases e with e | e <;> omega)
          rw [show (World.drew wr).heap.size = M from HM1.out.symm] at hm
          have hS2 := hS1
          have hM : wr.heap.size ≤ M := Nat.le_of_eq HM1.out.symm
          have hT2 := (HX.out.keep (bnewAfter (drewb wr) (.cells (rowArr 64 (pgC fun _ => 0)) 52))).setD hD hT
          refine storeRowY 16 rfl (by kernel_rfl) (by kernel_rfl) rfl 52 _ _ rfl M 64 _ (pgC f) (by go_simp; try rfl) (by go_simp; try rfl) hm (fun _ _ => rfl) block_size (fun w3 h3 o3 => ?_)
          have hS3 : Chg (dset gd gb) wr w3 := hS2.one o3 (.inr hM)
          refine ⟨hS3, ?_⟩
          refine takeH 17 (.int .i64 0) (some 7) rfl rfl (by kernel_rfl) (by kernel_rfl) (by kernel_rfl) (fun _ _ _ h => h) (.inl ⟨by kernel_rfl, fun w _ => by go_simp⟩) hS3 ?_
          refine wpAnyH_done (by kernel_rfl) ?_ _
          go_simp
          go_wp2_with fail
          go_meet
          exact ⟨_, rfl, rfl, hM, h3, hT2.one o3 (by have := HX.out.lt; omega), hS3⟩
      case rest =>
        obtain ⟨M, rfl, rfl, hM, hrow, hx2, hcg2⟩ := hcut
        have HROW := Lib.hid hrow
        have HX2 := Lib.hid hx2
        have HCG2 := Lib.hid (HCG.out.trans hcg2 (fun _ _ h => h))
        have HMD := Lib.hid (show ¬ dset gd gb M from fun e => by have := HX.out.lt; rcases e with e | e <;> omega)
        clear hM hrow hx2 hcg2 k1 k2 wr1 wr2
        go_at_K
        go_step
        go_upto_region 7 with fail
        go_cut [8] (fun s9 wx => s9 = .int .i64 t.code ∧ RL wx gd gb gl n first (t.put q f) ∧ Chg (dset gd gb) w wx)
        case first =>
          have HC := Lib.hid (show ∀ w', Chg (dset gd gb) wc w' → w'.cell? ⟨gl, 0, none⟩ = some (.pointer (some ⟨gd, 0, none⟩)) from fun w' hc => (HX2.out.cells w' hc).1)
          have HZ := Lib.hid (show ∀ w', Chg (dset gd gb) wc w' → w'.cell? ⟨g0, off + i, none⟩ = some (.int .i64 q) from fun w' hc => HCZ.out w' (HCG2.out.trans hc (fun _ _ h => h)))
          have hS : Chg (dset gd gb) wc (World.drew wc) := Chg.of_below _ (drewb wc)
          refine wp_region_held (S := Chg (dset gd gb) wc) (by kernel_rfl) ?_
          change wpAnyH _ _ _ _ _ _ _ _ (World.drew _)
          refine takeH 0 (.pointer (some ⟨gl, 0, none⟩)) (some 33) rfl rfl (by kernel_rfl) (by kernel_rfl) (by kernel_rfl) (fun _ _ _ h => h) (.inl ⟨by kernel_rfl, fun w _ => by go_simp⟩) hS ?_
          refine takeH 1 (.pointer (some ⟨gl, 0, none⟩)) (some 34) rfl rfl (by kernel_rfl) (by kernel_rfl) (by kernel_rfl) (fun _ _ _ h => h) (.inl ⟨by kernel_rfl, fun w _ => by go_simp⟩) hS ?_
          refine takeH 2 (.pointer (some ⟨gl, 0, none⟩)) (some 35) rfl rfl (by kernel_rfl) (by kernel_rfl) (by kernel_rfl) (fun _ _ _ h => h) (.inl ⟨by kernel_rfl, fun w _ => by go_simp⟩) hS ?_
          refine takeH 3 (.pointer (some ⟨gd, 0, none⟩)) (some 36) rfl rfl (by kernel_rfl) (by kernel_rfl) (by kernel_rfl) (fun _ _ _ h => h) (.inl ⟨by kernel_rfl, fun w hw => by have hc := HC.out w hw; go_simp⟩) hS ?_
          refine takeH 4 (.slice (some ⟨g0, off, none⟩) L.length cap1) (some 37) rfl rfl (by kernel_rfl) (by kernel_rfl) (by kernel_rfl) (fun _ _ _ h => h) (.inl ⟨by kernel_rfl, fun w _ => by go_simp⟩) hS ?_
          refine takeH 5 (.int .i64 i) (some 38) rfl rfl (by kernel_rfl) (by kernel_rfl) (by kernel_rfl) (fun _ _ _ h => h) (.inl ⟨by kernel_rfl, fun w _ => by go_simp⟩) hS ?_
          refine takeH 6 (.pointer (some ⟨g0, off + i, none⟩)) (some 39) rfl rfl (by kernel_rfl) (by kernel_rfl) (by kernel_rfl) (fun _ _ _ h => h) (.inl ⟨by kernel_rfl, fun w _ => by go_simp⟩) hS ?_
          refine takeH 7 (.int .i64 q) (some 40) rfl rfl (by kernel_rfl) (by kernel_rfl) (by kernel_rfl) (fun _ _ _ h => h) (.inl ⟨by kernel_rfl, fun w hw => by have hc := HZ.out w hw; go_simp⟩) hS ?_
          refine takeH 8 (pageV f) (some 41) rfl rfl (by kernel_rfl) (by kernel_rfl) (by kernel_rfl) (fun _ _ _ h => h) (yi_row (by kernel_rfl) 52 (.tmp 6) rfl M 64 (pgC f) (by go_simp) (fun w hw => hw.row HROW.out HMD.out) _ block_under rfl block_size) hS ?_
          go_simp
          refine callH 9 rfl (by kernel_rfl) (by kernel_rfl) (some 42) rfl 87 #[.pointer (some ⟨gd, 0, none⟩), .int .i64 q, pageV f] ?hrun ((rxPut (HX2.out.keep (drewb wc)).dx q hqn HU8.out).mono ?_)
          case hrun => go_simp; try rfl
          rintro e w3 ⟨rfl, hd3, hc3⟩
          have HX3 := Lib.hid ((HX2.out.keep (drewb wc)).setD hc3 hd3)
          have hS3 : Chg (dset gd gb) wc w3 := hS.trans hc3 (fun _ _ h => h)
          have HC3 := Lib.hid (HCG2.out.trans hS3 (fun _ _ h => h))
          refine ⟨_, rfl, hS3, ?_⟩
          go_simp
          clear hd3 hc3
          refine takeH 10 (.int .i64 t.code) (some 8) rfl rfl (by kernel_rfl) (by kernel_rfl) (by kernel_rfl) (fun _ _ _ h => h) (.inl ⟨by kernel_rfl, fun w _ => by go_simp⟩) hS3 ?_
          refine wpAnyH_done (by kernel_rfl) ?_ _
          go_simp
          go_wp2_with fail
          go_meet
          exact ⟨rfl, HX3.out, HC3.out⟩
        case rest =>
          obtain ⟨rfl, hx4, hcg4⟩ := hcut
          have HX4 := Lib.hid hx4
          have HCG4 := Lib.hid hcg4
          have HIN3 := Lib.hid (show (if t.up = true then inst first (L.drop (i + 1)) (i + 1) (t.put q f) else (t.put q f, 24)) = res from by
            rw [← HIN2.out, HDR.out, HF.out, HP.out]
            rfl)
          clear hx4 hcg4
          go_at_K
          go_step
          by_cases hup : t.up = true
          · have hcode : t.code = 0 := if_pos hup
            have HN := Lib.hid (show inst first (L.drop (i + 1)) (i + 1) (t.put q f) = res from by rw [← HIN3.out, if_pos hup])
            rw [hcode]
            clear hup hcode
            go_wp2_with fail
            go_roundw
            case rel => exact ⟨i + 1, _, by omega, by go_num, HX4.out, HCG4.out, HN.out⟩
            case measure => simp [intOf]; omega
          · have hcode : t.code = 24 := if_neg hup
            have HN := Lib.hid (show (t.put q f, 24) = res from by rw [← HIN3.out, if_neg hup])
            have HFIN := Lib.hid (show install first L s = (t.put q f, 24) from by
              rw [HIN.out, ← HN.out, if_neg (fun e => by rw [e] at hil; simp at hil), if_neg (by simp)])
            rw [hcode]
            clear hup hcode
            go_wp2_with fail
            go_ret
            rw [HFIN.out]
            exact ⟨rfl, HX4.out, HCG4.out⟩
    · obtain rfl : i = L.length := by omega
      have hres : res = (t, 0) := by
        have := HIN2.out
        rw [List.drop_length] at this
        rw [← this]
        rfl
      have HRS := Lib.hid hres
      clear hres
      by_cases h0 : L.length = 0
      · have HFIN := Lib.hid (show install first L s = (s, 0) from by rw [HIN.out, if_pos (List.eq_nil_of_length_eq_zero h0)])
        have HTS := Lib.hid (show s = t from by
          have h1 := HRES.out
          rw [List.eq_nil_of_length_eq_zero h0, HRS.out] at h1
          exact (congrArg Prod.fst h1).symm)
        have h0' : decide ((0 : Int) < L.length) = false := by rw [decide_eq_false_iff_not]; omega
        have h0'' : (L.length : Int) = 0 := by omega
        go_wp2_with fail
        go_ret
        rw [HFIN.out, HTS.out]
        exact ⟨rfl, HX.out, HCG.out⟩
      · have HFIN := Lib.hid (show install first L s = (t.put first (logB []), t.code) from by
          rw [HIN.out, HRS.out, if_neg (fun e => h0 (by rw [e]; rfl)), if_pos rfl])
        have h0' : (0 : Int) < L.length := by omega
        go_upto_region 11 with fail
        have HC := Lib.hid (show ∀ w', Chg (dset gd gb) wr w' → w'.cell? ⟨gl, 0, none⟩ = some (.pointer (some ⟨gd, 0, none⟩)) ∧ w'.cell? ⟨gl, 1, none⟩ = some (.int .i64 first) from HX.out.cells)
        have hS : Chg (dset gd gb) wr (World.drew wr) := Chg.of_below _ (drewb wr)
        refine wp_region_held (S := Chg (dset gd gb) wr) (by kernel_rfl) ?_
        change wpAnyH _ _ _ _ _ _ _ _ (World.drew _)
        refine takeH 0 (.pointer (some ⟨gl, 0, none⟩)) (some 49) rfl rfl (by kernel_rfl) (by kernel_rfl) (by kernel_rfl) (fun _ _ _ h => h) (.inl ⟨by kernel_rfl, fun w _ => by go_simp⟩) hS ?_
        refine takeH 1 (.pointer (some ⟨gl, 0, none⟩)) (some 50) rfl rfl (by kernel_rfl) (by kernel_rfl) (by kernel_rfl) (fun _ _ _ h => h) (.inl ⟨by kernel_rfl, fun w _ => by go_simp⟩) hS ?_
        refine takeH 2 (.pointer (some ⟨gl, 0, none⟩)) (some 51) rfl rfl (by kernel_rfl) (by kernel_rfl) (by kernel_rfl) (fun _ _ _ h => h) (.inl ⟨by kernel_rfl, fun w _ => by go_simp⟩) hS ?_
        refine takeH 3 (.pointer (some ⟨gd, 0, none⟩)) (some 52) rfl rfl (by kernel_rfl) (by kernel_rfl) (by kernel_rfl) (fun _ _ _ h => h) (.inl ⟨by kernel_rfl, fun w hw => by have hc := (HC.out w hw).1; go_simp⟩) hS ?_
        refine takeH 4 (.pointer (some ⟨gl, 0, none⟩)) (some 53) rfl rfl (by kernel_rfl) (by kernel_rfl) (by kernel_rfl) (fun _ _ _ h => h) (.inl ⟨by kernel_rfl, fun w _ => by go_simp⟩) hS ?_
        refine takeH 5 (.pointer (some ⟨gl, 0, none⟩)) (some 54) rfl rfl (by kernel_rfl) (by kernel_rfl) (by kernel_rfl) (fun _ _ _ h => h) (.inl ⟨by kernel_rfl, fun w _ => by go_simp⟩) hS ?_
        refine takeH 6 (.pointer (some ⟨gl, 1, none⟩)) (some 55) rfl rfl (by kernel_rfl) (by kernel_rfl) (by kernel_rfl) (fun _ _ _ h => h) (.inl ⟨by kernel_rfl, fun w _ => by go_simp⟩) hS ?_
        refine takeH 7 (.int .i64 first) (some 56) rfl rfl (by kernel_rfl) (by kernel_rfl) (by kernel_rfl) (fun _ _ _ h => h) (.inl ⟨by kernel_rfl, fun w hw => by have hc := (HC.out w hw).2; go_simp⟩) hS ?_
        go_simp
        refine callH 8 rfl (by kernel_rfl) (by kernel_rfl) (some 57) rfl 51 #[.slice none 0 0] ?hrun ((refHead_in (L := []) (SI.nil _ .i64) (by simp) (fun n hn => by cases hn)).mono ?_)
        case hrun => go_simp; try rfl
        rintro e w3 ⟨rfl, hb3⟩
        have HX3 := Lib.hid ((HX.out.keep (drewb wr)).keep hb3)
        have hS3 : Chg (dset gd gb) wr w3 := hS.next hb3
        refine ⟨_, rfl, hS3, ?_⟩
        go_simp
        clear hb3
        refine callH 9 rfl (by kernel_rfl) (by kernel_rfl) (some 58) rfl 87 #[.pointer (some ⟨gd, 0, none⟩), .int .i64 first, pageV (logB [])] ?hrun ((rxPut HX3.out.dx first (by omega) (logB_u8 _)).mono ?_)
        case hrun => go_simp; try rfl
        rintro e w4 ⟨rfl, hd4, hc4⟩
        have HX4 := Lib.hid (HX3.out.setD hc4 hd4)
        have hS4 : Chg (dset gd gb) wr w4 := hS3.trans hc4 (fun _ _ h => h)
        have HC4 := Lib.hid (HCG.out.trans hS4 (fun _ _ h => h))
        refine ⟨_, rfl, hS4, ?_⟩
        go_simp
        clear hd4 hc4
        refine takeH 10 (.int .i64 t.code) (some 4) rfl rfl (by kernel_rfl) (by kernel_rfl) (by kernel_rfl) (fun _ _ _ h => h) (.inl ⟨by kernel_rfl, fun w _ => by go_simp⟩) hS4 ?_
        refine wpAnyH_done (by kernel_rfl) ?_ _
        go_simp
        go_wp2_with fail
        go_ret
        rw [HFIN.out]
        exact ⟨rfl, HX4.out, HC4.out⟩
end
end Go.Proofs.Ytonfnlohbgbffaa

set_option linter.unusedVariables false
set_option linter.unusedSimpArgs false
namespace Go.Proofs.Ytonfnlohbgbffaa
open Go.RowKit

set_option maxRecDepth 20000 in
set_option maxHeartbeats 4000000 in
theorem refRecover_in {w : World} {gd gb gl n first : Nat} {t : DSt} (h : RL w gd gb gl n first t) :
    Calls Try.prog 54 #[.pointer (some ⟨gl, 0, none⟩)] w fun e w' => e = .returned (.tuple #[.int .i64 (recov first n t).2.1, .int .i64 (recov first n t).2.2]) ∧ RL w' gd gb gl n first (recov first n t).1 ∧ Chg (dset gd gb) w w' := by
  have hn := h.dx.n
  have hfit := h.fit
  have HX := Lib.hid h
  obtain ⟨p, hp⟩ : ∃ p, p = first := ⟨_, rfl⟩
  have hpn : p < n := by omega
  have HP := Lib.hid hp
  obtain ⟨f, hf⟩ : ∃ f, f = t.D p := ⟨_, rfl⟩
  have HF := Lib.hid hf
  have HU8 := Lib.hid (show ∀ i, f i ≤ 255 from fun i => by rw [hf]; exact HX.out.dx.u8 p i)
  have HRV := Lib.hid (show recov first n t = match places f n first with
    | none => (t, 0, 26)
    | some L => ((install first L t).1, L.length, (install first L t).2) from by rw [hf, hp]; rfl)
  clear hf h hp
  go_enter Try.func54, Try.ntmps54
  go_upto_region 1 with fail
  go_cut [4, 5] (fun sp se wx => ∃ M, sp = .pointer (some ⟨M, 0, none⟩) ∧ se = .int .i64 0 ∧ w.heap.size ≤ M ∧ wx.rowIs M 52 64 (pgC f) ∧ RL wx gd gb gl n first t ∧ Chg (dset gd gb) w wx)
  case first =>
    have HC := Lib.hid (show ∀ w', Chg (dset gd gb) w w' → w'.cell? ⟨gl, 0, none⟩ = some (.pointer (some ⟨gd, 0, none⟩)) ∧ w'.cell? ⟨gl, 1, none⟩ = some (.int .i64 first) from HX.out.cells)
    have HGET := Lib.hid (show ∀ w', Below w.heap.size w w' → Calls Try.prog 82 #[.pointer (some ⟨gd, 0, none⟩), .int .i64 p] w' fun e w2 => e = .returned (.tuple #[pageV f, .int .i64 0]) ∧ RX w2 gd gb n t ∧ Chg (dset gd gb) w' w2 from fun w' hb => by rw [HF.out]; exact rxGet (HX.out.keep hb).dx p hpn)
    have hS : Chg (dset gd gb) w (World.drew w) := Chg.of_below _ (drewb w)
    refine wp_region_held (S := Chg (dset gd gb) w) (by kernel_rfl) ?_
    change wpAnyH _ _ _ _ _ _ _ _ (World.drew _)
    refine takeH 0 (.pointer (some ⟨gl, 0, none⟩)) (some 9) rfl rfl (by kernel_rfl) (by kernel_rfl) (by kernel_rfl) (fun _ _ _ h => h) (.inl ⟨by kernel_rfl, fun w _ => by go_simp⟩) hS ?_
    refine takeH 1 (.pointer (some ⟨gl, 0, none⟩)) (some 10) rfl rfl (by kernel_rfl) (by kernel_rfl) (by kernel_rfl) (fun _ _ _ h => h) (.inl ⟨by kernel_rfl, fun w _ => by go_simp⟩) hS ?_
    refine takeH 2 (.pointer (some ⟨gl, 0, none⟩)) (some 11) rfl rfl (by kernel_rfl) (by kernel_rfl) (by kernel_rfl) (fun _ _ _ h => h) (.inl ⟨by kernel_rfl, fun w _ => by go_simp⟩) hS ?_
    refine takeH 3 (.pointer (some ⟨gd, 0, none⟩)) (some 12) rfl rfl (by kernel_rfl) (by kernel_rfl) (by kernel_rfl) (fun _ _ _ h => h) (.inl ⟨by kernel_rfl, fun w hw => by have hc := (HC.out w hw).1; go_simp⟩) hS ?_
    refine takeH 4 (.pointer (some ⟨gl, 0, none⟩)) (some 13) rfl rfl (by kernel_rfl) (by kernel_rfl) (by kernel_rfl) (fun _ _ _ h => h) (.inl ⟨by kernel_rfl, fun w _ => by go_simp⟩) hS ?_
    refine takeH 5 (.pointer (some ⟨gl, 0, none⟩)) (some 14) rfl rfl (by kernel_rfl) (by kernel_rfl) (by kernel_rfl) (fun _ _ _ h => h) (.inl ⟨by kernel_rfl, fun w _ => by go_simp⟩) hS ?_
    refine takeH 6 (.pointer (some ⟨gl, 1, none⟩)) (some 15) rfl rfl (by kernel_rfl) (by kernel_rfl) (by kernel_rfl) (fun _ _ _ h => h) (.inl ⟨by kernel_rfl, fun w _ => by go_simp⟩) hS ?_
    refine takeH 7 (.int .i64 p) (some 16) rfl rfl (by kernel_rfl) (by kernel_rfl) (by kernel_rfl) (fun _ _ _ h => h) (.inl ⟨by kernel_rfl, fun w hw => by have hc := (HC.out w hw).2; rw [← HP.out] at hc; go_simp⟩) hS ?_
    go_simp
    have hSB : Chg (dset gd gb) w ((World.drew w).alloc (.cells (Value.agg (rowArr 64 (pgC fun _ => 0))).cells 52)) := hS.next (bnew _ _)
    refine callAlloc 8 12 rfl rfl rfl rfl (by kernel_rfl) (by kernel_rfl) 17 4 rfl rfl 82 #[.pointer (some ⟨gd, 0, none⟩), .int .i64 p] 52 rfl (.agg (rowArr 64 (pgC fun _ => 0))) page_zero (by go_simp; try rfl) (fun _ w' => by go_simp; try rfl) ((HGET.out _ (drewb w)).mono ?_) hSB (fun M hM0 => (HGET.out _ (bnewAfter (drewb w) _)).mono ?_) (by decide) (by decide)
    · rintro e wT ⟨he, hT, hD⟩
      have hS1 : Chg (dset gd gb) w wT := hS.trans hD (fun k _ h => h)
      refine ⟨_, he, hS1, ?_⟩
      clear he
      refine takeH 9 (.tuple #[pageV f, .int .i64 0]) (some 8) rfl rfl (by kernel_rfl) (by kernel_rfl) (by kernel_rfl) (fun _ _ _ h => h) (.inl ⟨by kernel_rfl, fun w _ => by go_simp⟩) hS1 ?_
      refine takeH 10 (pageV f) (some 18) rfl rfl (by kernel_rfl) (by kernel_rfl) (by kernel_rfl) (fun _ _ _ h => h) (.inl ⟨by kernel_rfl, fun w _ => by go_simp⟩) hS1 ?_
      refine takeH 11 (.int .i64 0) (some 19) rfl rfl (by kernel_rfl) (by kernel_rfl) (by kernel_rfl) (fun _ _ _ h => h) (.inl ⟨by kernel_rfl, fun w _ => by go_simp⟩) hS1 ?_
      refine runH 12 _ (some 4) rfl (by kernel_rfl) (by kernel_rfl) rfl (exec_alloc 52 rfl (.agg (rowArr 64 (pgC fun _ => 0))) page_zero) (hS1.next (bnew _ _)) ?_
      have hm := rowIs_of_arr (heap_alloc_last wT (.cells (rowArr 64 (pgC fun _ => 0)) 52))
      have hS2 := hS1.next (bnew wT (.cells (rowArr 64 (pgC fun _ => 0)) 52))
      have hM : w.heap.size ≤ wT.heap.size := hS1.size
      have hT2 := ((HX.out.keep (drewb w)).setD hD hT).keep (bnew wT (.cells (rowArr 64 (pgC fun _ => 0)) 52))
      refine storeRowY 13 rfl (by kernel_rfl) (by kernel_rfl) rfl 52 _ _ rfl wT.heap.size 64 _ (pgC f) (by go_simp; try rfl) (by go_simp; try rfl) hm (fun _ _ => rfl) block_size (fun w3 h3 o3 => ?_)
      have hS3 : Chg (dset gd gb) w w3 := hS2.one o3 (.inr hM)
      refine ⟨hS3, ?_⟩
      refine takeH 14 (.int .i64 0) (some 5) rfl rfl (by kernel_rfl) (by kernel_rfl) (by kernel_rfl) (fun _ _ _ h => h) (.inl ⟨by kernel_rfl, fun w _ => by go_simp⟩) hS3 ?_
      refine wpAnyH_done (by kernel_rfl) ?_ _
      go_simp
      go_wp2_with fail
      go_meet
      exact ⟨_, rfl, rfl, hM, h3, hT2.one o3 (by have := HX.out.lt; omega), hS3⟩
    · rintro e wT ⟨he, hT, hD⟩
      have hS1 : Chg (dset gd gb) w wT := hSB.trans hD (fun k _ h => h)
      refine ⟨_, he, hS1, fun fl hfl => ?_⟩
      obtain rfl : fl = 5 := by simpa using hfl
      clear hfl he
      refine takeH 9 (.tuple #[pageV f, .int .i64 0]) (some 8) rfl rfl (by kernel_rfl) (by kernel_rfl) (by kernel_rfl) (fun _ _ _ h => h) (.inl ⟨by kernel_rfl, fun w _ => by go_simp⟩) hS1 ?_
      refine takeH 10 (pageV f) (some 18) rfl rfl (by kernel_rfl) (by kernel_rfl) (by kernel_rfl) (fun _ _ _ h => h) (.inl ⟨by kernel_rfl, fun w _ => by go_simp⟩) hS1 ?_
      refine takeH 11 (.int .i64 0) (some 19) rfl rfl (by kernel_rfl) (by kernel_rfl) (by kernel_rfl) (fun _ _ _ h => h) (.inl ⟨by kernel_rfl, fun w _ => by go_simp⟩) hS1 ?_
      have HM1 := Lib.hid (show M = w.heap.size from hM0)
      clear hM0
      have hm := hD.row (rowIs_of_arr (heap_alloc_last (World.drew w) (.cells (rowArr 64 (pgC fun _ => 0)) 52))) (fun e => by have h1 := HX.out.lt; have h3 : (World.drew w).heap.size = w.heap.size := rfl; rcases e with e | e <;> omega)
      rw [show (World.drew w).heap.size = M from HM1.out.symm] at hm
      have hS2 := hS1
      have hM : w.heap.size ≤ M := Nat.le_of_eq HM1.out.symm
      have hT2 := (HX.out.keep (bnewAfter (drewb w) (.cells (rowArr 64 (pgC fun _ => 0)) 52))).setD hD hT
      refine storeRowY 13 rfl (by kernel_rfl) (by kernel_rfl) rfl 52 _ _ rfl M 64 _ (pgC f) (by go_simp; try rfl) (by go_simp; try rfl) hm (fun _ _ => rfl) block_size (fun w3 h3 o3 => ?_)
      have hS3 : Chg (dset gd gb) w w3 := hS2.one o3 (.inr hM)
      refine ⟨hS3, ?_⟩
      refine takeH 14 (.int .i64 0) (some 5) rfl rfl (by kernel_rfl) (by kernel_rfl) (by kernel_rfl) (fun _ _ _ h => h) (.inl ⟨by kernel_rfl, fun w _ => by go_simp⟩) hS3 ?_
      refine wpAnyH_done (by kernel_rfl) ?_ _
      go_simp
      go_wp2_with fail
      go_meet
      exact ⟨_, rfl, rfl, hM, h3, hT2.one o3 (by have := HX.out.lt; omega), hS3⟩
  case rest =>
    obtain ⟨M, rfl, rfl, hM, hrow, hx2, hcg2⟩ := hcut
    have HROW := Lib.hid hrow
    have HX2 := Lib.hid hx2
    have HCG2 := Lib.hid hcg2
    clear hM hrow hx2 hcg2
    go_at_K
    go_step
    go_upto_region 4 with fail
    have HC := Lib.hid (show ∀ w', Below wc.heap.size wc w' → w'.cell? ⟨gl, 0, none⟩ = some (.pointer (some ⟨gd, 0, none⟩)) from fun w' hb => (HX2.out.keep hb).c0)
    have HC1 := Lib.hid (show ∀ w', Below wc.heap.size wc w' → w'.cell? ⟨gl, 1, none⟩ = some (.int .i64 first) from fun w' hb => (HX2.out.keep hb).c1)
    obtain ⟨ex, hex, HC2'⟩ := HX2.out.dx.c0
    have HC2 := Lib.hid (show ∀ w', Below wc.heap.size wc w' → w'.cell? ⟨gd, 0, none⟩ = some (.slice (some ⟨gb, 0, none⟩) n (n + ex)) from HC2')
    clear HC2' hex
    have hS : Below wc.heap.size wc (World.drew wc) := drewb wc
    refine wp_region_held (S := fun w' => Below wc.heap.size wc w') (by kernel_rfl) ?_
    change wpAnyH _ _ _ _ _ _ _ _ (World.drew _)
    refine takeH 0 (pageV f) (some 24) rfl rfl (by kernel_rfl) (by kernel_rfl) (by kernel_rfl) (fun _ _ _ h => h) (yi_row (by kernel_rfl) 52 (.tmp 4) rfl M 64 (pgC f) (by go_simp) (fun w hw => rowIs_below HROW.out hw) _ block_under rfl block_size) hS ?_
    refine takeH 1 (.pointer (some ⟨gl, 0, none⟩)) (some 25) rfl rfl (by kernel_rfl) (by kernel_rfl) (by kernel_rfl) (fun _ _ _ h => h) (.inl ⟨by kernel_rfl, fun w _ => by go_simp⟩) hS ?_
    refine takeH 2 (.pointer (some ⟨gl, 0, none⟩)) (some 26) rfl rfl (by kernel_rfl) (by kernel_rfl) (by kernel_rfl) (fun _ _ _ h => h) (.inl ⟨by kernel_rfl, fun w _ => by go_simp⟩) hS ?_
    refine takeH 3 (.pointer (some ⟨gl, 0, none⟩)) (some 27) rfl rfl (by kernel_rfl) (by kernel_rfl) (by kernel_rfl) (fun _ _ _ h => h) (.inl ⟨by kernel_rfl, fun w _ => by go_simp⟩) hS ?_
    refine takeH 4 (.pointer (some ⟨gd, 0, none⟩)) (some 28) rfl rfl (by kernel_rfl) (by kernel_rfl) (by kernel_rfl) (fun _ _ _ h => h) (.inl ⟨by kernel_rfl, fun w hw => by have hc := HC.out w hw; go_simp⟩) hS ?_
    refine takeH 5 (.pointer (some ⟨gd, 0, none⟩)) (some 29) rfl rfl (by kernel_rfl) (by kernel_rfl) (by kernel_rfl) (fun _ _ _ h => h) (.inl ⟨by kernel_rfl, fun w _ => by go_simp⟩) hS ?_
    refine takeH 6 (.pointer (some ⟨gd, 0, none⟩)) (some 30) rfl rfl (by kernel_rfl) (by kernel_rfl) (by kernel_rfl) (fun _ _ _ h => h) (.inl ⟨by kernel_rfl, fun w _ => by go_simp⟩) hS ?_
    refine takeH 7 (.slice (some ⟨gb, 0, none⟩) n (n + ex)) (some 31) rfl rfl (by kernel_rfl) (by kernel_rfl) (by kernel_rfl) (fun _ _ _ h => h) (.inl ⟨by kernel_rfl, fun w hw => by have hc := HC2.out w hw; go_simp⟩) hS ?_
    refine takeH 8 (.int .i64 n) (some 32) rfl rfl (by kernel_rfl) (by kernel_rfl) (by kernel_rfl) (fun _ _ _ h => h) (.inl ⟨by kernel_rfl, fun w _ => by go_simp⟩) hS ?_
    refine takeH 9 (.pointer (some ⟨gl, 0, none⟩)) (some 33) rfl rfl (by kernel_rfl) (by kernel_rfl) (by kernel_rfl) (fun _ _ _ h => h) (.inl ⟨by kernel_rfl, fun w _ => by go_simp⟩) hS ?_
    refine takeH 10 (.pointer (some ⟨gl, 0, none⟩)) (some 34) rfl rfl (by kernel_rfl) (by kernel_rfl) (by kernel_rfl) (fun _ _ _ h => h) (.inl ⟨by kernel_rfl, fun w _ => by go_simp⟩) hS ?_
    refine takeH 11 (.pointer (some ⟨gl, 1, none⟩)) (some 35) rfl rfl (by kernel_rfl) (by kernel_rfl) (by kernel_rfl) (fun _ _ _ h => h) (.inl ⟨by kernel_rfl, fun w _ => by go_simp⟩) hS ?_
    refine takeH 12 (.int .i64 first) (some 36) rfl rfl (by kernel_rfl) (by kernel_rfl) (by kernel_rfl) (fun _ _ _ h => h) (.inl ⟨by kernel_rfl, fun w hw => by have hc := HC1.out w hw; go_simp⟩) hS ?_
    go_simp
    refine callH 13 rfl (by kernel_rfl) (by kernel_rfl) (some 37) rfl 83 #[pageV f, .int .i64 n, .int .i64 first] ?hrun ((refPlaces_in HU8.out (by omega) (by omega)).mono ?_)
    case hrun => go_simp; try rfl
    rintro e w3 ⟨v, b, rfl, hpl, hb3⟩
    have HX3 := Lib.hid ((HX2.out.keep (drewb wc)).keep hb3)
    have hS3 : Below wc.heap.size wc w3 := bnext hS hb3
    have HC3 := Lib.hid (HCG2.out.next hS3)
    refine ⟨_, rfl, hS3, ?_⟩
    go_simp
    have HPL := Lib.hid hpl
    clear hpl hb3
    refine takeH 14 (.tuple #[v, .bool b]) (some 23) rfl rfl (by kernel_rfl) (by kernel_rfl) (by kernel_rfl) (fun _ _ _ h => h) (.inl ⟨by kernel_rfl, fun w _ => by go_simp⟩) hS3 ?_
    refine takeH 15 (v) (some 38) rfl rfl (by kernel_rfl) (by kernel_rfl) (by kernel_rfl) (fun _ _ _ h => h) (.inl ⟨by kernel_rfl, fun w _ => by go_simp⟩) hS3 ?_
    refine takeH 16 (.bool b) (some 39) rfl rfl (by kernel_rfl) (by kernel_rfl) (by kernel_rfl) (fun _ _ _ h => h) (.inl ⟨by kernel_rfl, fun w _ => by go_simp⟩) hS3 ?_
    refine takeH 17 (v) (some 6) rfl rfl (by kernel_rfl) (by kernel_rfl) (by kernel_rfl) (fun _ _ _ h => h) (.inl ⟨by kernel_rfl, fun w _ => by go_simp⟩) hS3 ?_
    refine takeH 18 (.bool b) (some 7) rfl rfl (by kernel_rfl) (by kernel_rfl) (by kernel_rfl) (fun _ _ _ h => h) (.inl ⟨by kernel_rfl, fun w _ => by go_simp⟩) hS3 ?_
    refine wpAnyH_done (by kernel_rfl) ?_ _
    go_simp
    clear hS hS3
    have hpl := HPL.out
    unfold PlP at hpl
    cases hpp : places f n first with
    | none =>
      rw [hpp] at hpl
      obtain ⟨rfl, rfl⟩ := hpl
      have HR := Lib.hid (show recov first n t = (t, 0, 26) from by rw [HRV.out, hpp])
      clear hpp
      go_wp2_with fail
      go_ret2
      rw [HR.out]
      exact ⟨rfl, HX3.out, HC3.out⟩
    | some L =>
      rw [hpp] at hpl
      obtain ⟨rfl, hown⟩ := hpl
      obtain ⟨h30, hLn⟩ := places_ok hpp
      obtain ⟨A1, c1, hform⟩ := hown.form
      subst hform
      have HR := Lib.hid (show recov first n t = ((install first L t).1, L.length, (install first L t).2) from by rw [HRV.out, hpp])
      have HSI := Lib.hid (show SI w3 .i64 (.slice A1 L.length c1) (natInts L) from hown.si (fun c hc => by have := (hLn c hc).1; omega))
      have HVO := Lib.hid (show ∀ x, (Value.slice A1 L.length c1).ownBlock = some x → ¬ dset gd gb x from fun x hx e => by
        have h1 := (hown.lt x hx).1
        have h2 := HX2.out.lt
        have h3 : (World.drew wc).heap.size = wc.heap.size := rfl
        rcases e with e | e <;> omega)
      have HLN := Lib.hid (show ∀ k ∈ L, k < n from fun k hk => (hLn k hk).1)
      clear hpp hown hLn
      go_wp2_with fail
      refine (refInstall_in HX3.out HSI.out h30 HLN.out HVO.out).mono ?_
      rintro e w4 ⟨rfl, hx4, hc4⟩
      have HX4 := Lib.hid hx4
      have HC4 := Lib.hid (HC3.out.trans hc4 (fun _ _ h => h))
      clear hx4 hc4
      go_wp2_with fail
      go_ret2
      rw [HR.out]
      exact ⟨rfl, HX4.out, HC4.out⟩
end Go.Proofs.Ytonfnlohbgbffaa
