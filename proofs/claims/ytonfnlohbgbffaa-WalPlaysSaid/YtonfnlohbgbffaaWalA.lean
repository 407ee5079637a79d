/- The log: disks as blocks of bytes, whatever their counts. -/
import Derived.Test.YtonfnlohbgbffaaRow
import Derived.Deep.MidRow
set_option linter.unusedVariables false
set_option linter.unusedSimpArgs false
namespace Go.Proofs.Ytonfnlohbgbffaa
open Go.RowKit

theorem page_size : (Try.prog.info? 52).map (·.size) = some 64 := block_size
def pgC (f : Nat → Nat) (i : Nat) : Value := .int .u8 (f i)
theorem pageV_eq (f : Nat → Nat) : pageV f = .agg (rowArr 64 (pgC f)) := rfl
theorem page_zero : (Try.prog.info? 52).bind (·.zero) = some (.agg (rowArr 64 (pgC fun _ => 0))) := by kernel_rfl
/-- The cells of blocks. -/
def diskC (D : Nat → Nat → Nat) (j : Nat) : Value := .int .u8 (D (j / 64) (j % 64))
def setBlk (D : Nat → Nat → Nat) (k : Nat) (f : Nat → Nat) : Nat → Nat → Nat := fun j => if j = k then f else D j
theorem diskC_block (D : Nat → Nat → Nat) (k : Nat) : rowArr 64 (fun j => diskC D (k * 64 + j)) = rowArr 64 (pgC (D k)) := rowArr_congr fun i hi => by
  unfold diskC pgC
  rw [show (k * 64 + i) / 64 = k by omega, show (k * 64 + i) % 64 = i by omega]
theorem diskC_set (D : Nat → Nat → Nat) (k : Nat) (f : Nat → Nat) : wrote (diskC D) k (pgC f) = diskC (setBlk D k f) := by
  funext j
  unfold wrote diskC setBlk pgC
  by_cases h : j / 64 = k
  · rw [if_pos (by omega), if_pos h, show j - k * 64 = j % 64 by omega]
  · rw [if_neg (by omega), if_neg h]
theorem pgC_u8 {f : Nat → Nat} (h : ∀ i, f i ≤ 255) : ∀ k, k < 64 → ∃ z : Int, pgC f k = .int .u8 z ∧ 0 ≤ z ∧ z ≤ 255 := fun k _ => ⟨f k, rfl, by omega, by have := h k; omega⟩
theorem setBlk_u8 {D : Nat → Nat → Nat} {k : Nat} {f : Nat → Nat} (h : ∀ k i, D k i ≤ 255) (hf : ∀ i, f i ≤ 255) : ∀ j i, setBlk D k f j i ≤ 255 := fun j i => by
  unfold setBlk; split
  · exact hf i
  · exact h j i

/-- A disk of n blocks. -/
structure DX (w : World) (gd gb n : Nat) (D : Nat → Nat → Nat) (left : Int) (dead : Bool) : Prop where
  dk : ∃ writes reads, DK w gd gb n (diskC D) left dead writes reads
  u8 : ∀ k i, D k i ≤ 255
  n : n ≤ 65536
  l0 : -1 ≤ left
  l1 : left ≤ 9223372036854775807
def dset (gd gb : Nat) (k : Nat) : Prop := k = gd ∨ k = gb
section
variable {w w' : World} {gd gb n : Nat} {D : Nat → Nat → Nat} {left : Int} {dead : Bool}
theorem Two.chg (h : Two w w' gd gb) : Chg (dset gd gb) w w' := ⟨h.os, h.tape, h.output, h.size, fun k hk hS => h.block k hk (fun e => hS (.inl e)) (fun e => hS (.inr e))⟩
theorem DX.keepAt (h : DX w gd gb n D left dead) (h1 : w'.heap[gd]? = w.heap[gd]?) (h2 : w'.heap[gb]? = w.heap[gb]?) : DX w' gd gb n D left dead := by
  obtain ⟨x, y, hk⟩ := h.dk
  exact ⟨⟨x, y, hk.row.of_block h1, hk.blk.of_block h2, hk.ne, hk.one⟩, h.u8, h.n, h.l0, h.l1⟩
theorem DX.lt (h : DX w gd gb n D left dead) : gd < w.heap.size ∧ gb < w.heap.size := by
  obtain ⟨x, y, hk⟩ := h.dk
  exact ⟨hk.row.lt, hk.blk.lt⟩
theorem DX.keep (h : DX w gd gb n D left dead) (hb : Below w.heap.size w w') : DX w' gd gb n D left dead := h.keepAt (hb.block _ h.lt.1) (hb.block _ h.lt.2)
theorem DX.one (h : DX w gd gb n D left dead) {x : Nat} (o : One w w' (some x)) (h1 : x ≠ gd) (h2 : x ≠ gb) : DX w' gd gb n D left dead :=
  h.keepAt (o.block _ h.lt.1 (fun e => h1 (by cases e; rfl))) (o.block _ h.lt.2 (fun e => h2 (by cases e; rfl)))
theorem DX.chg (h : DX w gd gb n D left dead) {S : Nat → Prop} (c : Chg S w w') (h1 : ¬ S gd) (h2 : ¬ S gb) : DX w' gd gb n D left dead := h.keepAt (c.block _ h.lt.1 h1) (c.block _ h.lt.2 h2)
theorem DX.ne (h : DX w gd gb n D left dead) {g : Nat} {T : TypeId} {m : Nat} {f : Nat → Value} (hr : w.rowIs g T m f) (h1 : T ≠ 162) (h2 : T ≠ 52) : g ≠ gd ∧ g ≠ gb := by
  obtain ⟨x, y, hk⟩ := h.dk
  exact ⟨rowIs_ne hr hk.row h1, rowIs_ne hr hk.blk h2⟩

theorem DK.one' {C : Nat → Value} {writes reads : Int} {g x : Nat} (h : DK w g gb n C left dead writes reads) (o : One w w' (some x)) (h1 : x ≠ g) (h2 : x ≠ gb) : DK w' g gb n C left dead writes reads :=
  ⟨rowIs_one h.row o (Ne.symm h1), rowIs_one h.blk o (Ne.symm h2), h.ne, h.one⟩
theorem Two.newOne {w1 : World} {g x : Nat} (h : Two w w1 g gb) (o : One w1 w' (some x)) (hx : w.heap.size ≤ x) : Two w w' g gb :=
  ⟨o.os.trans h.os, o.tape.trans h.tape, o.output.trans h.output, Nat.le_trans h.size o.size, fun k hk h1 h2 => (o.block k (Nat.lt_of_lt_of_le hk h.size) (fun e => by cases e; omega)).trans (h.block k hk h1 h2)⟩
set_option maxRecDepth 10000 in
set_option maxHeartbeats 1000000 in
theorem diskRead_any {C : Nat → Value} {writes reads : Int} {g : Nat} (h : DK w g gb n C left dead writes reads) (hn : n ≤ 65536) (k : Nat) (hk : k < n) :
    Calls Try.prog 69 #[.pointer (some ⟨g, 0, none⟩), .int .i64 k] w fun e w' => e = .returned (.tuple #[.agg (rowArr 64 (fun j => C (k * 64 + j))), .int .i64 0]) ∧ (∃ r, DK w' g gb n C left dead writes r) ∧ Two w w' g gb := by
  have H := Lib.hid h
  have hgl := h.row.lt
  have hgb := h.blk.lt
  have HL := Lib.hid (show g < w.heap.size ∧ gb < w.heap.size from ⟨hgl, hgb⟩)
  clear h hgl hgb
  go_enter Try.func69, Try.ntmps69
  go_wp2_with (first
    | (refine wpList_new_row rfl 52 rfl (some 4) rfl 64 _ page_zero ?_; intro w1 G hG hr1 hb1; have HG := Lib.hid hG; have HR := Lib.hid hr1; have HB := Lib.hid hb1; have HA := Lib.hid (H.out.kept hb1); have c0 := HA.out.c0; have c4 := HA.out.c4; have f1 := HA.out.row.frozen; clear hr1 hb1 hG)
    | (refine wpList_load_pieceTo rfl 52 (.tmp 35) rfl (some 36) rfl gb (k * 64) (by go_simp) (rowArr 64 (fun j => C (k * 64 + j))) _ ?hc block_under rfl (by rw [rowArr_size]; exact block_size) ?_; case hc => (intro j v hv; obtain ⟨h1, rfl⟩ := rowArr_get _ _ _ _ hv; exact (HA.out.setReads _).blk.cell (by omega)))
    | (refine wpList_row_store rfl 52 (.tmp 4) (.tmp 36) rfl rfl G 64 _ (fun j => C (k * 64 + j)) (by go_simp) (by go_simp) (rowIs_one HR.out (one_setCell _ g 4 _) (by have := HL.out; have := HG.out; omega)) ?h1 block_size ?_; case h1 => (intro i hi; obtain ⟨z, hz, _⟩ := H.out.one (k * 64 + i) (by omega); rw [hz]; rfl)
       intro w2 hr2 o2))
  have hD := HA.out.setReads (wrap64 (reads + 1))
  have h1 := HL.out
  have h2 := HG.out
  have hD2 := hD.one' o2 (by omega) (by omega)
  have hT : Two w w2 g gb := (((Two.refl w g gb).below HB.out).set 4 _).newOne o2 HG.out
  have hrun := run_load_row (P := Try.prog) hr2 _ block_under rfl block_size
  exact bodyPost_ret (v := .tuple #[.agg (rowArr 64 (fun j => C (k * 64 + j))), .int .i64 0]) (by simp [results, Try.results69, Act.put, asAddr, hrun]) rfl ⟨rfl, ⟨_, hD2⟩, hT⟩

theorem dxRead_ok (h : DX w gd gb n D left dead) (k : Nat) (hk : k < n) :
    Calls Try.prog 69 #[.pointer (some ⟨gd, 0, none⟩), .int .i64 k] w fun e w' => e = .returned (.tuple #[pageV (D k), .int .i64 0]) ∧ DX w' gd gb n D left dead ∧ Chg (dset gd gb) w w' := by
  obtain ⟨x, y, hd⟩ := h.dk
  refine (diskRead_any hd h.n k hk).mono ?_
  rintro e w' ⟨rfl, ⟨r, h1⟩, h2⟩
  rw [diskC_block]
  exact ⟨rfl, ⟨⟨_, _, h1⟩, h.u8, h.n, h.l0, h.l1⟩, h2.chg⟩

set_option maxRecDepth 10000 in
set_option maxHeartbeats 1000000 in
theorem dxRead_no (h : DX w gd gb n D left dead) (x : Int) (hx : x < 0 ∨ (n : Int) ≤ x) :
    Calls Try.prog 69 #[.pointer (some ⟨gd, 0, none⟩), .int .i64 x] w fun e w' => e = .returned (.tuple #[pageV (fun _ => 0), .int .i64 27]) ∧ Below w.heap.size w w' := by
  obtain ⟨q, r, hd⟩ := h.dk
  have H := Lib.hid hd
  have HX := Lib.hid hx
  by_cases h0 : x < 0
  all_goals
    have hx2 : ¬ x < 0 → (n : Int) ≤ x := fun _ => by omega
    try have hx2 : (n : Int) ≤ x := hx2 h0
    clear hx hd h
    go_enter Try.func69, Try.ntmps69
    go_wp2_with (first
      | (refine wpList_new_row rfl 52 rfl (some 4) rfl 64 _ page_zero ?_; intro w1 G hG hr1 hb1; have HR := Lib.hid hr1; have HB := Lib.hid hb1; have c0 := (H.out.kept hb1).c0; clear hr1 hb1)
      | (refine wpList_buildTo rfl 52 _ rfl (some 22) rfl (rowArr 64 (pgC fun _ => 0)) (by kernel_rfl) ?_)
      | (refine wpList_row_store rfl 52 (.tmp 4) (.tmp 22) rfl rfl G 64 _ (pgC fun _ => 0) (by go_simp) (by go_simp) HR.out (fun _ _ => rfl) block_size ?_; intro w2 hr2 o2; have HR2 := Lib.hid hr2; have HO := Lib.hid o2; clear hr2 o2))
    have hrun := run_load_row (P := Try.prog) HR2.out _ block_under rfl block_size
    exact bodyPost_ret (v := .tuple #[pageV fun _ => 0, .int .i64 27]) (by simp [results, Try.results69, Act.put, asAddr, hrun, pageV_eq]) rfl ⟨rfl, bone HB.out HO.out hG HB.out.size⟩
set_option maxRecDepth 100000 in
set_option maxHeartbeats 400000 in
theorem diskWrite_any {C : Nat → Value} {writes reads : Int} {g : Nat} (h : DK w g gb n C left dead writes reads)
    (hl0 : -1 ≤ left) (hl1 : left ≤ 9223372036854775807) (hn : n ≤ 65536) (k : Nat) (hk : k < n) (hd : dead = false) (hl : left ≠ 0) (D : Nat → Value) (hD : ∀ k, k < 64 → ∃ z : Int, D k = .int .u8 z ∧ 0 ≤ z ∧ z ≤ 255) :
    Calls Try.prog 52 #[.pointer (some ⟨g, 0, none⟩), .int .i64 k, .agg (rowArr 64 D)] w fun e w' => e = .returned (.int .i64 0) ∧ DK w' g gb n (wrote C k D) (if 0 < left then left - 1 else left) false (wrap64 (writes + 1)) reads ∧ Two w w' g gb := by
  subst hd
  have c1 := h.c1
  have c2 := h.c2
  have c3 := h.c3
  have c0 := h.c0
  have f1 := h.row.frozen
  have hgl := h.row.lt
  have hl0' : (left == 0) = false := by simp [hl]
  go_enter Try.func52, Try.ntmps52
  go_wp2_with fail
  have hrow5 := rowIs_of_arr (heap_alloc_last w (.cells (rowArr 64 D) 52))
  have h1 := h.kept (bnew w (.cells (rowArr 64 D) 52))
  have hne5 : w.heap.size ≠ gb := Nat.ne_of_gt h.blk.lt
  have hsz : (w.alloc (.cells (rowArr 64 D) 52)).heap.size = w.heap.size + 1 := by simp
  have T1 := (Two.refl w g gb).below (bnew w (.cells (rowArr 64 D) 52))
  generalize hg5 : w.heap.size = g5 at *
  clear hg5
  generalize w.alloc (.cells (rowArr 64 D) 52) = w1 at *
  have c0 := h1.c0
  clear c1 c2 c3 f1
  have d0 : w1.drew.cell? ⟨g, 0, none⟩ = some (.slice (some ⟨gb, 0, none⟩) n n) := c0
  have H5 := Lib.hid (show w1.drew.rowIs g5 52 64 D from hrow5)
  clear hrow5
  have hb1 := h1.blk
  obtain ⟨wS, hwS⟩ : ∃ wS, wS = w1.drew.setCells gb (k * 64) (rowArr 64 D).toList := ⟨_, rfl⟩
  have hDK : DK wS g gb n (wrote C k D) left false writes reads := by rw [hwS]; exact (h1.drewN 1).write k hk D hD
  have hTw : Two w wS g gb := by rw [hwS]; exact (T1.drewN 1).setCells (rowArr 64 D).toList (k * 64)
  have h5S : wS.rowIs g5 52 64 D := by rw [hwS]; exact rowIs_other hne5 _ _ _ H5.out
  replace hwS := Lib.hid hwS
  have hone : ∀ v ∈ (rowArr 64 D).toList, v.oneCell' = true := fun v hv => by
    obtain ⟨i, hi⟩ := List.mem_iff_getElem?.1 hv
    obtain ⟨h1, rfl⟩ := rowArr_get _ _ _ _ hi
    obtain ⟨z, hz, _⟩ := hD i h1
    rw [hz]; rfl
  have h5g : w1.drew.rowIs g5 52 64 D := H5.out
  have hS5 : ∀ w, (w = w1.drew ∨ w = wS) → ∀ j v, (rowArr 64 D).toList[j]? = some v → w.cell? ⟨g5, 0 + j, none⟩ = some v := fun w hw j v hv => by
    obtain ⟨h1, rfl⟩ := rowArr_get _ _ _ _ hv
    rw [Nat.zero_add]
    rcases hw with rfl | rfl
    · exact h5g.cell h1
    · exact h5S.cell h1
  have hS0 : ∀ w, (w = w1.drew ∨ w = wS) → w.cell? ⟨g, 0, none⟩ = some (.slice (some ⟨gb, 0, none⟩) n n) := fun w hw => by
    rcases hw with rfl | rfl
    · exact d0
    · exact hDK.c0
  refine wp_region_held (S := fun w => w = w1.drew ∨ w = wS) (by kernel_rfl) ?_
  change wpAnyH _ _ _ _ _ _ _ _ (World.drew _)
  have hcS : ∀ j, j < (rowArr 64 D).size → (w1.drew.cell? ⟨gb, k * 64 + j, none⟩).isSome = true := fun j hj => by rw [rowArr_size] at hj; exact isSome_of (World.rowIs.cell (w := w1.drew) hb1 (by omega))
  have hfS : ∀ j, j < (rowArr 64 D).size → w1.drew.frozen? ⟨gb, k * 64 + j, none⟩ = false := fun j hj => World.rowIs.frozen (w := w1.drew) hb1 _
  have hbs : (Try.prog.info? 52).map (·.size) = some (rowArr 64 D).size := by rw [rowArr_size]; exact block_size
  refine takeH 0 (.pointer (some ⟨g, 0, none⟩)) (some 35) rfl rfl (by kernel_rfl) (by kernel_rfl) (by kernel_rfl) (fun _ _ _ h => h) (.inl ⟨by rfl, fun w _ => by go_simp⟩) (.inl rfl) ?_
  refine takeH 1 (.pointer (some ⟨g, 0, none⟩)) (some 36) rfl rfl (by kernel_rfl) (by kernel_rfl) (by kernel_rfl) (fun _ _ _ h => h) (.inl ⟨by rfl, fun w _ => by go_simp⟩) (.inl rfl) ?_
  refine takeH 2 (.pointer (some ⟨g, 0, none⟩)) (some 37) rfl rfl (by kernel_rfl) (by kernel_rfl) (by kernel_rfl) (fun _ _ _ h => h) (.inl ⟨by rfl, fun w _ => by go_simp⟩) (.inl rfl) ?_
  refine takeH 3 (.slice (some ⟨gb, 0, none⟩) n n) (some 38) rfl rfl (by kernel_rfl) (by kernel_rfl) (by kernel_rfl) (fun _ _ _ h => h) (.inl ⟨by rfl, fun w hw => by have hc := hS0 w hw; go_simp⟩) (.inl rfl) ?_
  refine takeH 4 (.int .i64 k) (some 39) rfl rfl (by kernel_rfl) (by kernel_rfl) (by kernel_rfl) (fun _ _ _ h => h) (.inl ⟨by rfl, fun w _ => by go_simp⟩) (.inl rfl) ?_
  refine takeH 5 (.agg (rowArr 64 D)) (some 40) rfl rfl (by kernel_rfl) (by kernel_rfl) (by kernel_rfl) (fun _ _ _ h => h) (yi_piece (by rfl) 52 (.tmp 5) rfl g5 0 rfl (rowArr 64 D) _ hS5 block_under rfl hbs) (.inl rfl) ?_
  refine takeH 6 (.pointer (some ⟨gb, k * 64, none⟩)) (some 41) rfl rfl (by kernel_rfl) (by kernel_rfl) (by kernel_rfl) (fun _ _ _ h => h) (.inl ⟨by rfl, fun w _ => by go_simp⟩) (.inl rfl) ?_
  refine storeH 7 rfl ?hw (by kernel_rfl) (by kernel_rfl) 52 (.tmp 41) (.tmp 40) rfl rfl gb (k * 64) (rowArr 64 D) ?hx ?hy hbs hcS hfS hone ?hS ?h
  case hw => rfl
  case hx => go_simp
  case hy => go_simp
  case hS => exact fun w' hw' => .inr (hw'.trans hwS.out.symm)
  intro w' hw'
  obtain rfl : w' = wS := hw'.trans hwS.out.symm
  clear hw' hwS
  go_simp
  clear hS0 hS5 hb1 H5 h5g h1 T1 c0 d0 hone
  have c1 := hDK.c1
  have c3 := hDK.c3
  have f1 := hDK.row.frozen
  go_wp2_with fail
  · go_ret
    exact ⟨rfl, (hDK.setWrites _).setLeft _, (hTw.set 3 _).set 1 _⟩
  · go_ret
    exact ⟨rfl, hDK.setWrites _, hTw.set 3 _⟩


theorem dxWrite_ok (h : DX w gd gb n D left dead) (k : Nat) (hk : k < n) (hd : dead = false) (hl : left ≠ 0) {f : Nat → Nat} (hf : ∀ i, f i ≤ 255) :
    Calls Try.prog 52 #[.pointer (some ⟨gd, 0, none⟩), .int .i64 k, pageV f] w fun e w' => e = .returned (.int .i64 0) ∧ DX w' gd gb n (setBlk D k f) (if 0 < left then left - 1 else left) false ∧ Chg (dset gd gb) w w' := by
  obtain ⟨x, y, hdk⟩ := h.dk
  refine (diskWrite_any hdk h.l0 h.l1 h.n k hk hd hl (pgC f) (pgC_u8 hf)).mono ?_
  rintro e w' ⟨rfl, h1, h2⟩
  rw [diskC_set] at h1
  have h3 := h.l0
  have h4 := h.l1
  exact ⟨rfl, ⟨⟨_, _, h1⟩, setBlk_u8 h.u8 hf, h.n, by split <;> omega, by split <;> omega⟩, h2.chg⟩
theorem dxWrite_no (h : DX w gd gb n D left dead) (k : Nat) (hk : k < n) (hd : dead = true ∨ left = 0) (f : Nat → Nat) :
    Calls Try.prog 52 #[.pointer (some ⟨gd, 0, none⟩), .int .i64 k, pageV f] w fun e w' => e = .returned (.int .i64 24) ∧ DX w' gd gb n D left true ∧ Chg (dset gd gb) w w' := by
  obtain ⟨x, y, hdk⟩ := h.dk
  refine (diskWrite_no hdk k hk hd (pgC f)).mono ?_
  rintro e w' ⟨rfl, h1, h2⟩
  exact ⟨rfl, ⟨⟨_, _, h1⟩, h.u8, h.n, h.l0, h.l1⟩, h2.chg⟩
theorem dxWrite_range (h : DX w gd gb n D left dead) (x : Int) (hx : x < 0 ∨ (n : Int) ≤ x) (f : Nat → Nat) :
    Calls Try.prog 52 #[.pointer (some ⟨gd, 0, none⟩), .int .i64 x, pageV f] w fun e w' => e = .returned (.int .i64 27) ∧ DX w' gd gb n D left dead ∧ Chg (dset gd gb) w w' := by
  obtain ⟨q, y, hdk⟩ := h.dk
  refine (diskWrite_range hdk x hx (pgC f)).mono ?_
  rintro e w' ⟨rfl, h1, h2⟩
  exact ⟨rfl, ⟨⟨_, _, h1⟩, h.u8, h.n, h.l0, h.l1⟩, h2.chg⟩
theorem dxLen (h : DX w gd gb n D left dead) : Calls Try.prog 72 #[.pointer (some ⟨gd, 0, none⟩)] w fun e w' => e = .returned (.int .i64 n) ∧ w' = w := by
  obtain ⟨q, y, hdk⟩ := h.dk
  exact diskLen_ok hdk
theorem dxNew (n : Nat) (h : n ≤ 65536) (w : World) : Calls Try.prog 43 #[.int .i64 n] w fun e w' => ∃ gd gb, e = .returned (.tuple #[.pointer (some ⟨gd, 0, none⟩), .int .i64 0]) ∧ DX w' gd gb n (fun _ _ => 0) (-1) false ∧ w.heap.size ≤ gd ∧ w.heap.size ≤ gb ∧ Below w.heap.size w w' := by
  refine (diskNew_ok n h w).mono ?_
  rintro e w' ⟨rfl, h1, h2⟩
  exact ⟨_, _, rfl, ⟨⟨_, _, h1⟩, fun _ _ => by simp, h, by omega, by omega⟩, by omega, Nat.le_refl _, h2⟩
end
end Go.Proofs.Ytonfnlohbgbffaa
