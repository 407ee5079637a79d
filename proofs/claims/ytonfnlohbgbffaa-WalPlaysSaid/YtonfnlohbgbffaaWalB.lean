/- The log: its objects; Open, Begin, Get, Put, Len. -/
import Derived.Test.YtonfnlohbgbffaaWalA
import Derived.Test.YtonfnlohbgbffaaMapL
set_option linter.unusedVariables false
set_option linter.unusedSimpArgs false
namespace Go.Proofs.Ytonfnlohbgbffaa
open Go.RowKit
open Go.Maps (Keyed)

def kvI (x : Int) : Value := .int .i64 x
theorem kvI_inj : ∀ a b, kvI a = kvI b → a = b := fun a b h => by unfold kvI at h; injection h
theorem keyedInt : Keyed Try.prog 3 := Go.Maps.int_keyed Try.underlying3
theorem key_int (x : Int) (h : -9223372036854775808 ≤ x ∧ x ≤ 9223372036854775807) : ∃ l, keyOf Try.prog 3 (kvI x) = some l := ⟨_, Go.Maps.keyOf_int_mk Try.underlying3 (i64_wf h)⟩
theorem page_z : (Try.prog.info? 52).bind (·.zero) = some (pageV fun _ => 0) := page_zero
def logF (gd first : Nat) : Nat → Value
  | 0 => .pointer (some ⟨gd, 0, none⟩)
  | _ => .int .i64 first
def txnF (gl gm : Nat) (bad : Int) : Nat → Value
  | 0 => .pointer (some ⟨gl, 0, none⟩)
  | 1 => .map (some gm)
  | _ => .int .i64 bad
/-- A log on a disk. -/
structure LX (w : World) (gd gb gl n first : Nat) (D : Nat → Nat → Nat) (left : Int) (dead : Bool) : Prop where
  dx : DX w gd gb n D left dead
  lg : w.rowIs gl 145 2 (logF gd first)
  fit : first + 31 ≤ n
/-- A transaction on a log. -/
structure TX (w : World) (gd gb gl gt gm n first : Nat) (F : Int → Option (Nat → Nat)) (bad : Int) (D : Nat → Nat → Nat) (left : Int) (dead : Bool) : Prop where
  lx : LX w gd gb gl n first D left dead
  tx : w.rowIs gt 143 3 (txnF gl gm bad)
  mp : MB w Try.prog 3 gm kvI pageV F
  ok : ∀ k f, F k = some f → (∀ i, f i ≤ 255) ∧ 0 ≤ k ∧ k < n ∧ ¬ (first ≤ k ∧ k ≤ first + 30)
/-- How a block will be. -/
def viewB (F : Int → Option (Nat → Nat)) (D : Nat → Nat → Nat) (k : Nat) : Nat → Nat := (F k).getD (D k)
section
variable {w w' : World} {gd gb gl gt gm n first : Nat} {F : Int → Option (Nat → Nat)} {bad : Int} {D : Nat → Nat → Nat} {left : Int} {dead : Bool}
theorem MB.notCells {κ α : Type} {P : Program} {k : TypeId} {kv : κ → Value} {vv : α → Value} {F : κ → Option α} {g : Nat} (h : MB w P k g kv vv F) {b : Nat} {t : TypeId} {m : Nat} {f : Nat → Value} (hr : w.rowIs b t m f) : b ≠ g := fun e => by
  subst e
  obtain ⟨c, hb, _⟩ := hr
  exact h.mp.notCells hb
theorem LX.keepAt (h : LX w gd gb gl n first D left dead) (h1 : w'.heap[gd]? = w.heap[gd]?) (h2 : w'.heap[gb]? = w.heap[gb]?) (h3 : w'.heap[gl]? = w.heap[gl]?) : LX w' gd gb gl n first D left dead :=
  ⟨h.dx.keepAt h1 h2, h.lg.of_block h3, h.fit⟩
theorem LX.keep (h : LX w gd gb gl n first D left dead) (hb : Below w.heap.size w w') : LX w' gd gb gl n first D left dead := ⟨h.dx.keep hb, rowIs_below h.lg hb, h.fit⟩
theorem LX.c0 (h : LX w gd gb gl n first D left dead) : w.cell? ⟨gl, 0, none⟩ = some (.pointer (some ⟨gd, 0, none⟩)) := h.lg.cell (i := 0) (by omega)
theorem LX.c1 (h : LX w gd gb gl n first D left dead) : w.cell? ⟨gl, 1, none⟩ = some (.int .i64 first) := h.lg.cell (i := 1) (by omega)
theorem LX.ne (h : LX w gd gb gl n first D left dead) : gl ≠ gd ∧ gl ≠ gb := h.dx.ne h.lg (by decide) (by decide)
theorem LX.setD (h : LX w gd gb gl n first D left dead) {D' : Nat → Nat → Nat} {left' : Int} {dead' : Bool} (c : Chg (dset gd gb) w w') (hd : DX w' gd gb n D' left' dead') : LX w' gd gb gl n first D' left' dead' :=
  ⟨hd, c.row h.lg (fun e => by rcases e with e | e; exact h.ne.1 e; exact h.ne.2 e), h.fit⟩
theorem TX.keep (h : TX w gd gb gl gt gm n first F bad D left dead) (hb : Below w.heap.size w w') : TX w' gd gb gl gt gm n first F bad D left dead := ⟨h.lx.keep hb, rowIs_below h.tx hb, h.mp.keep hb, h.ok⟩
theorem TX.c0 (h : TX w gd gb gl gt gm n first F bad D left dead) : w.cell? ⟨gt, 0, none⟩ = some (.pointer (some ⟨gl, 0, none⟩)) := h.tx.cell (i := 0) (by omega)
theorem TX.c1 (h : TX w gd gb gl gt gm n first F bad D left dead) : w.cell? ⟨gt, 1, none⟩ = some (.map (some gm)) := h.tx.cell (i := 1) (by omega)
theorem TX.c2 (h : TX w gd gb gl gt gm n first F bad D left dead) : w.cell? ⟨gt, 2, none⟩ = some (.int .i64 bad) := h.tx.cell (i := 2) (by omega)
theorem DX.blk (h : DX w gd gb n D left dead) : ∃ f, w.rowIs gb 52 (n * 64) f := by obtain ⟨_, _, hk⟩ := h.dk; exact ⟨_, hk.blk⟩
theorem DX.obj (h : DX w gd gb n D left dead) : ∃ f, w.rowIs gd 162 5 f := by obtain ⟨_, _, hk⟩ := h.dk; exact ⟨_, hk.row⟩
theorem TX.ne (h : TX w gd gb gl gt gm n first F bad D left dead) : (gt ≠ gd ∧ gt ≠ gb ∧ gt ≠ gl) ∧ (gm ≠ gd ∧ gm ≠ gb ∧ gm ≠ gl ∧ gm ≠ gt) := by
  obtain ⟨f, hf⟩ := h.lx.dx.blk
  obtain ⟨g, hg⟩ := h.lx.dx.obj
  have h1 := h.lx.dx.ne h.tx (by decide) (by decide)
  exact ⟨⟨h1.1, h1.2, rowIs_ne h.tx h.lx.lg (by decide)⟩, (h.mp.notCells hg).symm, (h.mp.notCells hf).symm, (h.mp.notCells h.lx.lg).symm, (h.mp.notCells h.tx).symm⟩
theorem TX.lt (h : TX w gd gb gl gt gm n first F bad D left dead) : gd < w.heap.size ∧ gb < w.heap.size ∧ gl < w.heap.size ∧ gt < w.heap.size ∧ gm < w.heap.size := ⟨h.lx.dx.lt.1, h.lx.dx.lt.2, h.lx.lg.lt, h.tx.lt, h.mp.mp.lt⟩
theorem TX.setD (h : TX w gd gb gl gt gm n first F bad D left dead) {D' : Nat → Nat → Nat} {left' : Int} {dead' : Bool} (c : Chg (dset gd gb) w w') (hd : DX w' gd gb n D' left' dead') : TX w' gd gb gl gt gm n first F bad D' left' dead' :=
  have hn := h.ne
  ⟨h.lx.setD c hd, c.row h.tx (fun e => by rcases e with e | e; exact hn.1.1 e; exact hn.1.2.1 e), h.mp.keepAt (c.block _ h.mp.mp.lt (fun e => by rcases e with e | e; exact hn.2.1 e; exact hn.2.2.1 e)), h.ok⟩
theorem TX.setM (h : TX w gd gb gl gt gm n first F bad D left dead) {F' : Int → Option (Nat → Nat)} (o : One w w' (some gm)) (hm : MB w' Try.prog 3 gm kvI pageV F')
    (ok : ∀ k f, F' k = some f → (∀ i, f i ≤ 255) ∧ 0 ≤ k ∧ k < n ∧ ¬ (first ≤ k ∧ k ≤ first + 30)) : TX w' gd gb gl gt gm n first F' bad D left dead :=
  have hn := h.ne
  ⟨⟨h.lx.dx.one o hn.2.1 hn.2.2.1, rowIs_one h.lx.lg o hn.2.2.2.1.symm, h.lx.fit⟩, rowIs_one h.tx o hn.2.2.2.2.symm, hm, ok⟩
theorem TX.setBad (h : TX w gd gb gl gt gm n first F bad D left dead) (x : Int) : TX (w.setCell ⟨gt, 2, none⟩ (.int .i64 x)) gd gb gl gt gm n first F x D left dead := by
  have hn := h.ne
  have o := one_setCell w gt 2 (.int .i64 x)
  refine ⟨⟨h.lx.dx.one o hn.1.1 hn.1.2.1, rowIs_one h.lx.lg o hn.1.2.2.symm, h.lx.fit⟩, ?_, h.mp.keepAt (o.block _ h.mp.mp.lt (fun e => hn.2.2.2.2 (by cases e; rfl))), h.ok⟩
  refine (h.tx.set 2 _).congr (fun j hj => ?_)
  rcases j with _ | _ | _ | j
  · rfl
  · rfl
  · rfl
  · omega
theorem TX.one (h : TX w gd gb gl gt gm n first F bad D left dead) {x : Nat} (o : One w w' (some x)) (hx : x ≠ gd ∧ x ≠ gb ∧ x ≠ gl ∧ x ≠ gt ∧ x ≠ gm) : TX w' gd gb gl gt gm n first F bad D left dead :=
  ⟨⟨h.lx.dx.one o hx.1 hx.2.1, rowIs_one h.lx.lg o hx.2.2.1.symm, h.lx.fit⟩, rowIs_one h.tx o hx.2.2.2.1.symm, h.mp.keepAt (o.block _ h.mp.mp.lt (fun e => hx.2.2.2.2 (by cases e; rfl))), h.ok⟩
theorem TX.newOne (h : TX w gd gb gl gt gm n first F bad D left dead) {w0 : World} {x : Nat} (o : One w w' (some x)) (hb : w0.heap.size ≤ x) (h0 : gd < w0.heap.size ∧ gb < w0.heap.size ∧ gl < w0.heap.size ∧ gt < w0.heap.size ∧ gm < w0.heap.size) : TX w' gd gb gl gt gm n first F bad D left dead :=
  h.one o ⟨by omega, by omega, by omega, by omega, by omega⟩
def tset (gd gb gt gm : Nat) (k : Nat) : Prop := (k = gd ∨ k = gb) ∨ k = gt ∨ k = gm
theorem tset_d {k : Nat} : dset gd gb k → tset gd gb gt gm k := .inl

set_option maxRecDepth 10000 in
set_option maxHeartbeats 1000000 in
theorem txnGet_ok (h : TX w gd gb gl gt gm n first F bad D left dead) (k : Nat) (hk : k < n) :
    Calls Try.prog 26 #[.pointer (some ⟨gt, 0, none⟩), .int .i64 k] w fun e w' => e = .returned (.tuple #[pageV (viewB F D k), .int .i64 0]) ∧ TX w' gd gb gl gt gm n first F bad D left dead ∧ Chg (dset gd gb) w w' := by
  have hn := h.lx.dx.n
  obtain ⟨l, hl⟩ := key_int k (by omega)
  have HK := Lib.hid hl
  have HL := Lib.hid h.lt
  have H := Lib.hid h
  obtain ⟨vw, hvw⟩ : ∃ v, v = viewB F D k := ⟨_, rfl⟩
  rw [← hvw]
  have HV := Lib.hid hvw
  clear h hl hn hvw
  cases hfk : F (k : Int) with
  | none =>
    have HF := Lib.hid (show lkV pageV (pageV fun _ => 0) true (F (k : Int)) = .tuple #[pageV fun _ => 0, .bool false] by rw [hfk]; rfl)
    have HVD := Lib.hid (show vw = D k by rw [HV.out]; unfold viewB; rw [hfk]; rfl)
    clear hfk
    go_enter Try.func26, Try.ntmps26
    go_wp2_with (first
      | (refine wpList_new_row rfl 52 rfl (some 4) rfl 64 _ page_zero ?_; intro w1 G hG hr1 hb1; have HG := Lib.hid hG; have HR1 := Lib.hid hr1; have HB1 := Lib.hid hb1; have H1 := Lib.hid (H.out.keep hb1); have c0 := H1.out.c0; have c1 := H1.out.c1; clear hr1 hb1 hG)
      | (refine wpList_lookup_mk (by kernel_rfl) (some 17) rfl H1.out.mp.mp keyedInt kvI_inj Try.underlying141 page_z _ _ true rfl (by go_simp) (k : Int) (by go_simp; rfl) HK.out _ HF.out ?_)
      | (with_reducible refine wpList_stop (some 6) rfl ?_))
    refine Lib.hid ?_
    refine wpList_new_row rfl 52 rfl (some 6) rfl 64 _ page_zero ?_
    intro w2 G6 hg6 hr6 hb6
    have HR6 := Lib.hid hr6
    have HB2 := Lib.hid (bnext HB1.out hb6)
    have H2 := Lib.hid (H1.out.keep hb6)
    have HR2 := Lib.hid (rowIs_below HR1.out hb6)
    have HG6 := Lib.hid (Nat.le_trans HB1.out.size hg6)
    have HNE := Lib.hid (show G ≠ G6 from Nat.ne_of_lt (Nat.lt_of_lt_of_le HR1.out.lt hg6))
    clear hr6 hb6 hg6 c0 c1
    go_wp2_with (first
      | (refine wpList_row_store rfl 52 (.tmp 6) (.tmp 18) rfl rfl G6 64 _ (pgC fun _ => 0) (by go_simp) (by go_simp; rfl) HR6.out (fun _ _ => rfl) block_size ?_; intro w3 hr3 o3; have H3 := Lib.hid (H2.out.newOne o3 HG6.out HL.out); have HB3 := Lib.hid (bone HB2.out o3 HG6.out HB2.out.size); have HR3 := Lib.hid (rowIs_one HR2.out o3 HNE.out); have c0 := H3.out.c0; have c2 := H3.out.lx.c0; clear hr3 o3))
    refine (dxRead_ok H3.out.lx.dx k hk).mono ?_
    rintro e w4 ⟨rfl, hd4, hc4⟩
    rw [← HVD.out]
    have H4 := Lib.hid (H3.out.setD hc4 hd4)
    have HC4 := Lib.hid (((Chg.of_below (dset gd gb) HB3.out).trans hc4 (fun _ _ h => h)))
    have HR4 := Lib.hid (hc4.row HR3.out (fun e => by have := HL.out; have := HG.out; rcases e with e | e <;> omega))
    clear hd4 hc4 c0 c2
    go_wp2_with (first
      | (refine wpList_row_store rfl 52 (.tmp 4) (.tmp 31) rfl rfl G 64 _ (pgC vw) (by go_simp) (by go_simp; rfl) HR4.out (fun _ _ => rfl) block_size ?_; intro w5 hr5 o5))
    have hrun := run_load_row (P := Try.prog) hr5 _ block_under rfl block_size
    exact bodyPost_ret (v := .tuple #[pageV vw, .int .i64 0]) (by simp [results, Try.results26, Act.put, asAddr, hrun, pageV_eq]) rfl ⟨rfl, H4.out.newOne o5 HG.out HL.out, HC4.out.one o5 (.inr HG.out)⟩
  | some f =>
    have HF := Lib.hid (show lkV pageV (pageV fun _ => 0) true (F (k : Int)) = .tuple #[pageV f, .bool true] by rw [hfk]; rfl)
    have HVD := Lib.hid (show vw = f by rw [HV.out]; unfold viewB; rw [hfk]; rfl)
    clear hfk
    go_enter Try.func26, Try.ntmps26
    go_wp2_with (first
      | (refine wpList_new_row rfl 52 rfl (some 4) rfl 64 _ page_zero ?_; intro w1 G hG hr1 hb1; have HG := Lib.hid hG; have HR1 := Lib.hid hr1; have HB1 := Lib.hid hb1; have H1 := Lib.hid (H.out.keep hb1); have c0 := H1.out.c0; have c1 := H1.out.c1; clear hr1 hb1 hG)
      | (refine wpList_lookup_mk (by kernel_rfl) (some 17) rfl H1.out.mp.mp keyedInt kvI_inj Try.underlying141 page_z _ _ true rfl (by go_simp) (k : Int) (by go_simp; rfl) HK.out _ HF.out ?_)
      | (with_reducible refine wpList_stop (some 6) rfl ?_))
    refine Lib.hid ?_
    refine wpList_new_row rfl 52 rfl (some 6) rfl 64 _ page_zero ?_
    intro w2 G6 hg6 hr6 hb6
    have HR6 := Lib.hid hr6
    have HB2 := Lib.hid (bnext HB1.out hb6)
    have H2 := Lib.hid (H1.out.keep hb6)
    have HR2 := Lib.hid (rowIs_below HR1.out hb6)
    have HG6 := Lib.hid (Nat.le_trans HB1.out.size hg6)
    have HNE := Lib.hid (show G ≠ G6 from Nat.ne_of_lt (Nat.lt_of_lt_of_le HR1.out.lt hg6))
    clear hr6 hb6 hg6 c0 c1
    go_wp2_with (first
      | (refine wpList_row_store rfl 52 (.tmp 6) (.tmp 18) rfl rfl G6 64 _ (pgC f) (by go_simp) (by go_simp; rfl) HR6.out (fun _ _ => rfl) block_size ?_; intro w3 hr3 o3; have H3 := Lib.hid (H2.out.newOne o3 HG6.out HL.out); have HB3 := Lib.hid (bone HB2.out o3 HG6.out HB2.out.size); have HR3 := Lib.hid (rowIs_one HR2.out o3 HNE.out); have HR63 := Lib.hid hr3; clear hr3 o3)
      | (refine wpList_row_load (by kernel_rfl) 52 (.tmp 6) rfl (some 21) rfl G6 64 (pgC f) (by go_simp) HR63.out _ block_under rfl block_size ?_)
      | (refine wpList_row_store rfl 52 (.tmp 4) (.tmp 21) rfl rfl G 64 _ (pgC f) (by go_simp) (by go_simp) HR3.out (fun _ _ => rfl) block_size ?_; intro w5 hr5 o5; have H5 := Lib.hid (H3.out.newOne o5 HG.out HL.out); have HB5 := Lib.hid (bone HB3.out o5 HG.out HB3.out.size); have HR5 := Lib.hid hr5; clear hr5 o5))
    rw [HVD.out]
    have hrun := run_load_row (P := Try.prog) HR5.out _ block_under rfl block_size
    exact bodyPost_ret (v := .tuple #[pageV f, .int .i64 0]) (by simp [results, Try.results26, Act.put, asAddr, hrun, pageV_eq]) rfl ⟨rfl, H5.out, Chg.of_below _ HB5.out⟩
end
end Go.Proofs.Ytonfnlohbgbffaa
