/- The log: Open, Format, Begin; a transaction's Len, fail, Put. -/
import Derived.Test.YtonfnlohbgbffaaWalC
set_option linter.unusedVariables false
set_option linter.unusedSimpArgs false
namespace Go.Proofs.Ytonfnlohbgbffaa
open Go.RowKit
open Go.Maps (Keyed)

section
variable {w w' : World} {gd gb gl gt gm n first : Nat} {F : Int → Option (Nat → Nat)} {bad : Int} {D : Nat → Nat → Nat} {left : Int} {dead : Bool}
set_option maxRecDepth 10000 in
set_option maxHeartbeats 1000000 in
theorem walOpen_ok (h : DX w gd gb n D left dead) (first : Nat) (hf : first + 31 ≤ n) :
    Calls Try.prog 44 #[.pointer (some ⟨gd, 0, none⟩), .int .i64 first] w fun e w' => ∃ gl, e = .returned (.tuple #[.pointer (some ⟨gl, 0, none⟩), .int .i64 0]) ∧ LX w' gd gb gl n first D left dead ∧ w.heap.size ≤ gl ∧ Below w.heap.size w w' := by
  have H := Lib.hid h
  have hn := h.n
  have f1 : (first : Int) ≤ (n : Int) - 1 - 30 := by omega
  have f2 : ¬ (n : Int) - 1 - 30 < first := by omega
  clear h
  go_enter Try.func44, Try.ntmps44
  go_wp2_with (first
    | (go_at_call 72; refine (dxLen H.out).mono ?_; rintro e w2 ⟨rfl, rfl⟩))
  go_ret2
  refine ⟨_, rfl, ⟨H.out.keep (bnew _ _), ?_, hf⟩, Nat.le_refl _, bnew _ _⟩
  exact World.rowIs_alloc _ _ _ _ (fun i hi => by rcases i with _ | _ | i; rfl; rfl; simp at hi; omega)
set_option maxRecDepth 10000 in
set_option maxHeartbeats 1000000 in
theorem walOpen_no (h : DX w gd gb n D left dead) (x : Int) (hx : x < 0 ∨ (n : Int) < x + 31) :
    Calls Try.prog 44 #[.pointer (some ⟨gd, 0, none⟩), .int .i64 x] w fun e w' => e = .returned (.tuple #[.pointer none, .int .i64 27]) ∧ w' = w := by
  have H := Lib.hid h
  have hn := h.n
  clear h
  by_cases h0 : x < 0
  · clear hx
    go_enter Try.func44, Try.ntmps44
    go_wp2_with fail
    go_ret2
    exact ⟨rfl, rfl⟩
  · have f2 : (n : Int) - 1 - 30 < x := by omega
    clear hx
    go_enter Try.func44, Try.ntmps44
    go_wp2_with (first
      | (go_at_call 72; refine (dxLen H.out).mono ?_; rintro e w2 ⟨rfl, rfl⟩))
    go_ret2
    exact ⟨rfl, rfl⟩
set_option maxRecDepth 10000 in
set_option maxHeartbeats 1000000 in
theorem walBegin_ok (h : LX w gd gb gl n first D left dead) :
    Calls Try.prog 47 #[.pointer (some ⟨gl, 0, none⟩)] w fun e w' => ∃ gt gm, e = .returned (.pointer (some ⟨gt, 0, none⟩)) ∧ TX w' gd gb gl gt gm n first (fun _ => none) 0 D left dead ∧ w.heap.size ≤ gt ∧ w.heap.size ≤ gm ∧ Below w.heap.size w w' := by
  have H := Lib.hid h
  clear h
  have hmm := @run_makeMap Try.prog
  go_enter Try.func47, Try.ntmps47
  go_wp2_with fail
  go_ret
  have b1 := bnew w (.map #[] 0)
  have b2 := bnew (w.alloc (.map #[] 0)) (.cells #[.pointer (some ⟨gl, 0, none⟩), .map (some w.heap.size), .int .i64 0] 143)
  have b3 := bnewAfter b1 (.cells #[.pointer (some ⟨gl, 0, none⟩), .map (some w.heap.size), .int .i64 0] 143)
  refine ⟨w.heap.size + 1, w.heap.size, rfl, ⟨H.out.keep b3, ?_, ⟨(MK.made w).keep b2, (BN.made w).keep b2⟩, fun k f hf => by cases hf⟩, by omega, Nat.le_refl _, b3⟩
  have := World.rowIs_alloc (w.alloc (.map #[] 0)) #[.pointer (some ⟨gl, 0, none⟩), .map (some w.heap.size), .int .i64 0] 143 (txnF gl w.heap.size 0) (fun i hi => by rcases i with _ | _ | _ | i; rfl; rfl; rfl; simp at hi; omega)
  rw [show (w.alloc (.map #[] 0)).heap.size = w.heap.size + 1 by simp] at this
  exact this
theorem logCells (hr : w.rowIs gl 145 2 (logF gd first)) : w.cell? ⟨gl, 0, none⟩ = some (.pointer (some ⟨gd, 0, none⟩)) ∧ w.cell? ⟨gl, 1, none⟩ = some (.int .i64 first) := ⟨hr.cell (i := 0) (by omega), hr.cell (i := 1) (by omega)⟩
theorem head_nil (w : World) : Calls Try.prog 79 #[.slice none 0 0] w fun e w' => e = .returned (pageV (logB [])) ∧ Below w.heap.size w w' := walHead_in (L := []) (SI.nil w .i64) (by simp) (fun n hn => by cases hn)
theorem logB_u8 (L : List Nat) (i : Nat) : logB L i ≤ 255 := headTo_u8 _ _ _
set_option maxRecDepth 10000 in
set_option maxHeartbeats 1000000 in
theorem walFormat_with {R : World → Prop} {D' : Nat → Nat → Nat} {left' : Int} {dead' : Bool} {c : Int} (h : LX w gd gb gl n first D left dead)
    (hw : ∀ w', DX w' gd gb n D left dead → Below w.heap.size w w' → Calls Try.prog 52 #[.pointer (some ⟨gd, 0, none⟩), .int .i64 first, pageV (logB [])] w' fun e w2 => e = .returned (.int .i64 c) ∧ DX w2 gd gb n D' left' dead' ∧ R w2 ∧ Chg (dset gd gb) w' w2) :
    Calls Try.prog 45 #[.pointer (some ⟨gl, 0, none⟩)] w fun e w' => e = .returned (.int .i64 c) ∧ LX w' gd gb gl n first D' left' dead' ∧ R w' ∧ Chg (dset gd gb) w w' := by
  have H := Lib.hid h
  have HW := Lib.hid hw
  have hne := h.ne
  clear h hw
  go_enter Try.func45, Try.ntmps45
  go_wp2_with fail
  have HD := Lib.hid (H.out.keep (drewb w))
  have hS : (World.drew w).rowIs gl 145 2 (logF gd first) := HD.out.lg
  refine wp_region_held (S := fun w' => w'.rowIs gl 145 2 (logF gd first)) (by kernel_rfl) ?_
  change wpAnyH _ _ _ _ _ _ _ _ (World.drew _)
  refine takeH 0 (.pointer (some ⟨gl, 0, none⟩)) (some 5) rfl rfl (by kernel_rfl) (by kernel_rfl) (by kernel_rfl) (fun _ _ _ h => h) (.inl ⟨by kernel_rfl, fun w _ => by go_simp⟩) hS ?_
  refine takeH 1 (.pointer (some ⟨gl, 0, none⟩)) (some 6) rfl rfl (by kernel_rfl) (by kernel_rfl) (by kernel_rfl) (fun _ _ _ h => h) (.inl ⟨by kernel_rfl, fun w _ => by go_simp⟩) hS ?_
  refine takeH 2 (.pointer (some ⟨gl, 0, none⟩)) (some 7) rfl rfl (by kernel_rfl) (by kernel_rfl) (by kernel_rfl) (fun _ _ _ h => h) (.inl ⟨by kernel_rfl, fun w _ => by go_simp⟩) hS ?_
  refine takeH 3 (.pointer (some ⟨gd, 0, none⟩)) (some 8) rfl rfl (by kernel_rfl) (by kernel_rfl) (by kernel_rfl) (fun _ _ _ h => h) (.inl ⟨by kernel_rfl, fun w hw => by have hc := (logCells hw).1; go_simp⟩) hS ?_
  refine takeH 4 (.pointer (some ⟨gl, 0, none⟩)) (some 9) rfl rfl (by kernel_rfl) (by kernel_rfl) (by kernel_rfl) (fun _ _ _ h => h) (.inl ⟨by kernel_rfl, fun w _ => by go_simp⟩) hS ?_
  refine takeH 5 (.pointer (some ⟨gl, 0, none⟩)) (some 10) rfl rfl (by kernel_rfl) (by kernel_rfl) (by kernel_rfl) (fun _ _ _ h => h) (.inl ⟨by kernel_rfl, fun w _ => by go_simp⟩) hS ?_
  refine takeH 6 (.pointer (some ⟨gl, 1, none⟩)) (some 11) rfl rfl (by kernel_rfl) (by kernel_rfl) (by kernel_rfl) (fun _ _ _ h => h) (.inl ⟨by kernel_rfl, fun w _ => by go_simp⟩) hS ?_
  refine takeH 7 (.int .i64 first) (some 12) rfl rfl (by kernel_rfl) (by kernel_rfl) (by kernel_rfl) (fun _ _ _ h => h) (.inl ⟨by kernel_rfl, fun w hw => by have hc := (logCells hw).2; go_simp⟩) hS ?_
  refine callH 8 rfl (by kernel_rfl) (by kernel_rfl) (some 13) rfl 79 #[.slice none 0 0] ?hrun ((head_nil _).mono ?_)
  case hrun => go_simp
  rintro e w2 ⟨rfl, hb2⟩
  have HL2 := Lib.hid (HD.out.keep hb2)
  have HB2 := Lib.hid ((drewb w).trans (hb2.mono (drewb w).size))
  clear hS hb2
  have hS := HL2.out.lg
  refine ⟨_, rfl, hS, ?_⟩
  go_simp
  refine callH 9 rfl (by kernel_rfl) (by kernel_rfl) (some 14) rfl 52 #[.pointer (some ⟨gd, 0, none⟩), .int .i64 first, pageV (logB [])] ?hrun2 ((HW.out _ HL2.out.dx HB2.out).mono ?_)
  case hrun2 => go_simp
  rintro e w3 ⟨rfl, hd3, hr3, hc3⟩
  have HR3 := Lib.hid hr3
  have HL3 := Lib.hid (HL2.out.setD hc3 hd3)
  have HC3 := Lib.hid ((Chg.of_below (dset gd gb) HB2.out).trans hc3 (fun _ _ h => h))
  clear hS hd3 hr3 hc3
  have hS := HL3.out.lg
  refine ⟨_, rfl, hS, ?_⟩
  refine takeH 10 (.int .i64 c) (some 2) rfl rfl (by kernel_rfl) (by kernel_rfl) (by kernel_rfl) (fun _ _ _ h => h) (.inl ⟨by kernel_rfl, fun w _ => by go_simp⟩) hS ?_
  refine wpAnyH_done (by kernel_rfl) ?_ _
  go_simp
  go_wp2_with fail
  go_ret
  exact ⟨rfl, HL3.out, HR3.out, HC3.out⟩
theorem walFormat_by {D' : Nat → Nat → Nat} {left' : Int} {dead' : Bool} {c : Int} (h : LX w gd gb gl n first D left dead)
    (hw : ∀ w, DX w gd gb n D left dead → Calls Try.prog 52 #[.pointer (some ⟨gd, 0, none⟩), .int .i64 first, pageV (logB [])] w fun e w' => e = .returned (.int .i64 c) ∧ DX w' gd gb n D' left' dead' ∧ Chg (dset gd gb) w w') :
    Calls Try.prog 45 #[.pointer (some ⟨gl, 0, none⟩)] w fun e w' => e = .returned (.int .i64 c) ∧ LX w' gd gb gl n first D' left' dead' ∧ Chg (dset gd gb) w w' := by
  have h2 := walFormat_with (D' := D') (left' := left') (dead' := dead') (c := c) (R := fun _ => True) h (fun w2 hx _ => (hw w2 hx).mono (fun e w' h => ⟨h.1, h.2.1, trivial, h.2.2⟩))
  exact h2.mono (fun e w' h => ⟨h.1, h.2.1, h.2.2.2⟩)
theorem walFormat_ok (h : LX w gd gb gl n first D left dead) (hd : dead = false) (hl : left ≠ 0) :
    Calls Try.prog 45 #[.pointer (some ⟨gl, 0, none⟩)] w fun e w' => e = .returned (.int .i64 0) ∧ LX w' gd gb gl n first (setBlk D first (logB [])) (if 0 < left then left - 1 else left) false ∧ Chg (dset gd gb) w w' :=
  walFormat_by h (fun w hx => dxWrite_ok hx first (by have := h.fit; omega) hd hl (logB_u8 _))
theorem walFormat_no (h : LX w gd gb gl n first D left dead) (hd : dead = true ∨ left = 0) :
    Calls Try.prog 45 #[.pointer (some ⟨gl, 0, none⟩)] w fun e w' => e = .returned (.int .i64 24) ∧ LX w' gd gb gl n first D left true ∧ Chg (dset gd gb) w w' :=
  walFormat_by h (fun w hx => dxWrite_no hx first (by have := h.fit; omega) hd (logB []))
set_option maxRecDepth 10000 in
set_option maxHeartbeats 1000000 in
theorem txnLen_ok (h : TX w gd gb gl gt gm n first F bad D left dead) :
    Calls Try.prog 33 #[.pointer (some ⟨gt, 0, none⟩)] w fun e w' => e = .returned (.int .i64 (mapN w gm)) ∧ w' = w := by
  have c1 := h.c1
  have H := Lib.hid h
  obtain ⟨N, hN⟩ : ∃ N, N = mapN w gm := ⟨_, rfl⟩
  have HN := Lib.hid hN
  rw [← hN]
  clear h hN
  go_enter Try.func33, Try.ntmps33
  go_wp2_with (first
    | (refine wpList_by (v := .int .i64 N) (by kernel_rfl) (some 9) rfl (by rw [HN.out]; exact H.out.mp.mp.exec_len Try.underlying141 (.tmp 8) rfl (by go_simp)) ?_))
  go_ret
  exact ⟨rfl, rfl⟩
set_option maxRecDepth 10000 in
set_option maxHeartbeats 1000000 in
/-- What goes wrong first is kept. -/
def badB (bad e : Int) : Int := if bad = 0 then e else bad
theorem txnFail_ok (h : TX w gd gb gl gt gm n first F bad D left dead) (c : Int) :
    Calls Try.prog 73 #[.pointer (some ⟨gt, 0, none⟩), .int .i64 c] w fun e w' => e = .returned (.int .i64 c) ∧ TX w' gd gb gl gt gm n first F (badB bad c) D left dead ∧ One w w' (some gt) := by
  have c2 := h.c2
  have H := Lib.hid h
  have df := h.tx.frozen
  clear h
  by_cases hb : bad = 0
  · have f1 : (bad == 0) = true := by rw [beq_iff_eq]; exact hb
    have HX := Lib.hid (show badB bad c = c from if_pos hb)
    clear hb
    go_enter Try.func73, Try.ntmps73
    go_wp2_with fail
    go_ret
    rw [HX.out]
    exact ⟨rfl, H.out.setBad c, one_setCell w gt 2 _⟩
  · have f1 : (bad == 0) = false := by rw [beq_eq_false_iff_ne]; exact hb
    have HX := Lib.hid (show badB bad c = bad from if_neg hb)
    clear hb
    go_enter Try.func73, Try.ntmps73
    go_wp2_with fail
    go_ret
    rw [HX.out]
    exact ⟨rfl, H.out, One.refl _ _⟩
end
end Go.Proofs.Ytonfnlohbgbffaa
