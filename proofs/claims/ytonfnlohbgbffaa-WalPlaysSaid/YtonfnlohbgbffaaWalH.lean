/- The log: install. -/
import Derived.Test.YtonfnlohbgbffaaWalG
import Derived.Test.YtonfnlohbgbffaaCal
set_option linter.unusedVariables false
set_option linter.unusedSimpArgs false
namespace Go.Proofs.Ytonfnlohbgbffaa
open Go.RowKit
open Go.Maps (Keyed)

section
variable {P : Program} {ops : Array Oper} {Q : Exit → Act → World → Prop} {md : Region.Mode} {oi : Oper} {fuel : Nat} {listed : Array Bool} {a : Act} {w : World} {S : World → Prop}
theorem storeRowY (i : Nat) (hi : ops[i]? = some oi) (hw : Region.wanted oi (yielded ops a.tmps) = true) (hr : Region.ready md ops listed = [i]) (hd : oi.dst = none) (T : TypeId) (x y : Operand) (ho : oi.op = .store T x y)
    (G n : Nat) (C D : Nat → Value) (hx : a.eval x = .pointer (some ⟨G, 0, none⟩)) (hy : a.eval y = .agg (rowArr n D)) (hrow : w.rowIs G T n C) (h1 : ∀ i, i < n → (D i).oneCell' = true) (hz : (P.info? T).map (·.size) = some n)
    (hk : ∀ w', w'.rowIs G T n D → One w w' (some G) → S w' ∧ wpAnyH P md ops Q S fuel (listed.setIfInBounds i true) a w') : wpAnyH P md ops Q S (fuel + 1) listed a w :=
  storeWholeH i hi hw hr hd T x y ho (rowArr n D) (rowArr n C) T hx hy (by rw [rowArr_size]; exact hz) (rowIs_arr hrow) (by rw [rowArr_size, rowArr_size])
    (fun v hv => by
      obtain ⟨i, hi⟩ := List.mem_iff_getElem?.1 hv
      obtain ⟨h2, rfl⟩ := rowArr_get _ _ _ _ hi
      exact h1 i h2) (fun w' hb o => hk w' (rowIs_of_arr hb) o)
end
/-! ### A disk that may stop -/
structure DSt where
  D : Nat → Nat → Nat
  left : Int
  dead : Bool
  c : Int
def DSt.up (s : DSt) : Bool := !s.dead && decide (s.left ≠ 0)
def DSt.put (s : DSt) (k : Nat) (f : Nat → Nat) : DSt := if s.up = true then ⟨setBlk s.D k f, if 0 < s.left then s.left - 1 else s.left, false, wrap64 (s.c + 1)⟩ else ⟨s.D, s.left, true, s.c⟩
def DSt.code (s : DSt) : Int := if s.up = true then 0 else 24
/-- A disk with its count of writes. -/
structure DXs (w : World) (gd gb n : Nat) (s : DSt) : Prop extends DX w gd gb n s.D s.left s.dead where
  cn : w.cell? ⟨gd, 3, none⟩ = some (.int .i64 s.c)
structure LXs (w : World) (gd gb gl n first : Nat) (s : DSt) : Prop extends LX w gd gb gl n first s.D s.left s.dead where
  cn : w.cell? ⟨gd, 3, none⟩ = some (.int .i64 s.c)
structure TXs (w : World) (gd gb gl gt gm n first : Nat) (F : Int → Option (Nat → Nat)) (bad : Int) (s : DSt) : Prop extends TX w gd gb gl gt gm n first F bad s.D s.left s.dead where
  cn : w.cell? ⟨gd, 3, none⟩ = some (.int .i64 s.c)
theorem cell_keep {w w' : World} {g j : Nat} {v : Value} (h : w.cell? ⟨g, j, none⟩ = some v) (hk : w'.heap[g]? = w.heap[g]?) : w'.cell? ⟨g, j, none⟩ = some v := (World.cell?_of_block (a := ⟨g, j, none⟩) hk).trans h
section
variable {w w' : World} {gd gb gl gt gm n first : Nat} {F : Int → Option (Nat → Nat)} {bad : Int} {s s' : DSt}
theorem DXs.keep (h : DXs w gd gb n s) (hb : Below w.heap.size w w') : DXs w' gd gb n s := ⟨h.toDX.keep hb, cell_keep h.cn (hb.block _ h.toDX.lt.1)⟩
theorem LXs.dxs (h : LXs w gd gb gl n first s) : DXs w gd gb n s := ⟨h.dx, h.cn⟩
theorem LXs.keep (h : LXs w gd gb gl n first s) (hb : Below w.heap.size w w') : LXs w' gd gb gl n first s := ⟨h.toLX.keep hb, cell_keep h.cn (hb.block _ h.dx.lt.1)⟩
theorem LXs.setD (h : LXs w gd gb gl n first s) (c : Chg (dset gd gb) w w') (hd : DXs w' gd gb n s') : LXs w' gd gb gl n first s' := ⟨h.toLX.setD c hd.toDX, hd.cn⟩
theorem TXs.lxs (h : TXs w gd gb gl gt gm n first F bad s) : LXs w gd gb gl n first s := ⟨h.lx, h.cn⟩
theorem TXs.keep (h : TXs w gd gb gl gt gm n first F bad s) (hb : Below w.heap.size w w') : TXs w' gd gb gl gt gm n first F bad s := ⟨h.toTX.keep hb, cell_keep h.cn (hb.block _ h.lx.dx.lt.1)⟩
theorem TXs.setD (h : TXs w gd gb gl gt gm n first F bad s) (c : Chg (dset gd gb) w w') (hd : DXs w' gd gb n s') : TXs w' gd gb gl gt gm n first F bad s' := ⟨h.toTX.setD c hd.toDX, hd.cn⟩
/-- A call that leaves the disk alone. -/
theorem TXs.same {F' : Int → Option (Nat → Nat)} {bad' : Int} {S : Nat → Prop} (h : TXs w gd gb gl gt gm n first F bad s) (hx : TX w' gd gb gl gt gm n first F' bad' s.D s.left s.dead) (c : Chg S w w') (hS : ¬ S gd) : TXs w' gd gb gl gt gm n first F' bad' s := ⟨hx, cell_keep h.cn (c.block _ h.lx.dx.lt.1 hS)⟩
theorem dxGet (h : DXs w gd gb n s) (k : Nat) (hk : k < n) :
    Calls Try.prog 69 #[.pointer (some ⟨gd, 0, none⟩), .int .i64 k] w fun e w' => e = .returned (.tuple #[pageV (s.D k), .int .i64 0]) ∧ DXs w' gd gb n s ∧ Chg (dset gd gb) w w' := by
  obtain ⟨x, y, hd⟩ := h.dk
  have hx : (Value.int .i64 x) = .int .i64 s.c := Option.some.inj (hd.c3.symm.trans h.cn)
  injection hx with _ hx
  subst hx
  refine (diskRead_any hd h.n k hk).mono ?_
  rintro e w' ⟨rfl, ⟨r, h1⟩, h2⟩
  rw [diskC_block]
  exact ⟨rfl, ⟨⟨⟨_, _, h1⟩, h.u8, h.n, h.l0, h.l1⟩, h1.c3⟩, h2.chg⟩
theorem dxPut (h : DXs w gd gb n s) (k : Nat) (hk : k < n) {f : Nat → Nat} (hf : ∀ i, f i ≤ 255) :
    Calls Try.prog 52 #[.pointer (some ⟨gd, 0, none⟩), .int .i64 k, pageV f] w fun e w' => e = .returned (.int .i64 s.code) ∧ DXs w' gd gb n (s.put k f) ∧ Chg (dset gd gb) w w' := by
  obtain ⟨x, y, hdk⟩ := h.dk
  have hx : (Value.int .i64 x) = .int .i64 s.c := Option.some.inj (hdk.c3.symm.trans h.cn)
  injection hx with _ hx
  subst hx
  unfold DSt.put DSt.code
  by_cases hu : s.up = true
  · rw [if_pos hu, if_pos hu]
    unfold DSt.up at hu
    simp only [Bool.and_eq_true, Bool.not_eq_true', decide_eq_true_eq] at hu
    refine (diskWrite_any hdk h.l0 h.l1 h.n k hk hu.1 hu.2 (pgC f) (pgC_u8 hf)).mono ?_
    rintro e w' ⟨rfl, h1, h2⟩
    rw [diskC_set] at h1
    have h3 := h.l0
    have h4 := h.l1
    exact ⟨rfl, ⟨⟨⟨_, _, h1⟩, setBlk_u8 h.u8 hf, h.n, by show -1 ≤ (if 0 < s.left then s.left - 1 else s.left); split <;> omega, by show (if 0 < s.left then s.left - 1 else s.left) ≤ _; split <;> omega⟩, h1.c3⟩, h2.chg⟩
  · rw [if_neg hu, if_neg hu]
    unfold DSt.up at hu
    refine (diskWrite_no hdk k hk ?_ (pgC f)).mono ?_
    · by_cases hd : s.dead = true
      · exact .inl hd
      · right
        simp only [Bool.not_eq_true] at hd
        simpa [hd] using hu
    · rintro e w' ⟨rfl, h1, h2⟩
      exact ⟨rfl, ⟨⟨⟨_, _, h1⟩, h.u8, h.n, h.l0, h.l1⟩, h1.c3⟩, h2.chg⟩
theorem lxFormat (h : LXs w gd gb gl n first s) :
    Calls Try.prog 45 #[.pointer (some ⟨gl, 0, none⟩)] w fun e w' => e = .returned (.int .i64 s.code) ∧ LXs w' gd gb gl n first (s.put first (logB [])) ∧ Chg (dset gd gb) w w' := by
  have h2 := walFormat_with (D' := (s.put first (logB [])).D) (left' := (s.put first (logB [])).left) (dead' := (s.put first (logB [])).dead) (c := s.code) (R := fun w' => w'.cell? ⟨gd, 3, none⟩ = some (.int .i64 (s.put first (logB [])).c)) h.toLX
    (fun w2 hx hb => (dxPut (s := s) ⟨hx, cell_keep h.cn (hb.block _ h.dx.lt.1)⟩ first (by have := h.fit; omega) (logB_u8 _)).mono (fun e w' h => ⟨h.1, h.2.1.toDX, h.2.1.cn, h.2.2⟩))
  exact h2.mono (fun e w' h => ⟨h.1, ⟨h.2.1, h.2.2.1⟩, h.2.2.2⟩)
theorem LXs.one (h : LXs w gd gb gl n first s) {x : Nat} (o : One w w' (some x)) (hx : x ≠ gd ∧ x ≠ gb ∧ x ≠ gl) : LXs w' gd gb gl n first s :=
  ⟨⟨h.dx.one o hx.1 hx.2.1, rowIs_one h.lg o hx.2.2.symm, h.fit⟩, cell_keep h.cn (o.block _ h.dx.lt.1 (fun e => hx.1 (by cases e; rfl)))⟩
theorem LX.lt {D : Nat → Nat → Nat} {left : Int} {dead : Bool} (h : LX w gd gb gl n first D left dead) : gd < w.heap.size ∧ gb < w.heap.size ∧ gl < w.heap.size := ⟨h.dx.lt.1, h.dx.lt.2, h.lg.lt⟩
theorem LX.notD {D : Nat → Nat → Nat} {left : Int} {dead : Bool} (h : LX w gd gb gl n first D left dead) : ¬ dset gd gb gl := fun e => by rcases e with e | e; exact h.ne.1 e; exact h.ne.2 e

/-! ### install -/
/-- The blocks behind the head go to their places. -/
def inst (first : Nat) : List Nat → Nat → DSt → DSt × Int
  | [], _, s => (s, 0)
  | k :: L, i, s => if s.up = true then inst first L (i + 1) (s.put k (s.D (first + 1 + i))) else (s.put k (s.D (first + 1 + i)), 24)
def install (first : Nat) (L : List Nat) (s : DSt) : DSt × Int :=
  if L = [] then (s, 0) else if (inst first L 0 s).2 = 0 then ((inst first L 0 s).1.put first (logB []), (inst first L 0 s).1.code) else inst first L 0 s
set_option maxRecDepth 20000 in
set_option maxHeartbeats 4000000 in
theorem walInstall {v : Value} {L : List Nat} (h : LXs w gd gb gl n first s) (hv : SI w .i64 v (natInts L)) (hl : L.length ≤ 30) (hL : ∀ k ∈ L, k < n) (hvo : ∀ x, v.ownBlock = some x → ¬ dset gd gb x) :
    Calls Try.prog 80 #[.pointer (some ⟨gl, 0, none⟩), v] w fun e w' => e = .returned (.int .i64 (install first L s).2) ∧ LXs w' gd gb gl n first (install first L s).1 ∧ Chg (dset gd gb) w w' := by
  have hn := h.dx.n
  have hfit := h.fit
  have hlen := natInts_len L
  obtain ⟨A1, cap1, hform, hlc, hcm⟩ := hv.sr.form
  subst hform
  have HX0 := Lib.hid h
  have HV := Lib.hid hv
  have HVO := Lib.hid hvo
  have HL := Lib.hid hL
  obtain ⟨res, hres⟩ : ∃ r, r = inst first L 0 s := ⟨_, rfl⟩
  have HRES := Lib.hid hres
  have HIN := Lib.hid (show install first L s = if L = [] then (s, 0) else if res.2 = 0 then (res.1.put first (logB []), res.1.code) else res by rw [hres]; rfl)
  clear h hv hvo hL hres
  rw [hlen] at hlc ⊢
  go_enter Try.func80, Try.ntmps80
  go_wp2_with fail
  go_loopw [12] (fun r wx => ∃ (i : Nat) (t : DSt), i ≤ L.length ∧ r = .int .i64 i ∧ LXs wx gd gb gl n first t ∧ Chg (dset gd gb) w wx ∧ inst first (L.drop i) i t = res) (fun r _ => L.length - (intOf r).toNat)
  case atStart => exact ⟨0, s, by omega, rfl, HX0.out, Chg.of_below _ (Below.refl _ _), HRES.out.symm⟩
  case round =>
    obtain ⟨i, t, hi, rfl, hx, hcg, hin⟩ := hrel
    have HX := Lib.hid hx
    have HCG := Lib.hid hcg
    have HIN2 := Lib.hid hin
    clear hx hcg hin
    by_cases hil : i < L.length
    · have g1 : (i : Int) < L.length := by omega
      obtain ⟨q, hq⟩ : ∃ q, q = L.getD i 0 := ⟨_, rfl⟩
      have hqn : q < n := by
        rw [hq, List.getD_eq_getElem?_getD, List.getElem?_eq_getElem hil]
        exact HL.out _ (List.getElem_mem hil)
      have hdrop : L.drop i = q :: L.drop (i + 1) := by
        rw [hq, List.getD_eq_getElem?_getD, List.getElem?_eq_getElem hil]
        exact List.drop_eq_getElem_cons hil
      have HDR := Lib.hid hdrop
      obtain ⟨g0, off, hA, hcz⟩ : ∃ g0 off, A1 = some ⟨g0, off, none⟩ ∧ wr.cell? ⟨g0, off + i, none⟩ = some (.int .i64 q) := by
        rcases HV.out.cases with ⟨h, _⟩ | ⟨_, g0, off, c1, hs, _, _, hg, hc⟩
        · rw [h] at hlen; simp at hlen; omega
        have hcz := hc i (by rw [hlen]; exact hil)
        injection hs with e1 e2 e3
        refine ⟨g0, off, e1, ?_⟩
        rw [World.cell?_of_block (HCG.out.block g0 hg (HVO.out g0 (by rw [e1]; rfl))), hcz, hq]
        unfold natInts
        simp [List.getD_eq_getElem?_getD, List.getElem?_eq_getElem hil]
      subst hA
      clear hq hdrop
      obtain ⟨p, hp⟩ : ∃ p, p = first + 1 + i := ⟨_, rfl⟩
      have hpn : p < n := by omega
      have k1 : (first : Int) + 1 = ((first + 1 : Nat) : Int) := by omega
      have k2 : ((first + 1 : Nat) : Int) + (i : Int) = (p : Int) := by omega
      obtain ⟨f1, hf1⟩ : ∃ f1, f1 = first + 1 := ⟨_, rfl⟩
      rw [← hf1] at k1 k2
      have kb : f1 ≤ 70000 ∧ p ≤ 70000 ∧ first ≤ 70000 := by omega
      obtain ⟨kb1, kb2, kb3⟩ := kb
      have wr1 : IntKind.i64.wrap (f1 : Int) = f1 := by simp [IntKind.wrap, IntKind.bits, IntKind.signed]; omega
      have wr2 : IntKind.i64.wrap (p : Int) = p := by simp [IntKind.wrap, IntKind.bits, IntKind.signed]; omega
      have HP := Lib.hid hp
      clear hp hf1
      obtain ⟨f, hf⟩ : ∃ f, f = t.D p := ⟨_, rfl⟩
      have HF := Lib.hid hf
      have HU8 := Lib.hid (show ∀ i, f i ≤ 255 from fun i => by rw [hf]; exact HX.out.dx.u8 p i)
      clear hf
      go_upto_region 4 with fail
      go_cut [7, 8] (fun sp se wx => ∃ M, sp = .pointer (some ⟨M, 0, none⟩) ∧ se = .int .i64 0 ∧ wr.heap.size ≤ M ∧ wx.rowIs M 52 64 (pgC f) ∧ LXs wx gd gb gl n first t ∧ Chg (dset gd gb) wr wx)
      case first =>
        have HC := Lib.hid (show ∀ w', Chg (dset gd gb) wr w' → w'.cell? ⟨gl, 0, none⟩ = some (.pointer (some ⟨gd, 0, none⟩)) ∧ w'.cell? ⟨gl, 1, none⟩ = some (.int .i64 first) from fun w' hc => logCells (hc.row HX.out.lg HX.out.notD))
        have HGET := Lib.hid (show ∀ w', Below wr.heap.size wr w' → Calls Try.prog 69 #[.pointer (some ⟨gd, 0, none⟩), .int .i64 p] w' fun e w2 => e = .returned (.tuple #[pageV f, .int .i64 0]) ∧ DXs w2 gd gb n t ∧ Chg (dset gd gb) w' w2 from fun w' hb => by rw [HF.out]; exact dxGet (HX.out.keep hb).dxs p hpn)
        have hS : Chg (dset gd gb) wr (World.drew wr) := Chg.of_below _ (drewb wr)
        refine wp_region_held (S := Chg (dset gd gb) wr) (by kernel_rfl) ?_
        change wpAnyH _ _ _ _ _ _ _ _ (World.drew _)
        refine takeH 0 (.pointer (some ⟨gl, 0, none⟩)) (some 18) rfl rfl (by kernel_rfl) (by kernel_rfl) (by kernel_rfl) (fun _ _ _ h => h) (.inl ⟨by kernel_rfl, fun w _ => by go_simp⟩) hS ?_
        refine takeH 1 (.pointer (some ⟨gl, 0, none⟩)) (some 19) rfl rfl (by kernel_rfl) (by kernel_rfl) (by kernel_rfl) (fun _ _ _ h => h) (.inl ⟨by kernel_rfl, fun w _ => by go_simp⟩) hS ?_
        refine takeH 2 (.pointer (some ⟨gl, 0, none⟩)) (some 20) rfl rfl (by kernel_rfl) (by kernel_rfl) (by kernel_rfl) (fun _ _ _ h => h) (.inl ⟨by kernel_rfl, fun w _ => by go_simp⟩) hS ?_
        refine takeH 3 (.pointer (some ⟨gd, 0, none⟩)) (some 21) rfl rfl (by kernel_rfl) (by kernel_rfl) (by kernel_rfl) (fun _ _ _ h => h) (.inl ⟨by kernel_rfl, fun w hw => by have hc := (HC.out w hw).1; go_simp⟩) hS ?_
        refine takeH 4 (.pointer (some ⟨gl, 0, none⟩)) (some 22) rfl rfl (by kernel_rfl) (by kernel_rfl) (by kernel_rfl) (fun _ _ _ h => h) (.inl ⟨by kernel_rfl, fun w _ => by go_simp⟩) hS ?_
        refine takeH 5 (.pointer (some ⟨gl, 0, none⟩)) (some 23) rfl rfl (by kernel_rfl) (by kernel_rfl) (by kernel_rfl) (fun _ _ _ h => h) (.inl ⟨by kernel_rfl, fun w _ => by go_simp⟩) hS ?_
        refine takeH 6 (.pointer (some ⟨gl, 1, none⟩)) (some 24) rfl rfl (by kernel_rfl) (by kernel_rfl) (by kernel_rfl) (fun _ _ _ h => h) (.inl ⟨by kernel_rfl, fun w _ => by go_simp⟩) hS ?_
        refine takeH 7 (.int .i64 first) (some 25) rfl rfl (by kernel_rfl) (by kernel_rfl) (by kernel_rfl) (fun _ _ _ h => h) (.inl ⟨by kernel_rfl, fun w hw => by have hc := (HC.out w hw).2; go_simp⟩) hS ?_
        refine takeH 8 (.int .i64 f1) (some 26) rfl rfl (by kernel_rfl) (by kernel_rfl) (by kernel_rfl) (fun _ _ _ h => h) (.inl ⟨by kernel_rfl, fun w _ => by go_simp⟩) hS ?_
        refine takeH 9 (.int .i64 i) (some 27) rfl rfl (by kernel_rfl) (by kernel_rfl) (by kernel_rfl) (fun _ _ _ h => h) (.inl ⟨by kernel_rfl, fun w _ => by go_simp⟩) hS ?_
        refine takeH 10 (.int .i64 p) (some 28) rfl rfl (by kernel_rfl) (by kernel_rfl) (by kernel_rfl) (fun _ _ _ h => h) (.inl ⟨by kernel_rfl, fun w _ => by go_simp⟩) hS ?_
        go_simp
        have hSB : Chg (dset gd gb) wr ((World.drew wr).alloc (.cells (Value.agg (rowArr 64 (pgC fun _ => 0))).cells 52)) := hS.next (bnew _ _)
        refine callAlloc 11 15 rfl rfl rfl rfl (by kernel_rfl) (by kernel_rfl) 29 7 rfl rfl 69 #[.pointer (some ⟨gd, 0, none⟩), .int .i64 p] 52 rfl (.agg (rowArr 64 (pgC fun _ => 0))) page_zero (by go_simp; try rfl) (fun _ w' => by go_simp; try rfl) ((HGET.out _ (drewb wr)).mono ?_) hSB (fun M hM0 => (HGET.out _ (bnewAfter (drewb wr) _)).mono ?_) (by decide) (by decide)
        · rintro e wT ⟨he, hT, hD⟩
          have hS1 : Chg (dset gd gb) wr wT := hS.trans hD (fun k _ h => h)
          refine ⟨_, he, hS1, ?_⟩
          clear he
          refine takeH 12 (.tuple #[pageV f, .int .i64 0]) (some 17) rfl rfl (by kernel_rfl) (by kernel_rfl) (by kernel_rfl) (fun _ _ _ h => h) (.inl ⟨by kernel_rfl, fun w _ => by go_simp⟩) hS1 ?_
          refine takeH 13 (pageV f) (some 30) rfl rfl (by kernel_rfl) (by kernel_rfl) (by kernel_rfl) (fun _ _ _ h => h) (.inl ⟨by kernel_rfl, fun w _ => by go_simp⟩) hS1 ?_
          refine takeH 14 (.int .i64 0) (some 31) rfl rfl (by kernel_rfl) (by kernel_rfl) (by kernel_rfl) (fun _ _ _ h => h) (.inl ⟨by kernel_rfl, fun w _ => by go_simp⟩) hS1 ?_
          refine runH 15 _ (some 7) rfl (by kernel_rfl) (by kernel_rfl) rfl (exec_alloc 52 rfl (.agg (rowArr 64 (pgC fun _ => 0))) page_zero) (hS1.next (bnew _ _)) ?_
          have hm := rowIs_of_arr (heap_alloc_last wT (.cells (rowArr 64 (pgC fun _ => 0)) 52))
          have hS2 := hS1.next (bnew wT (.cells (rowArr 64 (pgC fun _ => 0)) 52))
          have hM : wr.heap.size ≤ wT.heap.size := hS1.size
          have hT2 := ((HX.out.keep (drewb wr)).setD hD hT).keep (bnew wT (.cells (rowArr 64 (pgC fun _ => 0)) 52))
          refine storeRowY 16 rfl (by kernel_rfl) (by kernel_rfl) rfl 52 _ _ rfl wT.heap.size 64 _ (pgC f) (by go_simp; try rfl) (by go_simp; try rfl) hm (fun _ _ => rfl) block_size (fun w3 h3 o3 => ?_)
          have hS3 : Chg (dset gd gb) wr w3 := hS2.one o3 (.inr hM)
          refine ⟨hS3, ?_⟩
          refine takeH 17 (.int .i64 0) (some 8) rfl rfl (by kernel_rfl) (by kernel_rfl) (by kernel_rfl) (fun _ _ _ h => h) (.inl ⟨by kernel_rfl, fun w _ => by go_simp⟩) hS3 ?_
          refine wpAnyH_done (by kernel_rfl) ?_ _
          go_simp
          go_wp2_with fail
          go_meet
          exact ⟨_, rfl, rfl, hM, h3, hT2.one o3 (by have := HX.out.lt; omega), hS3⟩
        · rintro e wT ⟨he, hT, hD⟩
          have hS1 : Chg (dset gd gb) wr wT := hSB.trans hD (fun k _ h => h)
          refine ⟨_, he, hS1, fun fl hfl => ?_⟩
          obtain rfl : fl = 5 := by simpa using hfl
          clear hfl he
          refine takeH 12 (.tuple #[pageV f, .int .i64 0]) (some 17) rfl rfl (by kernel_rfl) (by kernel_rfl) (by kernel_rfl) (fun _ _ _ h => h) (.inl ⟨by kernel_rfl, fun w _ => by go_simp⟩) hS1 ?_
          refine takeH 13 (pageV f) (some 30) rfl rfl (by kernel_rfl) (by kernel_rfl) (by kernel_rfl) (fun _ _ _ h => h) (.inl ⟨by kernel_rfl, fun w _ => by go_simp⟩) hS1 ?_
          refine takeH 14 (.int .i64 0) (some 31) rfl rfl (by kernel_rfl) (by kernel_rfl) (by kernel_rfl) (fun _ _ _ h => h) (.inl ⟨by kernel_rfl, fun w _ => by go_simp⟩) hS1 ?_
          have HM1 := Lib.hid (show M = wr.heap.size from hM0)
          clear hM0
          have hm := hD.row (rowIs_of_arr (heap_alloc_last (World.drew wr) (.cells (rowArr 64 (pgC fun _ => 0)) 52))) (fun e => by have h1 := HX.out.lt; have h3 : (World.drew wr).heap.size = wr.heap.size := rfl; rcases e with e | e <;> omega)
          rw [show (World.drew wr).heap.size = M from HM1.out.symm] at hm
          have hS2 := hS1
          have hM : wr.heap.size ≤ M := Nat.le_of_eq HM1.out.symm
          have hT2 := (HX.out.keep (bnewAfter (drewb wr) (.cells (rowArr 64 (pgC fun _ => 0)) 52))).setD hD hT
          refine storeRowY 16 rfl (by kernel_rfl) (by kernel_rfl) rfl 52 _ _ rfl M 64 _ (pgC f) (by go_simp; try rfl) (by go_simp; try rfl) hm (fun _ _ => rfl) block_size (fun w3 h3 o3 => ?_)
          have hS3 : Chg (dset gd gb) wr w3 := hS2.one o3 (.inr hM)
          refine ⟨hS3, ?_⟩
          refine takeH 17 (.int .i64 0) (some 8) rfl rfl (by kernel_rfl) (by kernel_rfl) (by kernel_rfl) (fun _ _ _ h => h) (.inl ⟨by kernel_rfl, fun w _ => by go_simp⟩) hS3 ?_
          refine wpAnyH_done (by kernel_rfl) ?_ _
          go_simp
          go_wp2_with fail
          go_meet
          exact ⟨_, rfl, rfl, hM, h3, hT2.one o3 (by have := HX.out.lt; omega), hS3⟩
      case rest =>
        obtain ⟨M, rfl, rfl, hM, hrow, hx2, hcg2⟩ := hcut
        have HROW := Lib.hid hrow
        have HX2 := Lib.hid hx2
        have HCG2 := Lib.hid (HCG.out.trans hcg2 (fun _ _ h => h))
        have HMD := Lib.hid (show ¬ dset gd gb M from fun e => by have := HX.out.lt; rcases e with e | e <;> omega)
        clear hM hrow hx2 hcg2 hcz k1 k2 wr1 wr2
        go_at_K
        go_step
        go_upto_region 7 with fail
        go_cut [9] (fun s9 wx => s9 = .int .i64 t.code ∧ LXs wx gd gb gl n first (t.put q f) ∧ Chg (dset gd gb) w wx)
        case first =>
          have HC := Lib.hid (show ∀ w', Chg (dset gd gb) wc w' → w'.cell? ⟨gl, 0, none⟩ = some (.pointer (some ⟨gd, 0, none⟩)) from fun w' hc => (logCells (hc.row HX2.out.lg HX2.out.notD)).1)
          have hS : Chg (dset gd gb) wc (World.drew wc) := Chg.of_below _ (drewb wc)
          refine wp_region_held (S := Chg (dset gd gb) wc) (by kernel_rfl) ?_
          change wpAnyH _ _ _ _ _ _ _ _ (World.drew _)
          refine takeH 0 (.pointer (some ⟨gl, 0, none⟩)) (some 35) rfl rfl (by kernel_rfl) (by kernel_rfl) (by kernel_rfl) (fun _ _ _ h => h) (.inl ⟨by kernel_rfl, fun w _ => by go_simp⟩) hS ?_
          refine takeH 1 (.pointer (some ⟨gl, 0, none⟩)) (some 36) rfl rfl (by kernel_rfl) (by kernel_rfl) (by kernel_rfl) (fun _ _ _ h => h) (.inl ⟨by kernel_rfl, fun w _ => by go_simp⟩) hS ?_
          refine takeH 2 (.pointer (some ⟨gl, 0, none⟩)) (some 37) rfl rfl (by kernel_rfl) (by kernel_rfl) (by kernel_rfl) (fun _ _ _ h => h) (.inl ⟨by kernel_rfl, fun w _ => by go_simp⟩) hS ?_
          refine takeH 3 (.pointer (some ⟨gd, 0, none⟩)) (some 38) rfl rfl (by kernel_rfl) (by kernel_rfl) (by kernel_rfl) (fun _ _ _ h => h) (.inl ⟨by kernel_rfl, fun w hw => by have hc := HC.out w hw; go_simp⟩) hS ?_
          refine takeH 4 (.int .i64 q) (some 39) rfl rfl (by kernel_rfl) (by kernel_rfl) (by kernel_rfl) (fun _ _ _ h => h) (.inl ⟨by kernel_rfl, fun w _ => by go_simp⟩) hS ?_
          refine takeH 5 (pageV f) (some 40) rfl rfl (by kernel_rfl) (by kernel_rfl) (by kernel_rfl) (fun _ _ _ h => h) (yi_row (by kernel_rfl) 52 (.tmp 7) rfl M 64 (pgC f) (by go_simp) (fun w hw => hw.row HROW.out HMD.out) _ block_under rfl block_size) hS ?_
          go_simp
          refine callH 6 rfl (by kernel_rfl) (by kernel_rfl) (some 41) rfl 52 #[.pointer (some ⟨gd, 0, none⟩), .int .i64 q, pageV f] ?hrun ((dxPut (HX2.out.keep (drewb wc)).dxs q hqn HU8.out).mono ?_)
          case hrun => go_simp; try rfl
          rintro e w3 ⟨rfl, hd3, hc3⟩
          have HX3 := Lib.hid ((HX2.out.keep (drewb wc)).setD hc3 hd3)
          have hS3 : Chg (dset gd gb) wc w3 := hS.trans hc3 (fun _ _ h => h)
          have HC3 := Lib.hid (HCG2.out.trans hS3 (fun _ _ h => h))
          refine ⟨_, rfl, hS3, ?_⟩
          go_simp
          clear hd3 hc3
          refine takeH 7 (.int .i64 t.code) (some 9) rfl rfl (by kernel_rfl) (by kernel_rfl) (by kernel_rfl) (fun _ _ _ h => h) (.inl ⟨by kernel_rfl, fun w _ => by go_simp⟩) hS3 ?_
          refine wpAnyH_done (by kernel_rfl) ?_ _
          go_simp
          go_wp2_with fail
          go_meet
          exact ⟨rfl, HX3.out, HC3.out⟩
        case rest =>
          obtain ⟨rfl, hx4, hcg4⟩ := hcut
          have HX4 := Lib.hid hx4
          have HCG4 := Lib.hid hcg4
          have HIN3 := Lib.hid (show (if t.up = true then inst first (L.drop (i + 1)) (i + 1) (t.put q f) else (t.put q f, 24)) = res from by
            rw [← HIN2.out, HDR.out, HF.out, HP.out]
            rfl)
          clear hx4 hcg4
          go_at_K
          go_step
          by_cases hup : t.up = true
          · have hcode : t.code = 0 := if_pos hup
            have HN := Lib.hid (show inst first (L.drop (i + 1)) (i + 1) (t.put q f) = res from by rw [← HIN3.out, if_pos hup])
            rw [hcode]
            clear hup hcode
            go_wp2_with fail
            go_roundw
            case rel => exact ⟨i + 1, _, by omega, by go_num, HX4.out, HCG4.out, HN.out⟩
            case measure => simp [intOf]; omega
          · have hcode : t.code = 24 := if_neg hup
            have HN := Lib.hid (show (t.put q f, 24) = res from by rw [← HIN3.out, if_neg hup])
            have HFIN := Lib.hid (show install first L s = (t.put q f, 24) from by
              rw [HIN.out, ← HN.out, if_neg (fun e => by rw [e] at hil; simp at hil), if_neg (by simp)])
            rw [hcode]
            clear hup hcode
            go_wp2_with fail
            go_ret
            rw [HFIN.out]
            exact ⟨rfl, HX4.out, HCG4.out⟩
    · obtain rfl : i = L.length := by omega
      have hres : res = (t, 0) := by
        have := HIN2.out
        rw [List.drop_length] at this
        rw [← this]
        rfl
      have HRS := Lib.hid hres
      clear hres
      by_cases h0 : L.length = 0
      · have HFIN := Lib.hid (show install first L s = (s, 0) from by rw [HIN.out, if_pos (List.eq_nil_of_length_eq_zero h0)])
        have HTS := Lib.hid (show s = t from by
          have h1 := HRES.out
          rw [List.eq_nil_of_length_eq_zero h0, HRS.out] at h1
          exact (congrArg Prod.fst h1).symm)
        have h0' : (L.length : Int) = 0 := by omega
        go_wp2_with fail
        go_ret
        rw [HFIN.out, HTS.out]
        exact ⟨rfl, HX.out, HCG.out⟩
      · have HFIN := Lib.hid (show install first L s = (t.put first (logB []), t.code) from by
          rw [HIN.out, HRS.out, if_neg (fun e => h0 (by rw [e]; rfl)), if_pos rfl])
        have h0' : ((L.length : Int) == 0) = false := by rw [beq_eq_false_iff_ne]; omega
        go_wp2_with fail
        refine (lxFormat HX.out).mono ?_
        rintro e w5 ⟨rfl, hx5, hc5⟩
        have HX5 := Lib.hid hx5
        have HC5 := Lib.hid (HCG.out.trans hc5 (fun _ _ h => h))
        clear hx5 hc5
        go_wp2_with fail
        go_ret
        rw [HFIN.out]
        exact ⟨rfl, HX5.out, HC5.out⟩
end
end Go.Proofs.Ytonfnlohbgbffaa
