/- The law WalHeads. -/
import Derived.Test.YtonfnlohbgbffaaWrf
set_option linter.unusedVariables false
set_option linter.unusedSimpArgs false
namespace Go.Proofs.Ytonfnlohbgbffaa
open Go.RowKit

theorem LXs.chg {w w' : World} {gd gb gl n first : Nat} {s : DSt} (h : LXs w gd gb gl n first s) {S : Nat → Prop} (c : Chg S w w') (h1 : ¬ S gd) (h2 : ¬ S gb) (h3 : ¬ S gl) : LXs w' gd gb gl n first s :=
  ⟨h.toLX.keepAt (c.block _ h.toLX.lt.1 h1) (c.block _ h.toLX.lt.2.1 h2) (c.block _ h.toLX.lt.2.2 h3), cell_keep h.cn (c.block _ h.toLX.lt.1 h1)⟩
/-- The document's disk and log, made of an image. -/
theorem refMade {w : World} {base : Nat} {v : Value} {n first : Nat} {s : DSt} (hown : w.ownsRow base 52 64 v n (pgsV n s.D)) (h0 : 0 < n) (hn : n ≤ 65536) (hu : ∀ k i, s.D k i ≤ 255) (hal : Alive s) (hf : first + 31 ≤ n) :
    ∃ gb, base ≤ gb ∧ gb < w.heap.size ∧ v.ownBlock = some gb ∧ RL ((w.alloc (.cells #[v, .int .i64 (-1), .bool false, .int .i64 0, .int .i64 0] 108)).alloc (.cells #[.pointer (some ⟨w.heap.size, 0, none⟩), .int .i64 first] 110)) w.heap.size gb (w.heap.size + 1) n first s := by
  have hd := World.rowIs_alloc w #[v, .int .i64 (-1), .bool false, .int .i64 0, .int .i64 0] 108
  rcases hown.2 with ⟨_, h⟩ | ⟨gb, cap, cur, hv, hb, hg, h1, h2, h3, h4⟩
  · omega
  subst hv
  have hlt : gb < w.heap.size := rowlt hg
  obtain ⟨ex, rfl⟩ : ∃ ex, cap = n + ex := ⟨cap - n, by omega⟩
  have hb1 := bnew w (.cells #[.slice (some ⟨gb, 0, none⟩) n (n + ex), .int .i64 (-1), .bool false, .int .i64 0, .int .i64 0] 108)
  obtain ⟨w1, hw1⟩ : ∃ w1, w1 = w.alloc (.cells #[.slice (some ⟨gb, 0, none⟩) n (n + ex), .int .i64 (-1), .bool false, .int .i64 0, .int .i64 0] 108) := ⟨_, rfl⟩
  have hr1 : w1.rowIs w.heap.size 108 5 (refCell gb n ex (-1) false 0 0) := by
    rw [hw1]
    exact hd _ (fun i hi => by
      have h5 : i = 0 ∨ i = 1 ∨ i = 2 ∨ i = 3 ∨ i = 4 := by simp at hi; omega
      rcases h5 with rfl | rfl | rfl | rfl | rfl <;> rfl)
  have hs1 : w1.heap.size = w.heap.size + 1 := by rw [hw1]; simp
  rw [← hw1] at hb1 ⊢
  have hblk : w.rowIs gb 52 ((n + ex) * 64) (fun i => cur.toList.getD i undef) := ⟨cur, hg, h3, fun i hi => by simp [List.getD_eq_getElem?_getD, h3, hi]⟩
  have hC : ∀ j, j < n * 64 → cur.toList.getD j undef = diskC s.D j := fun j hj => by
    have h5 := pgsV_get n s.D j hj
    rw [← h4, List.getElem?_take_of_lt hj] at h5
    rw [List.getD_eq_getElem?_getD, h5]
    rfl
  have hrx : RX w1 w.heap.size gb n s := ⟨⟨0, 0, ex, _, ⟨by rw [hal.1, hal.2]; exact hr1, rowIs_below hblk hb1, by omega, fun j hj => ⟨s.D (j / 64) (j % 64), hC j hj, by omega, by have := hu (j / 64) (j % 64); omega⟩⟩, h2, hC⟩, hu, hn, by rw [hal.2]; omega, by rw [hal.2]; omega⟩
  refine ⟨gb, hb, hlt, rfl, hrx.keep (bnew _ _), ?_, hf⟩
  have := World.rowIs_alloc w1 #[.pointer (some ⟨w.heap.size, 0, none⟩), .int .i64 first] 110 (logF w.heap.size first) (fun i hi => by rcases i with _ | _ | i; rfl; rfl; simp at hi; omega)
  rw [hs1] at this
  exact this
theorem run_copy_zero {P : Program} (w : World) (dT sT ty elem : TypeId) (G m cap : Nat) (u : Value) (xs : List Value)
    (hu : P.underlying dT = some (.slice elem)) (hs : (P.info? elem).map (·.size) = some 1) (hr : SR w u 0 1 xs) :
    (Builtin.copy_ #[dT, sT] ty #[.slice (some ⟨G, 0, none⟩) m cap, u]).run P w = .ok (goInt 0) w := by
  cases hq : P.info? elem with
  | none => simp [hq] at hs
  | some i =>
    have hi : i.size = 1 := by simpa [hq] using hs
    rcases hr.cases with ⟨_, _, h | ⟨a, c, h, _⟩⟩ | ⟨h, _⟩
    · subst h
      have hst := run_storeCells_cells (P := P) G 0 [] 0 w (fun j hj => by simp at hj) (fun j hj => by simp at hj) (fun v hv => by cases hv)
      simp only [Nat.add_zero] at hst
      simp [Builtin.copy_, run_underlying hu, Builtin.lenOf, Builtin.firstCells, sizeOf, typeInfo, hq, hi, hst, World.setCells]
    · subst h
      have hst := run_storeCells_cells (P := P) G 0 [] 0 w (fun j hj => by simp at hj) (fun j hj => by simp at hj) (fun v hv => by cases hv)
      have hld : (loadCells a 0).run P w = .ok #[] w := run_loadCells_list (P := P) w a [] (fun j v hv => by simp at hv)
      simp only [Nat.add_zero] at hst
      simp [Builtin.copy_, run_underlying hu, Builtin.lenOf, Builtin.firstCells, sizeOf, typeInfo, hq, hi, hst, hld, World.setCells]
    · omega
theorem run_copy_bytes {P : Program} (w : World) (dT sT ty elem : TypeId) (G m cap : Nat) (u : Value) (n : Nat) (xs : List Value) (t : TypeId) (N : Nat) (f : Nat → Value)
    (hu : P.underlying dT = some (.slice elem)) (hs : (P.info? elem).map (·.size) = some 1) (hrow : w.rowIs G t N f) (hr : SR w u n 1 xs) (h1 : ∀ v ∈ xs, v.oneCell' = true) (hnm : n ≤ m) (ho : n ≤ N) :
    (Builtin.copy_ #[dT, sT] ty #[.slice (some ⟨G, 0, none⟩) m cap, u]).run P w = .ok (goInt n) (w.setCells G 0 xs) := by
  rcases Nat.eq_zero_or_pos n with rfl | hn
  · have hx : xs = [] := List.eq_nil_of_length_eq_zero (by have := hr.1; omega)
    subst hx
    exact run_copy_zero w dT sT ty elem G m cap u [] hu hs hr
  · cases hq : P.info? elem with
    | none => simp [hq] at hs
    | some i =>
      have hi : i.size = 1 := by simpa [hq] using hs
      rcases hr.cases with ⟨h0, _⟩ | ⟨_, b, o2, c, rfl, _, _, hb, hc⟩
      · omega
      · have hl : xs.length = n := by have := hr.1; omega
        have hld : (loadCells ⟨b, o2, none⟩ xs.length).run P w = .ok xs.toArray w := run_loadCells_list (P := P) w ⟨b, o2, none⟩ xs (fun j v hv => by
          rw [addr_add _ rfl]
          show w.cell? ⟨b, o2 + j, none⟩ = _
          have hj : j < xs.length := by
            rcases Nat.lt_or_ge j xs.length with h | h
            · exact h
            · rw [List.getElem?_eq_none h] at hv; cases hv
          rw [hc j (by omega), hv])
        have hst := run_storeCells_cells (P := P) G 0 xs 0 w (fun j hj => by rw [hrow.cell (by omega)]; rfl) (fun j hj => hrow.frozen _) h1
        rw [hl] at hld
        have hmin : n.min m = n := Nat.min_eq_left hnm
        simp [Builtin.copy_, run_underlying hu, Builtin.lenOf, Builtin.firstCells, sizeOf, typeInfo, hq, hi, hmin, hld, hst]
/-- Bytes are copied to the beginning of a block. -/
theorem wpList_copy_page {w : World} {ops : Array Oper} {rest : List Oper} {o : Oper} {a : Act} {Q : Exit → Act → World → Prop} (hgd : o.guard = none) (d s : Operand)
    (ho : o.op = .call { callee := .builtin .copy, args := #[d, s], argTypes := #[34, 34] }) (dst : Option Tmp) (hdst : o.dst = dst) (G : Nat) (u : Value) (zs : List Int) (f : Nat → Nat)
    (hd : a.eval d = .slice (some ⟨G, 0, none⟩) 64 64) (hs : a.eval s = u) (hrow : w.rowIs G 52 64 (pgC f)) (hf : ∀ i, f i ≤ 255) (hz : SI w .u8 u zs) (hn : zs.length ≤ 64)
    (h : ∀ w' f', w'.rowIs G 52 64 (pgC f') → (∀ i, f' i ≤ 255) → One w w' (some G) → wpList Try.prog ops Q rest (a.put dst (goInt zs.length)) w') : wpList Try.prog ops Q (o :: rest) a w := by
  subst hdst
  refine wpList_plain hgd fun K hK => ?_
  have hw8 : ∀ i, 0 ≤ zs.getD i 0 ∧ zs.getD i 0 ≤ 255 := fun i => by
    rw [List.getD_eq_getElem?_getD]
    by_cases hi : i < zs.length
    · rw [List.getElem?_eq_getElem hi]
      exact wf_u8 (hz.wf _ (List.getElem_mem hi))
    · rw [List.getElem?_eq_none (by omega)]
      simp
  have hxs : zs.map (Value.int .u8) = (rowArr zs.length (fun i => .int .u8 (zs.getD i 0))).toList := by
    apply List.ext_getElem (by simp [rowArr])
    intro i h1 h2
    have h3 : i < zs.length := by simpa using h1
    simp [rowArr, List.getD_eq_getElem?_getD, h3]
  have hrun := run_copy_bytes (P := Try.prog) w 34 34 o.type 5 G 64 64 u zs.length (zs.map (Value.int .u8)) _ 64 _ Try.underlying34 (by kernel_rfl) hrow hz.sr (fun v hv => by obtain ⟨z, _, rfl⟩ := List.mem_map.1 hv; rfl) hn hn
  unfold Oper.wp
  simp only [execOp, ho, resolve, invoke, builtin, Sem.run_bind, Sem.run_pure, List.map_toArray, List.map_cons, List.map_nil, hd, hs, hrun, Result.andThen_ok]
  refine hK _ _ (h _ (fun i => if i < zs.length then (zs.getD i 0).toNat else f i) ?_ ?_ (one_setCells w G _ 0))
  · rw [hxs]
    refine (rowIs_piece (m := zs.length) (off := 0) (h := fun i => .int .u8 (zs.getD i 0)) hrow).congr (fun i hi => ?_)
    show _ = Value.int .u8 (((if i < zs.length then (zs.getD i 0).toNat else f i) : Nat) : Int)
    by_cases h3 : i < zs.length
    · rw [if_pos (by omega), if_pos h3]
      have := hw8 i
      have e : zs.getD (i - 0) 0 = ((zs.getD i 0).toNat : Int) := by
        rw [Nat.sub_zero]
        omega
      rw [e]
    · refine (if_neg (by omega)).trans ?_
      unfold pgC
      rw [if_neg h3]
  · intro i
    show (if i < zs.length then (zs.getD i 0).toNat else f i) ≤ 255
    split
    · have := hw8 i; omega
    · exact hf i
set_option maxRecDepth 100000 in
set_option maxHeartbeats 8000000 in
theorem walHeads_walk (W : World) (v0 v1 v2 v3 : Value) (o0 : Arg Try.prog W 34 v0) (o1 : Arg Try.prog W 34 v1) (o2 : Arg Try.prog W 5 v2) (o3 : Arg Try.prog W 4 v3) :
    Calls Try.prog 11 #[v0, v1, v2, v3] W fun e w' => e = .returned (.bool true) ∧ Below W.heap.size W w' := by
  obtain ⟨zs, hzs⟩ := SI.of_arg (k := .u8) Try.underlying34 Try.underlying5 (by kernel_rfl) o0
  obtain ⟨ts, hts⟩ := SI.of_arg (k := .u8) Try.underlying34 Try.underlying5 (by kernel_rfl) o1
  obtain ⟨ct, rfl, hct⟩ := Arg.int Try.underlying5 o2
  obtain ⟨rt, rfl⟩ := Arg.bool Try.underlying4 o3
  have hct2 := wf_u8 hct
  obtain ⟨ad0, c0, rfl, hc00, hc01⟩ := hzs.sr.form
  obtain ⟨ad1, c1, rfl, hc10, hc11⟩ := hts.sr.form
  have HZS := Lib.hid hzs
  have HTS := Lib.hid hts
  have HCT := Lib.hid hct2
  have hct0 := hct2.1
  have hct1 := hct2.2
  clear o0 o1 o2 o3 hzs hts hct hct2 hc00 hc10
  go_enter Try.func11, Try.ntmps11
  go_wp2_with fail
  refine (walAwake_in W).mono ?_
  rintro e w0 ⟨rfl, hb0⟩
  have HB0 := Lib.hid hb0
  clear hb0
  by_cases hz64 : 64 < zs.length
  · have g1 : (64 : Int) < zs.length := by omega
    go_wp2_with fail
    go_ret
    exact ⟨rfl, HB0.out⟩
  have g1 : decide ((64 : Int) < zs.length) = false := by rw [decide_eq_false_iff_not]; omega
  by_cases ht30 : 30 < ts.length
  · have g2 : (30 : Int) < ts.length := by omega
    go_wp2_with fail
    go_ret
    exact ⟨rfl, HB0.out⟩
  have g2 : decide ((30 : Int) < ts.length) = false := by rw [decide_eq_false_iff_not]; omega
  go_upto_if 36 with (first
    | (refine wpList_new_row rfl 52 rfl (some 9) rfl 64 _ page_zero ?_; intro w1 G hG hr1 hb1; have HG := Lib.hid (Nat.le_trans HB0.out.size hG); have HR1 := Lib.hid hr1; have HB1 := Lib.hid (bnext HB0.out hb1); have HSI1 := Lib.hid (HZS.out.keep HB1.out); clear hr1 hb1 hG)
    | (refine wpList_copy_page rfl (.tmp 33) (.tmp 34) rfl (some 35) rfl G _ zs (fun _ => 0) (by go_simp; try rfl) (by go_simp; try rfl) HR1.out (fun _ => by omega) HSI1.out (by omega) ?_; intro w2 f0 hr2 hf0 o2; have HR2 := Lib.hid hr2; have HF0 := Lib.hid hf0; have HB2 := Lib.hid (bone HB1.out o2 HG.out HB1.out.size); clear hr2 hf0 o2))
  go_cut [] (fun wx => ∃ f : Nat → Nat, wx.rowIs G 52 64 (pgC f) ∧ (∀ i, f i ≤ 255) ∧ Below W.heap.size W wx)
  case first =>
    cases rt with
    | false =>
      go_wp2_with fail
      go_meet
      exact ⟨f0, HR2.out, HF0.out, HB2.out⟩
    | true =>
      go_wp2_with fail
      go_loopw [10, 39] (fun v r wx => ∃ (k : Nat) (L : List Nat), k ≤ ts.length ∧ r = .int .i64 k ∧ L.length = k ∧ (∀ x ∈ L, x < 100) ∧ OwnN wx W.heap.size v L ∧ Below W.heap.size W wx ∧ wx.rowIs G 52 64 (pgC f0)) (fun _ r _ => ts.length - (intOf r).toNat)
      case atStart => exact ⟨0, [], by omega, rfl, rfl, fun x hx => (by cases hx), OwnN.nil _ _, HB2.out, HR2.out⟩
      case round =>
        obtain ⟨k, L, hk, rfl, hlen, hL, hown, hb, hrow⟩ := hrel
        obtain ⟨A1, cp1, hform⟩ := hown.form
        subst hform
        rw [hlen] at hown ⊢
        have HLEN := Lib.hid hlen
        have HL := Lib.hid hL
        have HOWN := Lib.hid hown
        have HB := Lib.hid hb
        have HROW := Lib.hid hrow
        clear hlen hL hown hb hrow
        by_cases hkt : k < ts.length
        · have g3 : (k : Int) < ts.length := by omega
          rcases (HTS.out.keep HB.out).cases with ⟨h, _⟩ | ⟨_, gz, off, cz, hs, _, _, hg, hc⟩
          · rw [h] at hkt; simp at hkt
          cases hs
          have hcz := hc k hkt
          have hwf := wf_u8 (HTS.out.wf (ts.getD k 0) (by rw [List.getD_eq_getElem?_getD, List.getElem?_eq_getElem hkt]; exact List.getElem_mem hkt))
          obtain ⟨z, hz⟩ : ∃ z : Int, z = ts.getD k 0 := ⟨_, rfl⟩
          rw [← hz] at hcz hwf
          obtain ⟨q, hq⟩ : ∃ q : Nat, (q : Int) = z % 100 := ⟨(z % 100).toNat, by omega⟩
          have m1 : z % 100 = (q : Int) := hq.symm
          have m2 : z.tmod 100 = (q : Int) := by rw [Int.tmod_eq_emod_of_nonneg (by omega)]; omega
          have hq100 : q < 100 := by omega
          have m3 : IntKind.i64.wrap (q : Int) = q := by simp [IntKind.wrap, IntKind.bits, IntKind.signed]; omega
          have m4 : IntKind.u8.wrap (q : Int) = q := by simp [IntKind.wrap, IntKind.bits, IntKind.signed]; omega
          clear hc hz hq hwf
          go_wp2_with (with_reducible refine wpList_stop (some 47) rfl ?_)
          refine Lib.hid ?_
          refine wpList_lit_int rfl (.tmp 46) rfl (some 47) rfl (q : Int) (by go_simp; try rfl) ?_
          intro w7 u hu hb7
          have HO7 := Lib.hid (HOWN.out.keep hb7)
          have HR7 := Lib.hid (rowIs_below HROW.out hb7)
          have HB7 := Lib.hid (bnext HB.out hb7)
          refine wpList_add_int rfl (.tmp 43) (.tmp 47) rfl (some 48) rfl W.heap.size (.slice A1 k cp1) u L q (by go_simp) (by go_simp) HO7.out hu (by rw [HLEN.out]; omega) HB7.out.size ?_
          intro v8 w8 ho8 o8
          obtain ⟨A8, c8, hform⟩ := ho8.form
          subst hform
          have HLEN8 := Lib.hid (show (L ++ [q]).length = k + 1 from by rw [List.length_append, HLEN.out]; rfl)
          rw [HLEN8.out] at ho8 ⊢
          have HO8 := Lib.hid ho8
          have HR8 := Lib.hid (show w8.rowIs G 52 64 (pgC f0) from HR7.out.of_block (o8.block G HR7.out.lt (fun e => own_ne_row HO7.out HR7.out G e rfl)))
          have HB8 := Lib.hid (HB7.out.trans (o8.toBelow (fun x hx => (HO7.out.lt x hx).1) HB7.out.size))
          have HL8 := Lib.hid (show ∀ x ∈ L ++ [q], x < 100 from fun x hx => by
            rcases List.mem_append.1 hx with h | h
            · exact HL.out x h
            · obtain rfl : x = q := by simpa using h
              exact hq100)
          clear hu hb7 ho8 o8
          go_wp2_with fail
          go_roundw
          case rel => exact ⟨k + 1, L ++ [q], by omega, by go_num, HLEN8.out, HL8.out, HO8.out, HB8.out, HR8.out⟩
          case measure => simp [intOf]; omega
        · obtain rfl : k = ts.length := by omega
          go_wp2_with fail
          refine (refHead_in (L := L) (HOWN.out.si (fun c hc => by have := HL.out c hc; omega)) (by rw [HLEN.out]; omega) (fun c hc => by have := HL.out c hc; omega)).mono ?_
          rintro e w5 ⟨rfl, hb5⟩
          have HB5 := Lib.hid (bnext HB.out hb5)
          have HR5 := Lib.hid (rowIs_below HROW.out hb5)
          clear hb5
          go_wp2_with (with_reducible refine wpList_stop none rfl ?_)
          refine Lib.hid ?_
          refine wpList_row_store rfl 52 (.tmp 9) (.tmp 51) rfl rfl G 64 _ (pgC (logB L)) (by go_simp) (by go_simp; try rfl) HR5.out (fun _ _ => rfl) block_size ?_
          intro w6 hr6 o6
          have HB6 := Lib.hid (bone HB5.out o6 HG.out HB5.out.size)
          have HR6 := Lib.hid hr6
          have d2 := hr6.cell (i := 2) (by omega)
          have df := hr6.frozen
          clear hr6 o6
          by_cases hc0 : 0 < ct
          · obtain ⟨q, hq⟩ : ∃ q : Nat, (q : Int) = ct % 34 := ⟨(ct % 34).toNat, by omega⟩
            have m1 : ct % 34 = (q : Int) := hq.symm
            have m2 : ct.tmod 34 = (q : Int) := by rw [Int.tmod_eq_emod_of_nonneg (by omega)]; omega
            have hq34 : q < 34 := by omega
            have HRN := Lib.hid (show (w6.setCell ⟨G, 2, none⟩ (.int .u8 q)).rowIs G 52 64 (pgC fun i => if i = 2 then q else logB L i) from (HR6.out.set 2 _).congr (fun i hi => by
              show _ = Value.int .u8 (((if i = 2 then q else logB L i) : Nat) : Int)
              by_cases h : i = 2
              · rw [if_pos h, if_pos h]
              · rw [if_neg h, if_neg h]
                rfl))
            have HBN := Lib.hid (bone HB6.out (one_setCell w6 G 2 (.int .u8 q)) HG.out HB6.out.size)
            clear hq
            go_wp2_with fail
            go_meet
            exact ⟨_, HRN.out, fun i => by show (if i = 2 then q else logB L i) ≤ 255; split; omega; exact logB_u8 _ _, HBN.out⟩
          · have g4 : decide ((0 : Int) < ct) = false := by rw [decide_eq_false_iff_not]; omega
            go_wp2_with fail
            go_meet
            exact ⟨_, HR6.out, fun i => logB_u8 _ _, HB6.out⟩
  case rest =>
    obtain ⟨f, hrow, hf, hb⟩ := hcut
    have HF := Lib.hid hf
    clear hf HR2 HF0 HB2 HR1 HB1 HSI1
    have HRC := Lib.hid hrow
    have HBC := Lib.hid hb
    clear hrow hb
    go_at_K
    go_step
    go_wp2_with fail
    refine (dzNew 90 (by omega) _).mono ?_
    rintro e w1 ⟨gd, gb, rfl, hd1, hl1, hl2, hb1⟩
    have HB1 := Lib.hid (bnext HBC.out hb1)
    have HLO := Lib.hid (show W.heap.size ≤ gd ∧ W.heap.size ≤ gb from ⟨Nat.le_trans HBC.out.size hl1, Nat.le_trans HBC.out.size hl2⟩)
    have HGD := Lib.hid (show ¬ dset gd gb G from fun e => by have := HRC.out.lt; rcases e with e | e <;> omega)
    have HR1 := Lib.hid (rowIs_below HRC.out hb1)
    have HD1 := Lib.hid hd1
    clear hb1 hl1 hl2 hd1
    go_wp2_with fail
    go_loopw [61] (fun r wx => ∃ (i : Nat) (s : DSt), i ≤ 40 ∧ r = .int .i64 i ∧ DXs wx gd gb 90 s ∧ Alive s ∧ Below W.heap.size W wx ∧ wx.rowIs G 52 64 (pgC f)) (fun r _ => 40 - (intOf r).toNat)
    case atStart => exact ⟨0, dz, by omega, rfl, HD1.out, dz_alive, HB1.out, HR1.out⟩
    case round =>
      obtain ⟨i, s, hi, rfl, hd, hal, hb, hrow⟩ := hrel
      have HD := Lib.hid hd
      have HAL := Lib.hid hal
      have HB := Lib.hid hb
      have HROW := Lib.hid hrow
      clear hd hal hb hrow
      by_cases hi40 : i < 40
      · have g3 : (i : Int) < 40 := by omega
        obtain ⟨q, hq⟩ : ∃ q : Nat, q = 3 + i := ⟨_, rfl⟩
        have k3 : (3 : Int) + (i : Int) = (q : Int) := by omega
        have k2 : IntKind.u8.wrap (i : Int) = i := by simp [IntKind.wrap, IntKind.bits, IntKind.signed]; omega
        have hq90 : q < 90 := by omega
        clear hq
        go_wp2_with fail
        refine (lawBlock_in i (by omega) _).mono ?_
        rintro e w2 ⟨rfl, hb2⟩
        have HD2 := Lib.hid (HD.out.keep hb2)
        have HB2 := Lib.hid (bnext HB.out hb2)
        have HR2 := Lib.hid (rowIs_below HROW.out hb2)
        clear hb2
        go_wp2_with fail
        refine (dxPut HD2.out q hq90 (fun a => xor_le i a (by omega))).mono ?_
        rintro e w3 ⟨rfl, hd3, hc3⟩
        have HD3 := Lib.hid hd3
        have HR3 := Lib.hid (hc3.row HR2.out HGD.out)
        have HB3 := Lib.hid (Chg.go HB2.out hc3 (fun k hk => by rcases hk with rfl | rfl; exact HLO.out.1; exact HLO.out.2) HB2.out.size)
        have HAL3 := Lib.hid (HAL.out.put q (fun a => i ^^^ (a % 64)))
        clear hd3 hc3
        go_wp2_with fail
        go_roundw
        case rel => exact ⟨i + 1, _, by omega, by go_num, HD3.out, HAL3.out, HB3.out, HR3.out⟩
        case measure => simp [intOf]; omega
      · obtain rfl : i = 40 := by omega
        go_wp2_with (first
          | (refine wpList_row_load (by kernel_rfl) 52 (.tmp 9) rfl (some 73) rfl G 64 (pgC f) (by go_simp) HROW.out _ block_under rfl block_size ?_))
        refine (dxPut HD.out 2 (by omega) HF.out).mono ?_
        rintro e w2 ⟨rfl, hd2, hc2⟩
        have HAL2 := Lib.hid (HAL.out.put 2 f)
        have HB2 := Lib.hid (Chg.go HB.out hc2 (fun k hk => by rcases hk with rfl | rfl; exact HLO.out.1; exact HLO.out.2) HB.out.size)
        obtain ⟨t, ht⟩ : ∃ t, t = s.put 2 f := ⟨_, rfl⟩
        rw [← ht] at hd2 HAL2
        clear hc2 ht
        go_wp2_with fail
        refine (hd2.open_ 2 (by omega)).mono ?_
        rintro e w3 ⟨gl, rfl, hx3, hl3, hb3⟩
        have HX3 := Lib.hid hx3
        have HB3 := Lib.hid (bnext HB2.out hb3)
        clear hd2 hx3 hl3 hb3
        go_wp2_with fail
        refine (dxImage HX3.out.dxs).mono ?_
        rintro e w4 ⟨⟨v, rfl, hown⟩, hb4⟩
        have HX4 := Lib.hid (HX3.out.keep hb4)
        have HB4 := Lib.hid (bnext HB3.out hb4)
        obtain ⟨gq, hq1, hq2, hq3, hrl⟩ := refMade (first := 2) hown (by omega) (by omega) HX3.out.dx.u8 HAL2.out (by omega)
        obtain ⟨A1, c1, hform⟩ := own_form hown
        subst hform
        obtain ⟨w5, hw5⟩ : ∃ w5, w5 = (w4.alloc (.cells #[.slice A1 90 c1, .int .i64 (-1), .bool false, .int .i64 0, .int .i64 0] 108)).alloc (.cells #[.pointer (some ⟨w4.heap.size, 0, none⟩), .int .i64 2] 110) := ⟨_, rfl⟩
        have HRL := Lib.hid (show RL w5 w4.heap.size gq (w4.heap.size + 1) 90 2 t from by rw [hw5]; exact hrl)
        have HQ := Lib.hid (show w3.heap.size ≤ gq ∧ gq < w4.heap.size from ⟨hq1, hq2⟩)
        have hbn : Below w4.heap.size w4 w5 := by rw [hw5]; exact bnewAfter (bnew w4 _) _
        have HX5 := Lib.hid (HX4.out.keep hbn)
        have HB5 := Lib.hid (bnext HB4.out hbn)
        have HLT := Lib.hid HX3.out.toLX.lt
        have HSZ := Lib.hid hb4.size
        clear hown hb4 hq1 hq2 hq3 hrl hbn
        go_upto_region 26 with fail
        rw [← hw5]
        clear hw5
        obtain ⟨gm, hgm⟩ : ∃ gm, gm = w4.heap.size + 1 := ⟨_, rfl⟩
        rw [← hgm] at HRL ⊢
        obtain ⟨gr, hgr⟩ : ∃ gr, gr = w4.heap.size := ⟨_, rfl⟩
        rw [← hgr] at HRL hgm ⊢
        have HNE := Lib.hid (show (¬ dset gd gb gr ∧ ¬ dset gd gb gq ∧ ¬ dset gd gb gm) ∧ ¬ dset gr gq gd ∧ ¬ dset gr gq gb ∧ ¬ dset gr gq gl from by
          have h1 := HLT.out
          have h2 := HQ.out
          have h3 := HSZ.out
          unfold dset
          omega)
        have HLO2 := Lib.hid (show W.heap.size ≤ gr ∧ W.heap.size ≤ gq from by
          have h1 := HB3.out.size
          have h2 := HQ.out
          have h3 := HSZ.out
          omega)
        have HPG := Lib.hid (show w4.heap.size = gr from hgr.symm)
        clear hgm hgr
        have hrv := walRecover HX5.out
        have hrv2 := fun w' (h : RL w' gr gq gm 90 2 t) => refRecover_in h
        obtain ⟨⟨t2, N, C⟩, hR⟩ : ∃ R : DSt × Nat × Int, R = recov 2 90 t := ⟨_, rfl⟩
        rw [← hR] at hrv
        simp only [← hR] at hrv2
        have HV2 := Lib.hid hrv2
        clear hrv2 hR
        go_wp2_with fail
        refine hrv.mono ?_
        rintro e w6 ⟨rfl, hx6, hc6⟩
        clear hrv
        have HX6 := Lib.hid hx6
        have HRL6 := Lib.hid (HRL.out.chg hc6 HNE.out.1.1 HNE.out.1.2.1 HNE.out.1.2.2)
        have HB6 := Lib.hid (Chg.go HB5.out hc6 (fun k hk => by rcases hk with rfl | rfl; exact HLO.out.1; exact HLO.out.2) HB5.out.size)
        clear hx6 hc6
        go_wp2_with fail
        refine (HV2.out _ HRL6.out).mono ?_
        rintro e w7 ⟨rfl, hr7, hc7⟩
        have HRL7 := Lib.hid hr7
        have HX7 := Lib.hid (HX6.out.chg hc7 HNE.out.2.1 HNE.out.2.2.1 HNE.out.2.2.2)
        have HB7 := Lib.hid (Chg.go HB6.out hc7 (fun k hk => by rcases hk with rfl | rfl; exact HLO2.out.1; exact HLO2.out.2) HB6.out.size)
        clear hr7 hc7
        go_upto_region 28 with fail
        obtain ⟨ex, hex, hsr⟩ := HRL7.out.dx.sr
        have HE := Lib.hid hex
        have HSR := Lib.hid hsr
        have HL0 := Lib.hid (show ∀ w', Below w7.heap.size w7 w' → w'.cell? ⟨gm, 0, none⟩ = some (.pointer (some ⟨gr, 0, none⟩)) from fun w' hb => (HRL7.out.keep hb).c0)
        clear hex hsr
        have hS : Below w7.heap.size w7 (World.drew w7) := drewb w7
        refine wp_region_held (S := fun w' => Below w7.heap.size w7 w') (by kernel_rfl) ?_
        change wpAnyH _ _ _ _ _ _ _ _ (World.drew _)
        refine takeH 0 (.int .i64 0) (some 96) rfl rfl (by kernel_rfl) (by kernel_rfl) (by kernel_rfl) (fun _ _ _ h => h) (.inl ⟨by kernel_rfl, fun w _ => by go_simp⟩) hS ?_
        refine takeH 1 (.bool true) (some 97) rfl rfl (by kernel_rfl) (by kernel_rfl) (by kernel_rfl) (fun _ _ _ h => h) (.inl ⟨by kernel_rfl, fun w _ => by go_simp⟩) hS ?_
        refine takeH 2 (.bool true) (some 98) rfl rfl (by kernel_rfl) (by kernel_rfl) (by kernel_rfl) (fun _ _ _ h => h) (.inl ⟨by kernel_rfl, fun w _ => by go_simp⟩) hS ?_
        refine takeH 3 (.int .i64 N) (some 99) rfl rfl (by kernel_rfl) (by kernel_rfl) (by kernel_rfl) (fun _ _ _ h => h) (.inl ⟨by kernel_rfl, fun w _ => by go_simp⟩) hS ?_
        refine takeH 4 (.int .i64 N) (some 100) rfl rfl (by kernel_rfl) (by kernel_rfl) (by kernel_rfl) (fun _ _ _ h => h) (.inl ⟨by kernel_rfl, fun w _ => by go_simp⟩) hS ?_
        refine takeH 5 (.bool true) (some 101) rfl rfl (by kernel_rfl) (by kernel_rfl) (by kernel_rfl) (fun _ _ _ h => h) (.inl ⟨by kernel_rfl, fun w _ => by go_simp⟩) hS ?_
        refine takeH 6 (.bool true) (some 102) rfl rfl (by kernel_rfl) (by kernel_rfl) (by kernel_rfl) (fun _ _ _ h => h) (.inl ⟨by kernel_rfl, fun w _ => by go_simp⟩) hS ?_
        refine takeH 7 (.bool true) (some 103) rfl rfl (by kernel_rfl) (by kernel_rfl) (by kernel_rfl) (fun _ _ _ h => h) (.inl ⟨by kernel_rfl, fun w _ => by go_simp⟩) hS ?_
        refine takeH 8 (.int .i64 C) (some 104) rfl rfl (by kernel_rfl) (by kernel_rfl) (by kernel_rfl) (fun _ _ _ h => h) (.inl ⟨by kernel_rfl, fun w _ => by go_simp⟩) hS ?_
        refine takeH 9 (.int .i64 C) (some 105) rfl rfl (by kernel_rfl) (by kernel_rfl) (by kernel_rfl) (fun _ _ _ h => h) (.inl ⟨by kernel_rfl, fun w _ => by go_simp⟩) hS ?_
        refine takeH 10 (.bool true) (some 106) rfl rfl (by kernel_rfl) (by kernel_rfl) (by kernel_rfl) (fun _ _ _ h => h) (.inl ⟨by kernel_rfl, fun w _ => by go_simp⟩) hS ?_
        refine takeH 11 (.bool true) (some 107) rfl rfl (by kernel_rfl) (by kernel_rfl) (by kernel_rfl) (fun _ _ _ h => h) (.inl ⟨by kernel_rfl, fun w _ => by go_simp⟩) hS ?_
        refine takeH 12 (.bool true) (some 108) rfl rfl (by kernel_rfl) (by kernel_rfl) (by kernel_rfl) (fun _ _ _ h => h) (.inl ⟨by kernel_rfl, fun w _ => by go_simp⟩) hS ?_
        refine takeH 13 (.pointer (some ⟨gd, 0, none⟩)) (some 109) rfl rfl (by kernel_rfl) (by kernel_rfl) (by kernel_rfl) (fun _ _ _ h => h) (.inl ⟨by kernel_rfl, fun w _ => by go_simp⟩) hS ?_
        refine takeH 15 (.pointer (some ⟨gm, 0, none⟩)) (some 111) rfl rfl (by kernel_rfl) (by kernel_rfl) (by kernel_rfl) (fun _ _ _ h => h) (.inl ⟨by kernel_rfl, fun w _ => by go_simp⟩) hS ?_
        refine takeH 16 (.pointer (some ⟨gm, 0, none⟩)) (some 112) rfl rfl (by kernel_rfl) (by kernel_rfl) (by kernel_rfl) (fun _ _ _ h => h) (.inl ⟨by kernel_rfl, fun w _ => by go_simp⟩) hS ?_
        refine takeH 17 (.pointer (some ⟨gm, 0, none⟩)) (some 113) rfl rfl (by kernel_rfl) (by kernel_rfl) (by kernel_rfl) (fun _ _ _ h => h) (.inl ⟨by kernel_rfl, fun w _ => by go_simp⟩) hS ?_
        refine takeH 18 (.pointer (some ⟨gr, 0, none⟩)) (some 114) rfl rfl (by kernel_rfl) (by kernel_rfl) (by kernel_rfl) (fun _ _ _ h => h) (.inl ⟨by kernel_rfl, fun w hw => by have hc := HL0.out w hw; go_simp⟩) hS ?_
        refine takeH 19 (.pointer (some ⟨gr, 0, none⟩)) (some 115) rfl rfl (by kernel_rfl) (by kernel_rfl) (by kernel_rfl) (fun _ _ _ h => h) (.inl ⟨by kernel_rfl, fun w _ => by go_simp⟩) hS ?_
        refine takeH 20 (.pointer (some ⟨gr, 0, none⟩)) (some 116) rfl rfl (by kernel_rfl) (by kernel_rfl) (by kernel_rfl) (fun _ _ _ h => h) (.inl ⟨by kernel_rfl, fun w _ => by go_simp⟩) hS ?_
        refine takeH 21 (.slice (some ⟨gq, 0, none⟩) 90 (90 + ex)) (some 117) rfl rfl (by kernel_rfl) (by kernel_rfl) (by kernel_rfl) (fun _ _ _ h => h) (.inl ⟨by kernel_rfl, fun w hw => by have hc := HE.out w hw; go_simp⟩) hS ?_
        go_simp
        refine callH 14 rfl (by kernel_rfl) (by kernel_rfl) (some 110) rfl 46 #[.pointer (some ⟨gd, 0, none⟩)] ?hrun ((dxImage (HX7.out.keep (drewb w7)).dxs).mono ?_)
        case hrun => go_simp; try rfl
        rintro e w8 ⟨⟨v8, rfl, hown8⟩, hb8⟩
        have hS8 : Below w7.heap.size w7 w8 := bnext hS hb8
        refine ⟨_, rfl, hS8, ?_⟩
        have HS8 := Lib.hid (SR.of_own hown8)
        have HSR8 := Lib.hid (HSR.out.keep hS8)
        clear hown8 hb8
        go_simp
        refine callH 22 rfl (by kernel_rfl) (by kernel_rfl) (some 118) rfl 50 #[v8, .slice (some ⟨gq, 0, none⟩) 90 (90 + ex)] ?hrun ((same_true HS8.out HSR8.out (pgsV_u8 _ _ HRL7.out.dx.u8) (by omega)).mono ?_)
        case hrun => go_simp; try rfl
        rintro e w9 ⟨rfl, hb9⟩
        have hS9 : Below w7.heap.size w7 w9 := bnext hS8 hb9
        refine ⟨_, rfl, hS9, ?_⟩
        go_simp
        clear hb9
        refine takeH 23 (.bool true) (some 119) rfl rfl (by kernel_rfl) (by kernel_rfl) (by kernel_rfl) (fun _ _ _ h => h) (.inl ⟨by kernel_rfl, fun w _ => by go_simp⟩) hS9 ?_
        refine takeH 24 (.bool true) (some 8) rfl rfl (by kernel_rfl) (by kernel_rfl) (by kernel_rfl) (fun _ _ _ h => h) (.inl ⟨by kernel_rfl, fun w _ => by go_simp⟩) hS9 ?_
        refine wpAnyH_done (by kernel_rfl) ?_ _
        go_simp
        go_wp2_with fail
        go_ret
        exact ⟨rfl, bnext HB7.out hS9⟩

end Go.Proofs.Ytonfnlohbgbffaa
