/- The law DiskStops: the walk. -/
import Derived.Test.YtcjnnonfnlemmaaDiskI
set_option linter.unusedVariables false
set_option linter.unusedSimpArgs false
namespace Go.Proofs.Ytcjnnonfnlemmaa
open Go.RowKit

/-- What the law wants at a place behind so many writes. -/
def wantAt (zs : List Int) (a : Nat) : Nat → Nat → Nat
  | 0, _ => 0
  | i + 1, p => if i < a ∧ (p : Int) = zs.getD i 0 then i + 1 else wantAt zs a i p
theorem wantAt_le (zs : List Int) (a : Nat) : ∀ i p, wantAt zs a i p ≤ i
  | 0, _ => Nat.le_refl _
  | i + 1, p => by
    unfold wantAt
    split
    · exact Nat.le_refl _
    · exact Nat.le_succ_of_le (wantAt_le zs a i p)
def blkByte (x o : Nat) : Value := if x = 0 then .int .u8 0 else lawCell (x : Int) o
def stopBytes (zs : List Int) (a i j : Nat) : Value := blkByte (wantAt zs a i (j / 64)) (j % 64)

theorem stop_wrote (zs : List Int) (a i m : Nat) (hi : i < a) (hm : zs.getD i 0 = (m : Int)) (j : Nat) : wrote (stopBytes zs a i) m (lawCell ((i : Int) + 1)) j = stopBytes zs a (i + 1) j := by
  unfold wrote stopBytes
  by_cases h : m * 64 ≤ j ∧ j < m * 64 + 64
  · rw [if_pos h]
    have h1 : j / 64 = m := by omega
    have h2 : j % 64 = j - m * 64 := by omega
    rw [h1, h2]
    simp only [wantAt, hm, hi, true_and, if_true]
    unfold blkByte
    rw [if_neg (by omega)]
    norm_cast
  · rw [if_neg h]
    have h1 : j / 64 ≠ m := by omega
    simp only [wantAt, hm]
    rw [if_neg (by rintro ⟨_, h2⟩; exact h1 (by omega))]

theorem stop_not (zs : List Int) (a i : Nat) (hi : ¬ i < a) (p : Nat) : wantAt zs a (i + 1) p = wantAt zs a i p := by
  simp only [wantAt]
  rw [if_neg (fun h => hi h.1)]

theorem DK.congr {w : World} {g gb n : Nat} {C C' : Nat → Value} {left left' : Int} {dead dead' : Bool} {writes writes' reads reads' : Int} (h : DK w g gb n C left dead writes reads) (hC : ∀ j, j < n * 64 → C j = C' j)
    (h1 : left = left') (h2 : dead = dead') (h3 : writes = writes') (h4 : reads = reads') : DK w g gb n C' left' dead' writes' reads' := by
  subst h1; subst h2; subst h3; subst h4
  exact ⟨h.row, h.blk.congr (fun i hi => hC i hi), h.ne, fun k hk => by rw [← hC k hk]; exact h.one k hk⟩

theorem Two.row {w w' : World} {g gb r n : Nat} {t : TypeId} {f : Nat → Value} (h : Two w w' g gb) (hr : w.rowIs r t n f) (h1 : r ≠ g) (h2 : r ≠ gb) : w'.rowIs r t n f := hr.of_block (h.block r hr.lt h1 h2)

theorem DK.setOther {w : World} {g gb n r i : Nat} {C : Nat → Value} {left : Int} {dead : Bool} {writes reads : Int} (h : DK w g gb n C left dead writes reads) (h1 : g ≠ r) (h2 : gb ≠ r) (v : Value) : DK (w.setCell ⟨r, i, none⟩ v) g gb n C left dead writes reads :=
  ⟨h.row.setOther (by exact h1) _, h.blk.setOther (by exact h2) _, h.ne, h.one⟩

theorem run_index_row (Y : Array Value) {p : Nat} {v : Value} (hv : Y[p]? = some v) (hp : p < 256) (w : World) : (Instr.index 29 (.agg Y) (.int .i64 p)).run Try.prog w = .ok v w := by
  have hu : Try.prog.underlying 29 = some (.array 256 5) := by kernel_rfl
  have h5 : Try.prog.underlying 5 = some (.int .u8) := by kernel_rfl
  obtain ⟨i, hi⟩ : ∃ i, Try.prog.info? 5 = some i := ⟨_, rfl⟩
  have hs : i.size = 1 := by
    have h : (Try.prog.info? 5).map (·.size) = some 1 := by kernel_rfl
    rw [hi] at h; simpa using h
  have hagg : (isAgg 5).run Try.prog w = .ok false w := by
    unfold isAgg
    rw [Sem.run_bind, run_underlying h5 w]
    rfl
  simp [Instr.index, asIntOf, run_underlying hu, sizeOf, typeInfo, hi, hs, part, hagg, hp, hv]

theorem zeros256 : (Try.prog.info? 29).bind (·.zero) = some (.agg (rowArr 256 (fun _ => .int .u8 0))) := by kernel_rfl

set_option maxRecDepth 10000 in
set_option maxHeartbeats 2000000 in
theorem diskStops_walk (W : World) (v0 v1 : Value) (o0 : Arg Try.prog W 5 v0) (o1 : Arg Try.prog W 22 v1) :
    Calls Try.prog 3 #[v0, v1] W fun e w' => e = .returned (.bool true) ∧ Below W.heap.size W w' := by
  obtain ⟨za, rfl, hwa⟩ := Arg.int Try.underlying5 o0
  have hza := wf_u8 hwa
  obtain ⟨a, rfl⟩ : ∃ a : Nat, za = a := ⟨za.toNat, by omega⟩
  obtain ⟨zs, hz⟩ := SI.of_arg (k := .u8) Try.underlying22 Try.underlying5 (by kernel_rfl) o1
  clear o0 o1
  obtain ⟨A, cap, rfl, hlc, hcm⟩ := hz.sr.form
  have hzc : ∀ i, i < zs.length → ∃ b off, A = some ⟨b, off, none⟩ ∧ b < W.heap.size ∧ W.cell? ⟨b, off + i, none⟩ = some (.int .u8 (zs.getD i 0)) ∧ 0 ≤ zs.getD i 0 ∧ zs.getD i 0 ≤ 255 := fun i hi => by
    have hw : 0 ≤ zs.getD i 0 ∧ zs.getD i 0 ≤ 255 := by
      rw [List.getD_eq_getElem?_getD, List.getElem?_eq_getElem hi]
      exact wf_u8 (hz.wf _ (List.getElem_mem hi))
    rcases hz.cases with ⟨h, _⟩ | ⟨hn, b, off, cap', h1, h2, h3, h4, h5⟩
    · rw [h] at hi; simp at hi
    · cases h1
      exact ⟨b, off, rfl, h4, h5 i hi, hw⟩
  by_cases hlen : 100 < zs.length
  · go_enter Try.func3, Try.ntmps3
    go_wp2_with (go_at_call 8; refine (diskAwake_any _).mono ?_; rintro e w1 ⟨rfl, hB1⟩)
    go_ret
    exact ⟨rfl, hB1⟩
  have hlen' : (zs.length : Int) ≤ 100 := by omega
  obtain ⟨Z, hZ⟩ : ∃ Z, Z = rowArr 256 (fun _ => .int .u8 0) := ⟨_, rfl⟩
  have hZz : (Try.prog.info? 29).bind (·.zero) = some (.agg Z) := by rw [hZ]; exact zeros256
  replace hZ := Lib.hid hZ
  replace hZz := Lib.hid hZz
  go_enter Try.func3, Try.ntmps3
  go_wp2_with fail
  go_at_call 8; refine (diskAwake_any _).mono ?_; rintro e w1 ⟨rfl, hB1⟩
  have hS1 := hB1.size
  go_wp2_with fail
  go_at_call 9; refine (diskNew_ok 256 (by omega) _).mono ?_; rintro e w2 ⟨rfl, hd2, hb2⟩
  go_wp2_with fail
  go_at_call 10; refine (diskArm_ok hd2 a).mono ?_; rintro e w3 ⟨rfl, hd3, ht3⟩
  have hb3 : Below w1.heap.size w1 w3 := hb2.trans (ht3.toBelow (by omega) (Nat.le_refl _) hb2.size)
  have hS3 := hb3.size
  have hd3l := hd3.row.lt
  have hr4 : (w3.alloc (.cells Z 29)).rowIs w3.heap.size 29 256 (fun p => .int .u8 (wantAt zs a 0 p)) := by
    rw [hZ.out]; exact rowIs_of_arr (heap_alloc_last w3 _)
  have hd4 := hd3.kept (bnew w3 (.cells Z 29))
  have hb4 := hb3.alloc hb3.size (.cells Z 29)
  replace hr4 := Lib.hid hr4
  replace hd4 := Lib.hid hd4
  replace hb4 := Lib.hid hb4
  clear hd2 hd3 hb2
  go_wp2_with (refine wpList_allocTo rfl 29 rfl (some 7) rfl (.agg Z) hZz.out ?_)
  go_loopw [31] (fun v31 wr => ∃ i : Nat, i ≤ zs.length ∧ v31 = .int .i64 i ∧ DK wr (w1.heap.size + 1) w1.heap.size 256 (stopBytes zs a i) ((a : Int) - min i a) (decide (a < i)) ((min i a : Nat) : Int) 0 ∧
      wr.rowIs w3.heap.size 29 256 (fun p => .int .u8 (wantAt zs a i p)) ∧ Below w1.heap.size w1 wr)
      (fun v31 _ => ((zs.length : Int) - intOf v31).toNat)
  case atStart => exact ⟨0, by omega, rfl, hd4.out.congr (fun j _ => rfl) (by omega) (by simp) (by simp) rfl, hr4.out, hb4.out⟩
  case round =>
    obtain ⟨i, hi, rfl, hd, hr, hB⟩ := hrel
    clear hr4 hd4 hb4
    by_cases hlt : i < zs.length
    · obtain ⟨b, off, rfl, hbW, hc, hz0, hz1⟩ := hzc i hlt
      have hBW : Below W.heap.size W wr := hB1.trans (hB.mono (by omega))
      have hc1 := (hBW.cell (by exact hbW)).trans hc
      obtain ⟨m, hm⟩ : ∃ m : Nat, zs.getD i 0 = (m : Int) := ⟨(zs.getD i 0).toNat, by omega⟩
      rw [hm] at hc1 hz0 hz1
      have HM := Lib.hid hm
      clear hzc hc hm
      have hmod : ((i : Int) + 1) % 256 = (i : Int) + 1 := by omega
      obtain ⟨X, hX⟩ : ∃ X, X = rowArr 64 (lawCell ((i : Int) + 1)) := ⟨_, rfl⟩
      have HX := Lib.hid hX
      have HD := Lib.hid hd
      have HR := Lib.hid hr
      clear hd hr
      go_wp2_with fail
      go_at_call 12; refine (lawBlock_any ((i : Int) + 1) (by omega) (by omega) _).mono ?_; rintro e w5 ⟨he, hb5⟩
      rw [← hX] at he
      subst he
      clear hX
      have hd5 := HD.out.kept hb5
      have hr5 := Lib.hid (row_below HR.out hb5)
      have hB5 := hB.trans (hb5.mono hB.size)
      have hS5 := hb5.size
      have hr3l := HR.out.lt
      go_wp2_with fail
      by_cases hia : i < a
      · have hia' : (i : Int) < (a : Int) := by omega
        go_at_call 11; refine (diskWrite_ok' hd5 (by omega) (by omega) (by omega) (by omega) (by omega) m (by omega) (by simp; omega) (by omega) (D := lawCell ((i : Int) + 1)) (lawCell_u8 _) HX (x := m) rfl).mono ?_; rintro e w6 ⟨rfl, hd6, ht6⟩
        have hd7 : DK w6 (w1.heap.size + 1) w1.heap.size 256 (stopBytes zs a (i + 1)) ((a : Int) - min (i + 1) a) (decide (a < i + 1)) ((min (i + 1) a : Nat) : Int) 0 :=
          hd6.congr (fun j _ => stop_wrote zs a i m hia HM.out j) (by split <;> omega) (by simp; omega) (by omega) rfl
        have hr6 := ht6.row hr5.out (by omega) (by omega)
        have hB6 := hB5.trans (ht6.toBelow (by omega) (Nat.le_refl _) hB5.size)
        have c6 := hr6.cell (i := m) (by omega)
        have f6 := hr6.frozen
        clear hd5 hd6
        replace hd7 := Lib.hid hd7
        replace hr6 := Lib.hid hr6
        go_wp2_with fail
        refine ⟨⟨i + 1, by omega, by go_num, hd7.out.setOther (by omega) (by omega) _, (hr6.out.set m (.int .u8 ((i : Int) + 1))).congr (fun p hp => ?_), hB6.setCell (by show w1.heap.size ≤ w3.heap.size; omega) _⟩, by simp [intOf]; omega⟩
        have hm := HM.out
        simp only [wantAt, hm, hia, true_and]
        by_cases hp : p = m
        · subst hp; simp
        · rw [if_neg hp, if_neg (by omega)]
      · have hia' : ¬ (i : Int) < (a : Int) := by omega
        go_at_call 11; refine (diskWrite_no' hd5 m (by omega) (Or.inr (by omega)) HX (x := m) rfl).mono ?_; rintro e w6 ⟨rfl, hd6, ht6⟩
        have hd7 : DK w6 (w1.heap.size + 1) w1.heap.size 256 (stopBytes zs a (i + 1)) ((a : Int) - min (i + 1) a) (decide (a < i + 1)) ((min (i + 1) a : Nat) : Int) 0 :=
          hd6.congr (fun j _ => by unfold stopBytes; rw [stop_not zs a i hia]) (by omega) (by simp; omega) (by omega) rfl
        have hr6 := Lib.hid (ht6.row hr5.out (by omega) (by omega))
        have hB6 := hB5.trans (ht6.toBelow (by omega) (Nat.le_refl _) hB5.size)
        clear hd5 hd6
        replace hd7 := Lib.hid hd7
        go_wp2_with fail
        refine ⟨⟨i + 1, by omega, by go_num, hd7.out, hr6.out.congr (fun p _ => by rw [stop_not zs a i hia]), hB6⟩, by simp [intOf]; omega⟩
    · obtain rfl : i = zs.length := by omega
      clear hzc
      have HD := Lib.hid hd
      have HR := Lib.hid hr
      clear hd hr
      obtain ⟨wo, hwo⟩ : ∃ wo, wo = wr := ⟨_, rfl⟩
      subst hwo
      have hBW : Below W.heap.size W wo := hB1.trans (hB.mono (by omega))
      obtain ⟨Y, hY⟩ : ∃ Y, Y = rowArr 256 (fun p => .int .u8 (wantAt zs a zs.length p)) := ⟨_, rfl⟩
      have Ys : Y.size = 256 := by rw [hY]; exact rowArr_size _ _
      have Yg : ∀ p, p < 256 → Y[p]? = some (.int .u8 (wantAt zs a zs.length p)) := fun p hp => by rw [hY]; simp [rowArr, hp]
      have hYl : ∀ j v, Y.toList[j]? = some v → wo.cell? ⟨w3.heap.size, 0 + j, none⟩ = some v := fun j v h => by
        rw [hY] at h
        obtain ⟨h1, rfl⟩ := rowArr_get _ _ _ _ h
        rw [Nat.zero_add]; exact HR.out.cell h1
      have hYi : (Try.prog.info? 29).map (·.size) = some Y.size := by rw [Ys]; kernel_rfl
      replace hYl := Lib.hid hYl
      clear hY
      go_wp2_with (refine wpList_load_pieceTo rfl 29 (.tmp 7) rfl (some 68) rfl w3.heap.size 0 rfl Y (.array 256 5) hYl.out (by kernel_rfl) rfl hYi ?_)
      go_loopw [69] (fun v69 wr => ∃ p : Nat, p ≤ 256 ∧ v69 = .int .i64 p ∧ DK wr (w1.heap.size + 1) w1.heap.size 256 (stopBytes zs a zs.length) ((a : Int) - min zs.length a) (decide (a < zs.length)) ((min zs.length a : Nat) : Int) p ∧ Below w1.heap.size w1 wr)
        (fun v69 _ => (256 - intOf v69).toNat)
      case atStart => exact ⟨0, by omega, rfl, HD.out, hB⟩
      case round =>
        obtain ⟨p, hp, rfl, hd, hBr⟩ := hrel
        by_cases hlt : p < 256
        · have hx := Yg p hlt
          have hx0 := wantAt_le zs a zs.length p
          have hidx := fun w => run_index_row Y hx hlt w
          generalize hxe : wantAt zs a zs.length p = x at hx hx0 hidx
          replace hxe := Lib.hid hxe
          replace hd := Lib.hid hd
          clear Yg HR HD
          go_wp2_with fail
          obtain ⟨V, hV⟩ : ∃ V, V = rowArr 64 (blkByte x) := ⟨_, rfl⟩
          have hVc : rowArr 64 (fun j => stopBytes zs a zs.length (p * 64 + j)) = V := by
            rw [hV]
            refine rowArr_congr (fun j hj => ?_)
            have h1 : (p * 64 + j) / 64 = p := by omega
            have h2 : (p * 64 + j) % 64 = j := by omega
            unfold stopBytes
            rw [h1, h2, hxe.out]
          have hVs : V.size = 64 := by rw [hV]; exact rowArr_size _ _
          have hVu : U8s V.toList := by
            rw [hV]
            refine U8s.row (fun k hk => ?_)
            unfold blkByte
            split
            · exact ⟨0, rfl, by omega, by omega⟩
            · exact lawCell_u8 _ k hk
          have hVi : (Try.prog.info? 32).map (·.size) = some V.size := by rw [hVs]; exact block_size
          obtain ⟨X0, hX0⟩ : ∃ X, X = noughts := ⟨_, rfl⟩
          have hz0 : ((Try.prog.info? 32).bind (·.zero)) = some (.agg X0) := by rw [hX0]; exact noughts_zero
          replace hz0 := Lib.hid hz0
          go_at_call 13; refine (diskRead_ok hd.out (by omega) (by omega) (by omega) p hlt).mono ?_; rintro e w8 ⟨he, hd8, ht8⟩
          rw [hVc] at he
          subst he
          have hd8 := hd8.congr (reads' := ((p + 1 : Nat) : Int)) (fun _ _ => rfl) rfl rfl rfl (by omega)
          have hB8 := hBr.trans (ht8.toBelow (by omega) (Nat.le_refl _) hBr.size)
          have hS8 : w1.heap.size ≤ w8.heap.size := hB8.size
          have hrA : (w8.alloc (.cells X0 32)).rowIs w8.heap.size 32 64 (fun _ => .int .u8 0) := by rw [hX0]; exact rowIs_of_arr (heap_alloc_last w8 _)
          replace hrA := Lib.hid hrA
          clear hX0
          have hVo := hVu.one
          go_wp2_with (first
            | (refine wpList_allocTo rfl 32 rfl (some 14) rfl (.agg X0) hz0.out ?_)
            | (refine wpList_store_pieceTo rfl 32 (.tmp 14) (.tmp 77) rfl rfl w8.heap.size 0 V (by go_simp) (by go_simp) hVi (fun j hj => by rw [Nat.zero_add]; exact isSome_of (hrA.out.cell (by omega))) (fun j hj => hrA.out.frozen _) hVo ?_; intro w9 hw9; have HS := Lib.hid hw9; clear hw9))
          have hS := HS.out
          change w9 = (w8.alloc (.cells X0 32)).setCells w8.heap.size 0 V.toList at hS
          have hb9 : Below w8.heap.size w8 w9 := by rw [hS]; exact below_setCells (Nat.le_refl _) _ _ _ (bnew w8 _)
          have hr9 : w9.rowIs w8.heap.size 32 64 (blkByte x) := by
            rw [hS, hV]
            exact (rowIs_piece (m := 64) (off := 0) (h := blkByte x) hrA.out).congr (fun i hi => by rw [if_pos (by omega)]; rfl)
          clear HS hS hrA
          have hB9 := hB8.trans (hb9.mono hB8.size)
          have hd9 := hd8.kept hb9
          have hV14 : ∀ w', Below w9.heap.size w9.drew w' → ∀ j v, V.toList[j]? = some v → w'.cell? ⟨w8.heap.size, 0 + j, none⟩ = some v := fun w' hb j v h => by
            rw [hV] at h
            obtain ⟨h1, rfl⟩ := rowArr_get _ _ _ _ h
            rw [Nat.zero_add]; exact (row_below (w := w9.drew) hr9 hb).cell h1
          have hSd : Below w9.heap.size w9.drew w9.drew := Below.refl _ _
          have hBd : Below w1.heap.size w1 w9.drew := bdrewN hB9 1
          clear hd8 hr9 hxe
          by_cases hx0' : x = 0
          · have hV0 : V = noughts := by rw [hV, hx0']; exact rowArr_congr (fun i _ => rfl)
            have hVb : Try.prog.built 32 [] = some V := by rw [hV0]; kernel_rfl
            subst hx0'
            clear hV hV0 hVc
            refine wp_region_held (S := fun w' => Below w9.heap.size w9.drew w') (by kernel_rfl) ?_
            change wpAnyH _ _ _ _ _ _ _ _ (World.drew _)
            refine takeH 0 (.int .u8 0) (some 79) rfl rfl (by kernel_rfl) (by kernel_rfl) (by kernel_rfl) (fun _ _ _ h => h) (.inl ⟨by kernel_rfl, fun w _ => by go_simp⟩) hSd ?_
            refine takeH 1 (.bool true) (some 80) rfl rfl (by kernel_rfl) (by kernel_rfl) (by kernel_rfl) (fun _ _ _ h => h) (.inl ⟨by kernel_rfl, fun w _ => by go_simp⟩) hSd ?_
            refine takeH 2 (.bool true) (some 81) rfl rfl (by kernel_rfl) (by kernel_rfl) (by kernel_rfl) (fun _ _ _ h => h) (.inl ⟨by kernel_rfl, fun w _ => by go_simp⟩) hSd ?_
            refine takeH 3 (.agg V) (some 82) rfl rfl (by kernel_rfl) (by kernel_rfl) (by kernel_rfl) (fun _ _ _ h => h) (yi_piece (by kernel_rfl) 32 (.tmp 14) rfl w8.heap.size 0 (by go_simp) V (.array 64 5) hV14 block_under rfl hVi) hSd ?_
            refine takeH 4 (.agg V) (some 83) rfl rfl (by kernel_rfl) (by kernel_rfl) (by kernel_rfl) (fun _ _ _ h => h) (yi_build (by kernel_rfl) 32 #[] rfl V (by simpa using hVb)) hSd ?_
            refine takeH 5 (.bool false) (some 84) rfl rfl (by kernel_rfl) (by kernel_rfl) (by kernel_rfl) (fun _ _ _ h => h) (.inl ⟨by kernel_rfl, fun w _ => exec_neq (xs := V) (ys := V) rfl (by go_simp) (by go_simp) (by kernel_rfl) (equal_u8s hVu hVs w)⟩) hSd ?_
            refine takeH 6 (.bool false) (some 85) rfl rfl (by kernel_rfl) (by kernel_rfl) (by kernel_rfl) (fun _ _ _ h => h) (.inl ⟨by kernel_rfl, fun w _ => by go_simp⟩) hSd ?_
            refine takeH 7 (.bool false) (some 86) rfl rfl (by kernel_rfl) (by kernel_rfl) (by kernel_rfl) (fun _ _ _ h => h) (.inl ⟨by kernel_rfl, fun w _ => by go_simp⟩) hSd ?_
            refine takeH 8 (.int .u8 0) (some 87) rfl rfl (by kernel_rfl) (by kernel_rfl) (by kernel_rfl) (fun _ _ _ h => h) (.inl ⟨by kernel_rfl, fun w _ => by go_simp⟩) hSd ?_
            refine takeH 9 (.bool false) (some 88) rfl rfl (by kernel_rfl) (by kernel_rfl) (by kernel_rfl) (fun _ _ _ h => h) (.inl ⟨by kernel_rfl, fun w _ => by go_simp⟩) hSd ?_
            refine takeH 10 (.bool false) (some 89) rfl rfl (by kernel_rfl) (by kernel_rfl) (by kernel_rfl) (fun _ _ _ h => h) (.inl ⟨by kernel_rfl, fun w _ => by go_simp⟩) hSd ?_
            refine takeH 11 (undef) (some 90) rfl rfl (by kernel_rfl) (by kernel_rfl) (by kernel_rfl) (fun _ _ _ h => h) (.inr ⟨by kernel_rfl, rfl⟩) hSd ?_
            refine takeH 12 (undef) (some 91) rfl rfl (by kernel_rfl) (by kernel_rfl) (by kernel_rfl) (fun _ _ _ h => h) (.inr ⟨by kernel_rfl, rfl⟩) hSd ?_
            refine takeH 13 (undef) (some 92) rfl rfl (by kernel_rfl) (by kernel_rfl) (by kernel_rfl) (fun _ _ _ h => h) (.inr ⟨by kernel_rfl, rfl⟩) hSd ?_
            refine takeH 14 (undef) (some 93) rfl rfl (by kernel_rfl) (by kernel_rfl) (by kernel_rfl) (fun _ _ _ h => h) (.inr ⟨by kernel_rfl, rfl⟩) hSd ?_
            refine takeH 15 (.bool false) (some 94) rfl rfl (by kernel_rfl) (by kernel_rfl) (by kernel_rfl) (fun _ _ _ h => h) (.inl ⟨by kernel_rfl, fun w _ => by go_simp⟩) hSd ?_
            refine takeH 16 (.bool false) (some 95) rfl rfl (by kernel_rfl) (by kernel_rfl) (by kernel_rfl) (fun _ _ _ h => h) (.inl ⟨by kernel_rfl, fun w _ => by go_simp⟩) hSd ?_
            refine wpAnyH_done (by kernel_rfl) ?_ _
            go_simp
            have hd10 := Lib.hid (hd9.drewN 1)
            clear hd9 hV14
            go_wp2_with fail
            exact ⟨⟨p + 1, by omega, by go_num, hd10.out, hBd⟩, by simp [intOf]; omega⟩
          · have hxn : ((x : Int) == 0) = false := by simp; omega
            have hxp : (0 : Int) < (x : Int) := by omega
            have hxp' : 0 < x := by omega
            have hVx : V = rowArr 64 (lawCell (x : Int)) := by
              rw [hV]
              refine rowArr_congr (fun i _ => ?_)
              unfold blkByte
              rw [if_neg hx0']
            clear hV hVc
            refine wp_region_held (S := fun w' => Below w9.heap.size w9.drew w') (by kernel_rfl) ?_
            change wpAnyH _ _ _ _ _ _ _ _ (World.drew _)
            refine takeH 0 (.int .u8 x) (some 79) rfl rfl (by kernel_rfl) (by kernel_rfl) (by kernel_rfl) (fun _ _ _ h => h) (.inl ⟨by kernel_rfl, fun w _ => by go_simp⟩) hSd ?_
            refine takeH 1 (.bool false) (some 80) rfl rfl (by kernel_rfl) (by kernel_rfl) (by kernel_rfl) (fun _ _ _ h => h) (.inl ⟨by kernel_rfl, fun w _ => by go_simp⟩) hSd ?_
            refine takeH 2 (.bool false) (some 81) rfl rfl (by kernel_rfl) (by kernel_rfl) (by kernel_rfl) (fun _ _ _ h => h) (.inl ⟨by kernel_rfl, fun w _ => by go_simp⟩) hSd ?_
            refine takeH 3 (undef) (some 82) rfl rfl (by kernel_rfl) (by kernel_rfl) (by kernel_rfl) (fun _ _ _ h => h) (.inr ⟨by kernel_rfl, rfl⟩) hSd ?_
            refine takeH 4 (undef) (some 83) rfl rfl (by kernel_rfl) (by kernel_rfl) (by kernel_rfl) (fun _ _ _ h => h) (.inr ⟨by kernel_rfl, rfl⟩) hSd ?_
            refine takeH 5 (undef) (some 84) rfl rfl (by kernel_rfl) (by kernel_rfl) (by kernel_rfl) (fun _ _ _ h => h) (.inr ⟨by kernel_rfl, rfl⟩) hSd ?_
            refine takeH 6 (.bool false) (some 85) rfl rfl (by kernel_rfl) (by kernel_rfl) (by kernel_rfl) (fun _ _ _ h => h) (.inl ⟨by kernel_rfl, fun w _ => by go_simp⟩) hSd ?_
            refine takeH 7 (.bool false) (some 86) rfl rfl (by kernel_rfl) (by kernel_rfl) (by kernel_rfl) (fun _ _ _ h => h) (.inl ⟨by kernel_rfl, fun w _ => by go_simp⟩) hSd ?_
            refine takeH 8 (.int .u8 x) (some 87) rfl rfl (by kernel_rfl) (by kernel_rfl) (by kernel_rfl) (fun _ _ _ h => h) (.inl ⟨by kernel_rfl, fun w _ => by go_simp⟩) hSd ?_
            refine takeH 9 (.bool true) (some 88) rfl rfl (by kernel_rfl) (by kernel_rfl) (by kernel_rfl) (fun _ _ _ h => h) (.inl ⟨by kernel_rfl, fun w _ => by go_simp⟩) hSd ?_
            refine takeH 10 (.bool true) (some 89) rfl rfl (by kernel_rfl) (by kernel_rfl) (by kernel_rfl) (fun _ _ _ h => h) (.inl ⟨by kernel_rfl, fun w _ => by go_simp⟩) hSd ?_
            refine takeH 11 (.agg V) (some 90) rfl rfl (by kernel_rfl) (by kernel_rfl) (by kernel_rfl) (fun _ _ _ h => h) (yi_piece (by kernel_rfl) 32 (.tmp 14) rfl w8.heap.size 0 (by go_simp) V (.array 64 5) hV14 block_under rfl hVi) hSd ?_
            refine takeH 12 (.int .u8 x) (some 91) rfl rfl (by kernel_rfl) (by kernel_rfl) (by kernel_rfl) (fun _ _ _ h => h) (.inl ⟨by kernel_rfl, fun w _ => by go_simp⟩) hSd ?_
            refine callH 13 rfl (by kernel_rfl) (by kernel_rfl) (some 92) rfl 12 #[.int .u8 x] ?hrun ((lawBlock_any (x : Int) (by omega) (by omega) _).mono ?_)
            case hrun => go_simp
            rintro e w10 ⟨he, hb10⟩
            have hSw : Below w9.heap.size w9.drew w10 := hb10
            refine ⟨.agg V, by rw [he, hVx], hSw, ?_⟩
            refine takeH 14 (.bool false) (some 93) rfl rfl (by kernel_rfl) (by kernel_rfl) (by kernel_rfl) (fun _ _ _ h => h) (.inl ⟨by kernel_rfl, fun w _ => exec_neq (xs := V) (ys := V) rfl (by go_simp) (by go_simp) (by kernel_rfl) (equal_u8s hVu hVs w)⟩) hSw ?_
            refine takeH 15 (.bool false) (some 94) rfl rfl (by kernel_rfl) (by kernel_rfl) (by kernel_rfl) (fun _ _ _ h => h) (.inl ⟨by kernel_rfl, fun w _ => by go_simp⟩) hSw ?_
            refine takeH 16 (.bool false) (some 95) rfl rfl (by kernel_rfl) (by kernel_rfl) (by kernel_rfl) (fun _ _ _ h => h) (.inl ⟨by kernel_rfl, fun w _ => by go_simp⟩) hSw ?_
            refine wpAnyH_done (by kernel_rfl) ?_ _
            go_simp
            have hd10 := Lib.hid ((hd9.drewN 1).kept hb10)
            have hB10 : Below w1.heap.size w1 w10 := hBd.trans (hb10.mono hB9.size)
            clear hd9 hV14 hVx
            go_wp2_with fail
            exact ⟨⟨p + 1, by omega, by go_num, hd10.out, hB10⟩, by simp [intOf]; omega⟩
        · obtain rfl : p = 256 := by omega
          have hB2 : Below W.heap.size W wr := hB1.trans (hBr.mono hS1)
          have hd' := Lib.hid hd
          clear hd HD HR
          by_cases hfin : a < zs.length
          · have hfin' : (a : Int) < (zs.length : Int) := by omega
            go_wp2_with (go_at_call 14; refine (diskDead_ok hd'.out).mono ?_; rintro e wx ⟨he, hx⟩; rw [show decide (a < zs.length) = true by simp [hfin]] at he; subst he; subst hx)
            go_ret
            exact ⟨rfl, hB2⟩
          · have hfin' : ¬ (a : Int) < (zs.length : Int) := by omega
            go_wp2_with (go_at_call 14; refine (diskDead_ok hd'.out).mono ?_; rintro e wx ⟨he, hx⟩; rw [show decide (a < zs.length) = false by simp; omega] at he; subst he; subst hx)
            go_ret
            exact ⟨rfl, hB2⟩
end Go.Proofs.Ytcjnnonfnlemmaa
