/- The law DiskPlays: the walk. -/
import Derived.Test.YtcjnnonfnlemmaaDiskM
import Derived.Deep.CutBlock
set_option linter.unusedVariables false
set_option linter.unusedSimpArgs false
namespace Go.Proofs.Ytcjnnonfnlemmaa
open Go.RowKit

/-- Both disks: what they hold. -/
structure Both (W w : World) (g gb g' gb' n : Nat) (k : Nat) (C : Nat → Value) (left : Int) (dead : Bool) (writes reads : Int) : Prop where
  dk : DK w g gb n C left dead writes reads
  rk : RK w g' gb' n C left dead reads writes
  l0 : -1 ≤ left
  l1 : left ≤ 9223372036854775807
  w0 : 0 ≤ writes
  w1 : writes ≤ k
  r0 : 0 ≤ reads
  r1 : reads ≤ k
  below : Below W.heap.size W w

theorem RK.kept' {w w' : World} {g gb n : Nat} {C : Nat → Value} {left : Int} {dead : Bool} {writes reads : Int} (h : RK w g gb n C left dead writes reads) (hb : Below w.heap.size w w') : RK w' g gb n C left dead writes reads := h.kept hb
theorem Both.kept {W w w' : World} {g gb g' gb' n k : Nat} {C : Nat → Value} {left : Int} {dead : Bool} {writes reads : Int} (h : Both W w g gb g' gb' n k C left dead writes reads) (hb : Below w.heap.size w w') : Both W w' g gb g' gb' n k C left dead writes reads :=
  ⟨h.dk.kept hb, h.rk.kept hb, h.l0, h.l1, h.w0, h.w1, h.r0, h.r1, h.below.trans (hb.mono h.below.size)⟩

theorem RK.two {w w' : World} {g gb r rb n : Nat} {C : Nat → Value} {left : Int} {dead : Bool} {writes reads : Int} (h : RK w g gb n C left dead writes reads) (t : Two w w' r rb) (h1 : g ≠ r) (h2 : g ≠ rb) (h3 : gb ≠ r) (h4 : gb ≠ rb) : RK w' g gb n C left dead writes reads :=
  ⟨t.row h.row h1 h2, t.row h.blk h3 h4, h.ne, h.one⟩
theorem DK.two {w w' : World} {g gb r rb n : Nat} {C : Nat → Value} {left : Int} {dead : Bool} {writes reads : Int} (h : DK w g gb n C left dead writes reads) (t : Two w w' r rb) (h1 : g ≠ r) (h2 : g ≠ rb) (h3 : gb ≠ r) (h4 : gb ≠ rb) : DK w' g gb n C left dead writes reads :=
  ⟨t.row h.row h1 h2, t.row h.blk h3 h4, h.ne, h.one⟩
theorem DK.below {w w' : World} {g gb n : Nat} {C : Nat → Value} {left : Int} {dead : Bool} {writes reads : Int} (h : DK w g gb n C left dead writes reads) (hb : Below w.heap.size w w') : DK w' g gb n C left dead writes reads := h.kept hb

/-- A block is laid into a new variable. -/
theorem put_block (w : World) {X0 V : Array Value} (hX : X0.size = 64) (hV : V.size = 64) :
    (∀ j, j < V.size → ((w.alloc (.cells X0 32)).cell? ⟨w.heap.size, 0 + j, none⟩).isSome = true) ∧ (∀ j, j < V.size → (w.alloc (.cells X0 32)).frozen? ⟨w.heap.size, 0 + j, none⟩ = false) ∧
    ∀ w' : World, w' = (w.alloc (.cells X0 32)).setCells w.heap.size 0 V.toList → Below w.heap.size w w' ∧ w.heap.size < w'.heap.size ∧ ∀ w'' : World, (∀ k, k = w.heap.size → w''.heap[k]? = w'.heap[k]?) → ∀ j v, V.toList[j]? = some v → w''.cell? ⟨w.heap.size, 0 + j, none⟩ = some v := by
  have hr : (w.alloc (.cells X0 32)).rowIs w.heap.size 32 64 (fun i => X0.toList.getD i undef) :=
    ⟨X0, heap_alloc_last w _, hX, fun i hi => by simp [List.getD_eq_getElem?_getD, hX, hi]⟩
  refine ⟨fun j hj => by rw [Nat.zero_add]; exact isSome_of (hr.cell (by omega)), fun j _ => hr.frozen _, fun w' hw' => ?_⟩
  have hr2 : w'.rowIs w.heap.size 32 64 (fun j => if 0 ≤ j ∧ j < 0 + V.toList.length then V.toList[j - 0]?.getD default else X0.toList.getD j undef) := by rw [hw']; exact rowIs_setCells V.toList 0 _ _ hr
  refine ⟨by rw [hw']; exact below_setCells (Nat.le_refl _) _ _ _ (bnew w _), hr2.lt, fun w'' hk j v hv => ?_⟩
  have hr3 := hr2.of_block (hk _ rfl)
  have hj : j < V.toList.length := by
    rcases Nat.lt_or_ge j V.toList.length with h | h
    · exact h
    · rw [List.getElem?_eq_none h] at hv; cases hv
  have hl : V.toList.length = 64 := by simpa using hV
  rw [Nat.zero_add, hr3.cell (by omega)]
  rw [if_pos (by omega)]
  simp only [Nat.sub_zero, hv, Option.getD_some]

theorem DK.setOther' {w : World} {g gb n r i : Nat} {C : Nat → Value} {left : Int} {dead : Bool} {writes reads : Int} (h : DK w g gb n C left dead writes reads) (h1 : g ≠ r) (h2 : gb ≠ r) (v : Value) : DK (w.setCell ⟨r, i, none⟩ v) g gb n C left dead writes reads := h.setOther h1 h2 v

theorem Both.drewN {W w : World} {g gb g' gb' n k : Nat} {C : Nat → Value} {left : Int} {dead : Bool} {writes reads : Int} (h : Both W w g gb g' gb' n k C left dead writes reads) (m : Nat) : Both W (w.drewN m) g gb g' gb' n k C left dead writes reads :=
  ⟨h.dk.drewN m, h.rk.drewN m, h.l0, h.l1, h.w0, h.w1, h.r0, h.r1, bdrewN h.below m⟩

theorem act_arg {W : World} {xs : List Value} {n : Nat} (h : ∀ i, i < n → ∃ m, Okay Try.prog W m 48 ((xs.drop (i * 4)).take 4)) (i : Nat) (hi : i < n) :
    ∃ (kd : Int) (x : Int) (b : Int) (raw : Bool), (xs.drop (i * 4)).take 4 = [.int .u8 kd, .int .i64 x, .int .u8 b, .bool raw] ∧ (0 ≤ kd ∧ kd ≤ 255) ∧ (-9223372036854775808 ≤ x ∧ x ≤ 9223372036854775807) ∧ (0 ≤ b ∧ b ≤ 255) := by
  obtain ⟨m, ho⟩ := h i hi
  have hk : cellKinds Try.prog 3 48 = some [⟨0, .u8, 0⟩, ⟨0, .i64, 0⟩, ⟨0, .u8, 0⟩, ⟨1, .i64, 0⟩] := by kernel_rfl
  have hf := Okay.fits 3 _ m _ _ ho hk
  obtain ⟨v0, us0, e0, ⟨kd, h0e, h0⟩, hf0⟩ := hf.cons
  obtain ⟨v1, us1, e1, ⟨x, h1e, h1⟩, hf1⟩ := hf0.cons
  obtain ⟨v2, us2, e2, ⟨b, h2e, h2⟩, hf2⟩ := hf1.cons
  obtain ⟨v3, us3, e3, ⟨raw, h3e⟩, hf3⟩ := hf2.cons
  have e4 := hf3.nil
  refine ⟨kd, x, b, raw, ?_, wf_u8 h0, wf_i64 h1, wf_u8 h2⟩
  rw [e0, e1, e2, e3, e4, h0e, h1e, h2e, h3e]

theorem act_four : Try.prog.cellsOf 48 = 4 := by kernel_rfl

/-- A slice of calls: the cells of each. -/
theorem act_cells {w : World} {A : Option Addr} {n cap : Nat} {xs : List Value} (h : SR w (.slice A n cap) n 4 xs) (i : Nat) (hi : i < n) {a b c d : Value} (he : (xs.drop (i * 4)).take 4 = [a, b, c, d]) :
    ∃ g off, A = some ⟨g, off, none⟩ ∧ g < w.heap.size ∧ w.cell? ⟨g, off + i * 4, none⟩ = some a ∧ w.cell? ⟨g, off + i * 4 + 1, none⟩ = some b ∧ w.cell? ⟨g, off + i * 4 + 2, none⟩ = some c ∧ w.cell? ⟨g, off + i * 4 + 3, none⟩ = some d := by
  obtain ⟨g, off, rfl, hg, hc⟩ := h.at (by omega)
  have key : ∀ j, j < 4 → w.cell? ⟨g, off + i * 4 + j, none⟩ = [a, b, c, d][j]? := fun j hj => by
    rw [← he, List.getElem?_take_of_lt hj, List.getElem?_drop, Nat.add_assoc, hc _ (by omega)]
  exact ⟨g, off, rfl, hg, key 0 (by omega), key 1 (by omega), key 2 (by omega), key 3 (by omega)⟩

set_option maxRecDepth 10000 in
set_option maxHeartbeats 4000000 in
theorem diskPlays_walk (W : World) (v0 v1 : Value) (o0 : Arg Try.prog W 5 v0) (o1 : Arg Try.prog W 43 v1) :
    Calls Try.prog 5 #[v0, v1] W fun e w' => e = .returned (.bool true) ∧ Below W.heap.size W w' := by
  obtain ⟨zm, rfl, hwm⟩ := Arg.int Try.underlying5 o0
  have hzm := wf_u8 hwm
  obtain ⟨N, xs, hsr, hact⟩ := SR.of_arg Try.underlying43 (by rw [act_four]; omega) o1
  rw [act_four] at hsr hact
  clear o0 o1
  obtain ⟨A, cap, rfl, hlc, hcm⟩ := hsr.form
  have hact := fun i hi => act_arg hact i hi
  obtain ⟨n, hn, hn20⟩ : ∃ n : Nat, zm % 20 = (n : Int) ∧ n < 20 := ⟨(zm % 20).toNat, by omega, by omega⟩
  have hmk : ∀ w, (Instr.makeSlice 37 (.int .i64 (n : Int)) (.int .i64 (n : Int))).run Try.prog w = .ok (.slice (some ⟨w.heap.size, 0, none⟩) n n) (w.alloc (.cells (madeCells noughts (n * 64)) 32)) := fun w => by
    obtain ⟨i, hi, hz, hz1, hz2⟩ := info_parts block_row
    have := run_make (P := Try.prog) w 37 32 i (.agg noughts) Try.underlying37 hi hz .i64 .i64 n n (by omega) (Int.le_refl _) (by rw [hz2]; omega) (by omega)
    rw [hz1] at this
    simpa [Value.cells] using this
  have HS := Lib.hid hsr
  have HA := Lib.hid hact
  clear hsr hact
  go_enter Try.func5, Try.ntmps5
  go_wp2_with fail
  go_at_call 8; refine (diskAwake_any _).mono ?_; rintro e w1 ⟨rfl, hB1⟩
  have hS1 := hB1.size
  go_wp2_with fail
  go_at_call 9; refine (diskNew_ok n (by omega) _).mono ?_; rintro e w2 ⟨rfl, hd2, hb2⟩
  have hS2 := hb2.size
  have hg2 := hd2.row.lt
  have hB2 : Below W.heap.size W w2 := hB1.trans (hb2.mono hS1)
  have hmade := made_noughts w2 n 32
  have hb3 := bnew w2 (.cells (madeCells noughts (n * 64)) 32)
  have hs3 : (w2.alloc (.cells (madeCells noughts (n * 64)) 32)).heap.size = w2.heap.size + 1 := by simp
  generalize hw3 : w2.alloc (.cells (madeCells noughts (n * 64)) 32) = w3 at *
  have hbR := bnew w3 (.cells #[.slice (some ⟨w2.heap.size, 0, none⟩) n n, .int .i64 (-1), .bool false, .int .i64 0, .int .i64 0] 46)
  have hR : RK (w3.alloc (.cells #[.slice (some ⟨w2.heap.size, 0, none⟩) n n, .int .i64 (-1), .bool false, .int .i64 0, .int .i64 0] 46)) (w2.heap.size + 1) w2.heap.size n (fun _ => .int .u8 0) (-1) false 0 0 := by
    refine ⟨?_, hmade.alloc _, by omega, fun k _ => ⟨0, rfl, by omega, by omega⟩⟩
    refine ⟨_, by rw [← hs3]; exact heap_alloc_last _ _, rfl, fun i hi => ?_⟩
    have h5 : i = 0 ∨ i = 1 ∨ i = 2 ∨ i = 3 ∨ i = 4 := by omega
    rcases h5 with rfl | rfl | rfl | rfl | rfl <;> rfl
  have hB4 : Below w2.heap.size w2 (w3.alloc (.cells #[.slice (some ⟨w2.heap.size, 0, none⟩) n n, .int .i64 (-1), .bool false, .int .i64 0, .int .i64 0] 46)) := hb3.trans (hbR.mono hb3.size)
  have hBoth : Both W _ (w1.heap.size + 1) w1.heap.size (w2.heap.size + 1) w2.heap.size n 0 (fun _ => .int .u8 0) (-1) false 0 0 :=
    ⟨hd2.kept hB4, hR, by omega, by omega, by omega, by omega, by omega, by omega, hB2.trans (hB4.mono hB2.size)⟩
  replace hBoth := Lib.hid hBoth
  clear hR hB4 hbR hb3 hmade hd2
  go_wp2_with fail
  go_loopw [34] (fun v34 wr => ∃ i : Nat, i ≤ N ∧ v34 = .int .i64 i ∧ ∃ C left dead writes reads, Both W wr (w1.heap.size + 1) w1.heap.size (w2.heap.size + 1) w2.heap.size n i C left dead writes reads)
      (fun v34 _ => ((N : Int) - intOf v34).toNat)
  case atStart => exact ⟨0, by omega, rfl, _, _, _, _, _, hBoth.out⟩
  case round =>
    obtain ⟨i, hi, rfl, C, left, dead, writes, reads, hb⟩ := hrel
    clear hBoth
    by_cases hlt : i < N
    · have hBW : Below W.heap.size W wr := hb.below
      obtain ⟨kd, x, b, raw, he, hkd, hx, hbb⟩ := HA.out i hlt
      obtain ⟨ga, off, rfl, hga, c0, c1, c2, c3⟩ := act_cells HS.out i hlt he
      have a0 := (hBW.cell (by exact hga)).trans c0
      have a1 := (hBW.cell (by exact hga)).trans c1
      have a2 := (hBW.cell (by exact hga)).trans c2
      have a3 := (hBW.cell (by exact hga)).trans c3
      clear c0 c1 c2 c3 he
      have hb' := Lib.hid hb
      clear hb
      by_cases h80 : 80 < i
      · have h80' : (80 : Int) < (i : Int) := by omega
        have hbN := bnew wr (.cells #[.int .u8 kd, .int .i64 x, .int .u8 b, .bool raw] 48)
        have hBl := (hb'.out.kept hbN).below
        have HB := Lib.hid (hb'.out.kept hbN).dk
        clear hb'
        go_wp2_with (go_at_call 16; refine (diskLen_ok HB.out).mono ?_; rintro e wx ⟨he, hx⟩; subst he; subst hx)
        go_ret
        exact ⟨rfl, hBl⟩
      · have h80' : (i : Int) ≤ 80 := by omega
        have hbA := hb'.out.below
        have hrow := heap_alloc_last wr (.cells #[.int .u8 kd, .int .i64 x, .int .u8 b, .bool raw] 48)
        have hbN := bnew wr (.cells #[.int .u8 kd, .int .i64 x, .int .u8 b, .bool raw] 48)
        go_upto_if 45 with fail
        generalize wr.alloc (.cells #[.int .u8 kd, .int .i64 x, .int .u8 b, .bool raw] 48) = wA at *
        have hbt := Lib.hid (hb'.out.kept hbN)
        have hq := rowlt hrow
        have hqr : w2.heap.size + 1 < wr.heap.size := hb'.out.rk.row.lt
        have hqq : w1.heap.size + 1 < w2.heap.size := hg2
        clear hb'
        generalize wr.heap.size = q at *
        clear hbN
        go_cut [11] (fun s11 wx => ∃ y : Int, s11 = .int .i64 y ∧ -9223372036854775808 ≤ y ∧ y ≤ 9223372036854775807 ∧ wx = wA)
        case first =>
          cases raw
          · go_wp2_with fail
            go_meet
            exact ⟨_, rfl, (wf_i64 (wrap64_wf _)).1, (wf_i64 (wrap64_wf _)).2, rfl⟩
          · go_wp2_with fail
            go_meet
            exact ⟨_, rfl, by omega, by omega, rfl⟩
        case rest =>
          obtain ⟨y, rfl, hy0, hy1, rfl⟩ := hcut
          go_at_K
          go_step
          go_step
          have hbL0 := hbt.out.l0
          have hbL1 := hbt.out.l1
          have a0' := rowcell hrow 0
          have hWc := hbt.out.below.size
          go_cut [12, 13, 14, 15] (fun s12 s13 s14 s15 wx => ∃ C left dead writes reads, Both W wx (w1.heap.size + 1) w1.heap.size (w2.heap.size + 1) w2.heap.size n (i + 1) C left dead writes reads)
          case first =>
            have hcell0 : wc.cell? ⟨q, 0, none⟩ = some (.int .u8 kd) := a0'
            by_cases k3 : kd % 7 = 3
            · have hdk := hbt.out.dk
              have hrk := hbt.out.rk
              have hw0 := hbt.out.w0
              have hw1 := hbt.out.w1
              have hr0 := hbt.out.r0
              have hr1 := hbt.out.r1
              have hBl := hbt.out.below
              obtain ⟨X0, hX0⟩ : ∃ X, X = noughts := ⟨_, rfl⟩
              have X0s : X0.size = 64 := by rw [hX0]; exact rowArr_size _ _
              have hz0 : ((Try.prog.info? 32).bind (·.zero)) = some (.agg X0) := by rw [hX0]; exact noughts_zero
              replace hz0 := Lib.hid hz0
              clear hX0
              obtain ⟨V, hV⟩ : ∃ V, V = rdV C n y := ⟨_, rfl⟩
              obtain ⟨c, hc⟩ : ∃ c, c = rdE n y := ⟨_, rfl⟩
              have Vs : V.size = 64 := by rw [hV]; exact rdV_size _ _ _
              have Vu : U8s V.toList := by rw [hV]; exact rdV_u8 hdk.one y
              have Vo := Vu.one
              have Vi : (Try.prog.info? 32).map (·.size) = some V.size := by rw [Vs]; exact block_size
              have hDKh := Lib.hid hdk
              have hRKh := Lib.hid hrk
              clear hdk hrk hbt
              go_wp2_with fail
              go_at_call 13; refine (diskRead_any hDKh.out hr0 (by omega) (by omega) y).mono ?_; rintro e w5 ⟨he, hd5, ht5⟩
              rw [← hV, ← hc] at he
              subst he
              have hr5 := hRKh.out.two ht5 (by omega) (by omega) (by omega) (by omega)
              have hB5 := hBl.trans (ht5.toBelow (by omega) (by omega) hBl.size)
              have P5 := put_block w5 X0s Vs
              replace hd5 := Lib.hid hd5
              replace hr5 := Lib.hid hr5
              clear hDKh hRKh
              go_wp2_with (first
                | (refine wpList_allocTo rfl 32 rfl (some 12) rfl (.agg X0) hz0.out ?_)
                | (refine wpList_store_pieceTo rfl 32 (.tmp 12) (.tmp 73) rfl rfl w5.heap.size 0 V (by go_simp) (by go_simp) Vi P5.1 P5.2.1 Vo ?_; intro w6 hw6; have HS6 := Lib.hid hw6; clear hw6))
              obtain ⟨hb6, hl6, hc6⟩ := P5.2.2 w6 HS6.out
              clear HS6 P5
              have hd6 := Lib.hid (hd5.out.kept hb6)
              have hr6 := hr5.out.kept hb6
              have hB6 := hB5.trans (hb6.mono hB5.size)
              have hS5 : w2.heap.size + 1 < w5.heap.size := hr5.out.row.lt
              replace hc6 := Lib.hid hc6
              clear hd5 hr5
              go_at_call 19; refine (refRead_any hr6 hr0 (by omega) (by omega) y).mono ?_; rintro e w7 ⟨he, hr7, ht7⟩
              rw [← hV, ← hc] at he
              subst he
              have hd7 := hd6.out.two ht7 (by omega) (by omega) (by omega) (by omega)
              have hB7 := hB6.trans (ht7.toBelow (by omega) (by omega) hB6.size)
              have P7 := put_block w7 X0s Vs
              have hS7 : w6.heap.size ≤ w7.heap.size := ht7.size
              have hq7 : w7.heap[w5.heap.size]? = w6.heap[w5.heap.size]? := ht7.block _ hl6 (by omega) (by omega)
              replace hd7 := Lib.hid hd7
              replace hr7 := Lib.hid hr7
              clear hd6 hr6
              go_wp2_with (first
                | (refine wpList_allocTo rfl 32 rfl (some 14) rfl (.agg X0) hz0.out ?_)
                | (refine wpList_store_pieceTo rfl 32 (.tmp 14) (.tmp 79) rfl rfl w7.heap.size 0 V (by go_simp) (by go_simp) Vi P7.1 P7.2.1 Vo ?_; intro w8 hw8; have HS8 := Lib.hid hw8; clear hw8)
                | (with_reducible refine wpList_stop (some 81) rfl ?_))
              obtain ⟨hb8, hl8, hc8⟩ := P7.2.2 w8 HS8.out
              clear HS8 P7
              have hd8 := Lib.hid (hd7.out.kept hb8)
              have hr8 := Lib.hid (hr7.out.kept hb8)
              have hB8 := hB7.trans (hb8.mono hB7.size)
              have hcA := Lib.hid (hc6.out w8 (fun k hk => by rw [hk, hb8.block _ (by omega), hq7]))
              have hcB := Lib.hid (hc8 w8 (fun k _ => rfl))
              clear hc8 hc6 hd7 hr7
              refine Lib.hid ?_
              refine wpList_load_pieceTo rfl 32 (.tmp 12) rfl (some 81) rfl w5.heap.size 0 ?hx V (.array 64 5) hcA.out block_under rfl Vi ?_
              case hx => go_simp
              refine wpList_load_pieceTo rfl 32 (.tmp 14) rfl (some 82) rfl w7.heap.size 0 ?hx V (.array 64 5) hcB.out block_under rfl Vi ?_
              case hx => go_simp
              refine wpList_by ?hw (some 83) rfl (exec_neq (xs := V) (ys := V) rfl ?hx ?hy ?hm (equal_u8s Vu Vs _)) ?_
              case hw => kernel_rfl
              case hm => kernel_rfl
              case hx => go_simp
              case hy => go_simp
              clear hcA hcB
              go_wp2_with fail
              go_meet
              have h1 := rd1_le n y
              exact ⟨_, _, _, _, _, ⟨hd8.out, hr8.out, hbL0, hbL1, hw0, by omega, by omega, by omega, hB8⟩⟩
            by_cases k4 : kd % 7 = 4
            · have n3 : ((kd % 7 : Int) == 3) = false := by simp; omega
              have hdk := hbt.out.dk
              have hrk := hbt.out.rk
              have hw0 := hbt.out.w0
              have hw1 := hbt.out.w1
              have hr0 := hbt.out.r0
              have hr1 := hbt.out.r1
              have hBl := hbt.out.below
              obtain ⟨X0, hX0⟩ : ∃ X, X = noughts := ⟨_, rfl⟩
              have X0s : X0.size = 64 := by rw [hX0]; exact rowArr_size _ _
              have hz0 : ((Try.prog.info? 32).bind (·.zero)) = some (.agg X0) := by rw [hX0]; exact noughts_zero
              replace hz0 := Lib.hid hz0
              clear hX0
              obtain ⟨V, hV⟩ : ∃ V, V = rdV C n y := ⟨_, rfl⟩
              obtain ⟨c, hc⟩ : ∃ c, c = rdE n y := ⟨_, rfl⟩
              have Vs : V.size = 64 := by rw [hV]; exact rdV_size _ _ _
              have Vu : U8s V.toList := by rw [hV]; exact rdV_u8 hdk.one y
              have Vo := Vu.one
              have Vi : (Try.prog.info? 32).map (·.size) = some V.size := by rw [Vs]; exact block_size
              have hDKh := Lib.hid hdk
              have hRKh := Lib.hid hrk
              clear hdk hrk hbt
              go_wp2_with fail
              go_at_call 13; refine (diskRead_any hDKh.out hr0 (by omega) (by omega) y).mono ?_; rintro e w5 ⟨he, hd5, ht5⟩
              rw [← hV, ← hc] at he
              subst he
              have hr5 := hRKh.out.two ht5 (by omega) (by omega) (by omega) (by omega)
              have hB5 := hBl.trans (ht5.toBelow (by omega) (by omega) hBl.size)
              have P5 := put_block w5 X0s Vs
              replace hd5 := Lib.hid hd5
              replace hr5 := Lib.hid hr5
              clear hDKh hRKh
              go_wp2_with (first
                | (refine wpList_allocTo rfl 32 rfl (some 12) rfl (.agg X0) hz0.out ?_)
                | (refine wpList_store_pieceTo rfl 32 (.tmp 12) (.tmp 73) rfl rfl w5.heap.size 0 V (by go_simp) (by go_simp) Vi P5.1 P5.2.1 Vo ?_; intro w6 hw6; have HS6 := Lib.hid hw6; clear hw6))
              obtain ⟨hb6, hl6, hc6⟩ := P5.2.2 w6 HS6.out
              clear HS6 P5
              have hd6 := Lib.hid (hd5.out.kept hb6)
              have hr6 := hr5.out.kept hb6
              have hB6 := hB5.trans (hb6.mono hB5.size)
              have hS5 : w2.heap.size + 1 < w5.heap.size := hr5.out.row.lt
              replace hc6 := Lib.hid hc6
              clear hd5 hr5
              go_at_call 19; refine (refRead_any hr6 hr0 (by omega) (by omega) y).mono ?_; rintro e w7 ⟨he, hr7, ht7⟩
              rw [← hV, ← hc] at he
              subst he
              have hd7 := hd6.out.two ht7 (by omega) (by omega) (by omega) (by omega)
              have hB7 := hB6.trans (ht7.toBelow (by omega) (by omega) hB6.size)
              have P7 := put_block w7 X0s Vs
              have hS7 : w6.heap.size ≤ w7.heap.size := ht7.size
              have hq7 : w7.heap[w5.heap.size]? = w6.heap[w5.heap.size]? := ht7.block _ hl6 (by omega) (by omega)
              replace hd7 := Lib.hid hd7
              replace hr7 := Lib.hid hr7
              clear hd6 hr6
              go_wp2_with (first
                | (refine wpList_allocTo rfl 32 rfl (some 14) rfl (.agg X0) hz0.out ?_)
                | (refine wpList_store_pieceTo rfl 32 (.tmp 14) (.tmp 79) rfl rfl w7.heap.size 0 V (by go_simp) (by go_simp) Vi P7.1 P7.2.1 Vo ?_; intro w8 hw8; have HS8 := Lib.hid hw8; clear hw8)
                | (with_reducible refine wpList_stop (some 81) rfl ?_))
              obtain ⟨hb8, hl8, hc8⟩ := P7.2.2 w8 HS8.out
              clear HS8 P7
              have hd8 := Lib.hid (hd7.out.kept hb8)
              have hr8 := Lib.hid (hr7.out.kept hb8)
              have hB8 := hB7.trans (hb8.mono hB7.size)
              have hcA := Lib.hid (hc6.out w8 (fun k hk => by rw [hk, hb8.block _ (by omega), hq7]))
              have hcB := Lib.hid (hc8 w8 (fun k _ => rfl))
              clear hc8 hc6 hd7 hr7
              refine Lib.hid ?_
              refine wpList_load_pieceTo rfl 32 (.tmp 12) rfl (some 81) rfl w5.heap.size 0 ?hx V (.array 64 5) hcA.out block_under rfl Vi ?_
              case hx => go_simp
              refine wpList_load_pieceTo rfl 32 (.tmp 14) rfl (some 82) rfl w7.heap.size 0 ?hx V (.array 64 5) hcB.out block_under rfl Vi ?_
              case hx => go_simp
              refine wpList_by ?hw (some 83) rfl (exec_neq (xs := V) (ys := V) rfl ?hx ?hy ?hm (equal_u8s Vu Vs _)) ?_
              case hw => kernel_rfl
              case hm => kernel_rfl
              case hx => go_simp
              case hy => go_simp
              clear hcA hcB
              go_wp2_with fail
              go_meet
              have h1 := rd1_le n y
              exact ⟨_, _, _, _, _, ⟨hd8.out, hr8.out, hbL0, hbL1, hw0, by omega, by omega, by omega, hB8⟩⟩
            by_cases k5 : kd % 7 = 5
            · have n3 : ((kd % 7 : Int) == 3) = false := by simp; omega
              have n4 : ((kd % 7 : Int) == 4) = false := by simp; omega
              have hdk := hbt.out.dk
              have hrk := hbt.out.rk
              have hw1 := hbt.out.w1
              have hr1 := hbt.out.r1
              have hRKh := Lib.hid hrk
              have hDKh := Lib.hid hdk
              have hBl := hbt.out.below
              clear hdk hrk
              go_wp2_with fail
              go_at_call 10; refine (diskArm_ok hDKh.out y).mono ?_; rintro e w5 ⟨rfl, hd5, ht5⟩
              have hr5 := hRKh.out.two ht5 (by omega) (by omega) (by omega) (by omega)
              have hB5 := hBl.trans (ht5.toBelow (by omega) (by omega) hBl.size)
              have k1 := hr5.c1
              have f1 := hr5.row.frozen
              replace hr5 := Lib.hid hr5
              replace hd5 := Lib.hid hd5
              have hW5 := hB5.size
              clear hDKh hRKh
              go_wp2_with fail
              all_goals
                go_meet
              · have e : max y (-1) = -1 := by omega
                have hd6 := hd5.out
                rw [e] at hd6
                exact ⟨_, _, _, _, _, ⟨hd6.setOther' (by omega) (by omega) _, hr5.out.setLeft _, by omega, by omega, hbt.out.w0, by omega, hbt.out.r0, by omega, hB5.setCell (by show W.heap.size ≤ w2.heap.size + 1; omega) _⟩⟩
              · have e : max y (-1) = y := by omega
                have hd6 := hd5.out
                rw [e] at hd6
                exact ⟨_, _, _, _, _, ⟨hd6.setOther' (by omega) (by omega) _, hr5.out.setLeft _, by omega, by omega, hbt.out.w0, by omega, hbt.out.r0, by omega, hB5.setCell (by show W.heap.size ≤ w2.heap.size + 1; omega) _⟩⟩
            by_cases k6 : kd % 7 = 6
            · have n3 : ((kd % 7 : Int) == 3) = false := by simp; omega
              have n4 : ((kd % 7 : Int) == 4) = false := by simp; omega
              have n5 : ((kd % 7 : Int) == 5) = false := by simp; omega
              have hdk := hbt.out.dk
              have hrk := hbt.out.rk
              have hw1 := hbt.out.w1
              have hr1 := hbt.out.r1
              have hRKh := Lib.hid hrk
              have hDKh := Lib.hid hdk
              have hBl := hbt.out.below
              clear hdk hrk
              go_wp2_with fail
              go_at_call 20; refine (diskWake_ok hDKh.out).mono ?_; rintro e w5 ⟨rfl, hd5, ht5⟩
              have hr5 := hRKh.out.two ht5 (by omega) (by omega) (by omega) (by omega)
              have hB5 := hBl.trans (ht5.toBelow (by omega) (by omega) hBl.size)
              have k1 := hr5.c1
              have k2 := hr5.c2
              have f1 := hr5.row.frozen
              replace hr5 := Lib.hid hr5
              replace hd5 := Lib.hid hd5
              clear hDKh hRKh
              go_wp2_with fail
              go_meet
              exact ⟨_, _, _, _, _, ⟨(hd5.out.setOther' (by omega) (by omega) _).setOther' (by omega) (by omega) _, (hr5.out.setDead false).setLeft (-1), by omega, by omega, hbt.out.w0, by omega, hbt.out.r0, by omega, (hB5.setCell (by show W.heap.size ≤ w2.heap.size + 1; omega) _).setCell (by show W.heap.size ≤ w2.heap.size + 1; omega) _⟩⟩
            have n3 : ((kd % 7 : Int) == 3) = false := by simp [k3]
            have n4 : ((kd % 7 : Int) == 4) = false := by simp [k4]
            have n5 : ((kd % 7 : Int) == 5) = false := by simp [k5]
            have n6 : ((kd % 7 : Int) == 6) = false := by simp [k6]
            have hdk := hbt.out.dk
            have hrk := hbt.out.rk
            have hw0 := hbt.out.w0
            have hw1 := hbt.out.w1
            have hr0 := hbt.out.r0
            have hr1 := hbt.out.r1
            have hBl := hbt.out.below
            obtain ⟨X, hX⟩ : ∃ X, X = rowArr 64 (lawCell b) := ⟨_, rfl⟩
            obtain ⟨c, hc⟩ : ∃ c, c = wrE n y left dead := ⟨_, rfl⟩
            have hDKh := Lib.hid hdk
            have hRKh := Lib.hid hrk
            clear hdk hrk hbt
            go_wp2_with fail
            have hDK1 := hDKh.out.drewN 1
            have hRK1 := hRKh.out.drewN 1
            have hB1d := bdrewN hBl 1
            change DK wc.drew _ _ _ _ _ _ _ _ at hDK1
            change RK wc.drew _ _ _ _ _ _ _ _ at hRK1
            change Below _ _ wc.drew at hB1d
            have hSd : wc.drew.heap[q]? = some (.cells #[.int .u8 kd, .int .i64 x, .int .u8 b, .bool raw] 48) := hrow
            have hSc : ∀ w' : World, w'.heap[q]? = some (.cells #[.int .u8 kd, .int .i64 x, .int .u8 b, .bool raw] 48) → w'.cell? ⟨q, 2, none⟩ = some (.int .u8 b) := fun w' hw' => rowcell hw' 2
            have hqd : q < wc.drew.heap.size := rowlt hSd
            refine wp_region_held (S := fun w' => w'.heap[q]? = some (.cells #[.int .u8 kd, .int .i64 x, .int .u8 b, .bool raw] 48)) (by kernel_rfl) ?_
            change wpAnyH _ _ _ _ _ _ _ _ (World.drew _)
            generalize wc.drew = wd at *
            refine takeH 0 (.pointer (some ⟨w1.heap.size + 1, 0, none⟩)) (some 53) rfl rfl (by kernel_rfl) (by kernel_rfl) (by kernel_rfl) (fun _ _ _ h => h) (.inl ⟨by kernel_rfl, fun w _ => by go_simp⟩) hSd ?_
            refine takeH 1 (.int .i64 y) (some 54) rfl rfl (by kernel_rfl) (by kernel_rfl) (by kernel_rfl) (fun _ _ _ h => h) (.inl ⟨by kernel_rfl, fun w _ => by go_simp⟩) hSd ?_
            refine takeH 2 (.pointer (some ⟨q, 2, none⟩)) (some 55) rfl rfl (by kernel_rfl) (by kernel_rfl) (by kernel_rfl) (fun _ _ _ h => h) (.inl ⟨by kernel_rfl, fun w _ => by go_simp⟩) hSd ?_
            refine takeH 3 (.int .u8 b) (some 56) rfl rfl (by kernel_rfl) (by kernel_rfl) (by kernel_rfl) (fun _ _ _ h => h) (.inl ⟨by kernel_rfl, fun w hw => by have hc := hSc w hw; go_simp⟩) hSd ?_
            refine takeH 6 (.pointer (some ⟨w2.heap.size + 1, 0, none⟩)) (some 59) rfl rfl (by kernel_rfl) (by kernel_rfl) (by kernel_rfl) (fun _ _ _ h => h) (.inl ⟨by kernel_rfl, fun w _ => by go_simp⟩) hSd ?_
            refine takeH 7 (.int .i64 y) (some 60) rfl rfl (by kernel_rfl) (by kernel_rfl) (by kernel_rfl) (fun _ _ _ h => h) (.inl ⟨by kernel_rfl, fun w _ => by go_simp⟩) hSd ?_
            refine takeH 8 (.pointer (some ⟨q, 2, none⟩)) (some 61) rfl rfl (by kernel_rfl) (by kernel_rfl) (by kernel_rfl) (fun _ _ _ h => h) (.inl ⟨by kernel_rfl, fun w _ => by go_simp⟩) hSd ?_
            refine takeH 9 (.int .u8 b) (some 62) rfl rfl (by kernel_rfl) (by kernel_rfl) (by kernel_rfl) (fun _ _ _ h => h) (.inl ⟨by kernel_rfl, fun w hw => by have hc := hSc w hw; go_simp⟩) hSd ?_
            refine callH 4 rfl (by kernel_rfl) (by kernel_rfl) (some 57) rfl 12 #[.int .u8 b] ?hrun ((lawBlock_any b hbb.1 hbb.2 _).mono ?_)
            case hrun => go_simp
            rintro e w5 ⟨he, hb5⟩
            have hS5 : w5.heap[q]? = some (.cells #[.int .u8 kd, .int .i64 x, .int .u8 b, .bool raw] 48) := (hb5.block q hqd).trans hSd
            refine ⟨.agg X, by rw [he, hX], hS5, ?_⟩
            have hd5 := hDK1.kept hb5
            have hr5 := hRK1.kept hb5
            have hB5 := hB1d.trans (hb5.mono hB1d.size)
            have hq5 := rowlt hS5
            refine callH 5 rfl (by kernel_rfl) (by kernel_rfl) (some 58) rfl 11 #[.pointer (some ⟨w1.heap.size + 1, 0, none⟩), .int .i64 y, .agg X] ?hrun ((diskWrite_any hd5 hw0 (by omega) hbL0 hbL1 (by omega) y (lawCell_u8 b) (Lib.hid hX)).mono ?_)
            case hrun => go_simp
            rintro e w6 ⟨he, hd6, ht6⟩
            have hS6 : w6.heap[q]? = some (.cells #[.int .u8 kd, .int .i64 x, .int .u8 b, .bool raw] 48) := (ht6.block q hq5 (by omega) (by omega)).trans hS5
            refine ⟨.int .i64 c, by rw [he, hc], hS6, ?_⟩
            have hr6 := hr5.two ht6 (by omega) (by omega) (by omega) (by omega)
            have hB6 := hB5.trans (ht6.toBelow (by omega) (by omega) hB5.size)
            have hq6 := rowlt hS6
            refine callH 10 rfl (by kernel_rfl) (by kernel_rfl) (some 63) rfl 12 #[.int .u8 b] ?hrun ((lawBlock_any b hbb.1 hbb.2 _).mono ?_)
            case hrun => go_simp
            rintro e w7 ⟨he, hb7⟩
            have hS7 : w7.heap[q]? = some (.cells #[.int .u8 kd, .int .i64 x, .int .u8 b, .bool raw] 48) := (hb7.block q hq6).trans hS6
            refine ⟨.agg X, by rw [he, hX], hS7, ?_⟩
            have hd7 := hd6.kept hb7
            have hr7 := hr6.kept hb7
            have hB7 := hB6.trans (hb7.mono hB6.size)
            have hq7 := rowlt hS7
            refine callH 11 rfl (by kernel_rfl) (by kernel_rfl) (some 64) rfl 21 #[.pointer (some ⟨w2.heap.size + 1, 0, none⟩), .int .i64 y, .agg X] ?hrun ((refWrite_any hr7 hw0 (by omega) hbL0 hbL1 (by omega) y (lawCell_u8 b) (Lib.hid hX)).mono ?_)
            case hrun => go_simp
            rintro e w8 ⟨he, hr8, ht8⟩
            have hS8 : w8.heap[q]? = some (.cells #[.int .u8 kd, .int .i64 x, .int .u8 b, .bool raw] 48) := (ht8.block q hq7 (by omega) (by omega)).trans hS7
            refine ⟨.int .i64 c, by rw [he, hc], hS8, ?_⟩
            have hd8 := Lib.hid (hd7.two ht8 (by omega) (by omega) (by omega) (by omega))
            have hB8 := hB7.trans (ht8.toBelow (by omega) (by omega) hB7.size)
            refine takeH 12 (.bool false) (some 65) rfl rfl (by kernel_rfl) (by kernel_rfl) (by kernel_rfl) (fun _ _ _ h => h) (.inl ⟨by kernel_rfl, fun w _ => by go_simp⟩) hS8 ?_
            refine wpAnyH_done (by kernel_rfl) ?_ _
            go_simp
            replace hr8 := Lib.hid hr8
            clear hd5 hd6 hd7 hr5 hr6 hr7 hX hc hDKh hRKh hDK1 hRK1 hSc hS5 hS6 hS7 hS8 hSd
            go_wp2_with fail
            go_meet
            have h1 := wr1_le n y left dead
            have h2 := wrL_le n y left dead hbL0 hbL1
            exact ⟨_, _, _, _, _, ⟨hd8.out, hr8.out, h2.1, h2.2, by omega, by omega, hr0, by omega, hB8⟩⟩
          case rest =>
            obtain ⟨C', left', dead', writes', reads', hbo⟩ := hcut
            have hbo' := Lib.hid hbo
            clear hbo hrow hbt a0' a0 a1 a2 a3
            obtain ⟨wd, hwd⟩ : ∃ wd, wd = wc := ⟨_, rfl⟩
            go_wp2_with fail
            go_at_call 22; refine (diskCounts_ok hbo'.out.dk).mono ?_; rintro e w5 ⟨rfl, kk, rfl⟩
            have hb5 : Both W (wc.drewN kk) (w1.heap.size + 1) w1.heap.size (w2.heap.size + 1) w2.heap.size n (i + 1) C' left' dead' writes' reads' := hbo'.out.drewN kk
            replace hb5 := Lib.hid hb5
            clear hbo' hwd
            generalize wc.drewN kk = w5 at *
            go_wp2_with fail
            have hSd : Both W w5.drew (w1.heap.size + 1) w1.heap.size (w2.heap.size + 1) w2.heap.size n (i + 1) C' left' dead' writes' reads' := hb5.out.drewN 1
            have hSw : ∀ w' : World, Both W w' (w1.heap.size + 1) w1.heap.size (w2.heap.size + 1) w2.heap.size n (i + 1) C' left' dead' writes' reads' → RK w' (w2.heap.size + 1) w2.heap.size n C' left' dead' reads' writes' := fun w' h => h.rk
            refine wp_region_held (S := fun w' => Both W w' (w1.heap.size + 1) w1.heap.size (w2.heap.size + 1) w2.heap.size n (i + 1) C' left' dead' writes' reads') (by kernel_rfl) ?_
            change wpAnyH _ _ _ _ _ _ _ _ (World.drew _)
            clear hb5
            generalize w5.drew = wd at *
            refine takeH 0 (.pointer (some ⟨w1.heap.size + 1, 0, none⟩)) (some 114) rfl rfl (by kernel_rfl) (by kernel_rfl) (by kernel_rfl) (fun _ _ _ h => h) (.inl ⟨by kernel_rfl, fun w _ => by go_simp⟩) hSd ?_
            refine takeH 2 (.pointer (some ⟨w2.heap.size + 1, 0, none⟩)) (some 116) rfl rfl (by kernel_rfl) (by kernel_rfl) (by kernel_rfl) (fun _ _ _ h => h) (.inl ⟨by kernel_rfl, fun w _ => by go_simp⟩) hSd ?_
            refine takeH 3 (.pointer (some ⟨w2.heap.size + 1, 0, none⟩)) (some 117) rfl rfl (by kernel_rfl) (by kernel_rfl) (by kernel_rfl) (fun _ _ _ h => h) (.inl ⟨by kernel_rfl, fun w _ => by go_simp⟩) hSd ?_
            refine takeH 4 (.pointer (some ⟨w2.heap.size + 1, 2, none⟩)) (some 118) rfl rfl (by kernel_rfl) (by kernel_rfl) (by kernel_rfl) (fun _ _ _ h => h) (.inl ⟨by kernel_rfl, fun w _ => by go_simp⟩) hSd ?_
            refine takeH 5 (.bool dead') (some 119) rfl rfl (by kernel_rfl) (by kernel_rfl) (by kernel_rfl) (fun _ _ _ h => h) (.inl ⟨by kernel_rfl, fun w hw => by have hc := (hSw w hw).c2; go_simp⟩) hSd ?_
            refine callH 1 rfl (by kernel_rfl) (by kernel_rfl) (some 115) rfl 14 #[.pointer (some ⟨w1.heap.size + 1, 0, none⟩)] ?hrun ((diskDead_ok hSd.dk).mono ?_)
            case hrun => go_simp
            rintro e w6 ⟨he, hw6⟩
            subst hw6
            refine ⟨.bool dead', he, hSd, ?_⟩
            refine takeH 6 (.bool false) (some 120) rfl rfl (by kernel_rfl) (by kernel_rfl) (by kernel_rfl) (fun _ _ _ h => h) (.inl ⟨by kernel_rfl, fun w _ => by go_simp⟩) hSd ?_
            refine takeH 7 (.bool false) (some 121) rfl rfl (by kernel_rfl) (by kernel_rfl) (by kernel_rfl) (fun _ _ _ h => h) (.inl ⟨by kernel_rfl, fun w _ => by go_simp⟩) hSd ?_
            refine takeH 8 (.int .i64 reads') (some 122) rfl rfl (by kernel_rfl) (by kernel_rfl) (by kernel_rfl) (fun _ _ _ h => h) (.inl ⟨by kernel_rfl, fun w _ => by go_simp⟩) hSd ?_
            refine takeH 9 (.pointer (some ⟨w2.heap.size + 1, 0, none⟩)) (some 123) rfl rfl (by kernel_rfl) (by kernel_rfl) (by kernel_rfl) (fun _ _ _ h => h) (.inl ⟨by kernel_rfl, fun w _ => by go_simp⟩) hSd ?_
            refine takeH 10 (.pointer (some ⟨w2.heap.size + 1, 0, none⟩)) (some 124) rfl rfl (by kernel_rfl) (by kernel_rfl) (by kernel_rfl) (fun _ _ _ h => h) (.inl ⟨by kernel_rfl, fun w _ => by go_simp⟩) hSd ?_
            refine takeH 11 (.pointer (some ⟨w2.heap.size + 1, 3, none⟩)) (some 125) rfl rfl (by kernel_rfl) (by kernel_rfl) (by kernel_rfl) (fun _ _ _ h => h) (.inl ⟨by kernel_rfl, fun w _ => by go_simp⟩) hSd ?_
            refine takeH 12 (.int .i64 reads') (some 126) rfl rfl (by kernel_rfl) (by kernel_rfl) (by kernel_rfl) (fun _ _ _ h => h) (.inl ⟨by kernel_rfl, fun w hw => by have hc := (hSw w hw).c3; go_simp⟩) hSd ?_
            refine takeH 13 (.bool false) (some 127) rfl rfl (by kernel_rfl) (by kernel_rfl) (by kernel_rfl) (fun _ _ _ h => h) (.inl ⟨by kernel_rfl, fun w _ => by go_simp⟩) hSd ?_
            refine takeH 14 (.bool false) (some 128) rfl rfl (by kernel_rfl) (by kernel_rfl) (by kernel_rfl) (fun _ _ _ h => h) (.inl ⟨by kernel_rfl, fun w _ => by go_simp⟩) hSd ?_
            refine takeH 15 (.bool false) (some 129) rfl rfl (by kernel_rfl) (by kernel_rfl) (by kernel_rfl) (fun _ _ _ h => h) (.inl ⟨by kernel_rfl, fun w _ => by go_simp⟩) hSd ?_
            refine takeH 16 (.int .i64 writes') (some 130) rfl rfl (by kernel_rfl) (by kernel_rfl) (by kernel_rfl) (fun _ _ _ h => h) (.inl ⟨by kernel_rfl, fun w _ => by go_simp⟩) hSd ?_
            refine takeH 17 (.pointer (some ⟨w2.heap.size + 1, 0, none⟩)) (some 131) rfl rfl (by kernel_rfl) (by kernel_rfl) (by kernel_rfl) (fun _ _ _ h => h) (.inl ⟨by kernel_rfl, fun w _ => by go_simp⟩) hSd ?_
            refine takeH 18 (.pointer (some ⟨w2.heap.size + 1, 0, none⟩)) (some 132) rfl rfl (by kernel_rfl) (by kernel_rfl) (by kernel_rfl) (fun _ _ _ h => h) (.inl ⟨by kernel_rfl, fun w _ => by go_simp⟩) hSd ?_
            refine takeH 19 (.pointer (some ⟨w2.heap.size + 1, 4, none⟩)) (some 133) rfl rfl (by kernel_rfl) (by kernel_rfl) (by kernel_rfl) (fun _ _ _ h => h) (.inl ⟨by kernel_rfl, fun w _ => by go_simp⟩) hSd ?_
            refine takeH 20 (.int .i64 writes') (some 134) rfl rfl (by kernel_rfl) (by kernel_rfl) (by kernel_rfl) (fun _ _ _ h => h) (.inl ⟨by kernel_rfl, fun w hw => by have hc := (hSw w hw).c4; go_simp⟩) hSd ?_
            refine takeH 21 (.bool false) (some 135) rfl rfl (by kernel_rfl) (by kernel_rfl) (by kernel_rfl) (fun _ _ _ h => h) (.inl ⟨by kernel_rfl, fun w _ => by go_simp⟩) hSd ?_
            refine takeH 22 (.bool false) (some 136) rfl rfl (by kernel_rfl) (by kernel_rfl) (by kernel_rfl) (fun _ _ _ h => h) (.inl ⟨by kernel_rfl, fun w _ => by go_simp⟩) hSd ?_
            refine takeH 23 (.bool false) (some 137) rfl rfl (by kernel_rfl) (by kernel_rfl) (by kernel_rfl) (fun _ _ _ h => h) (.inl ⟨by kernel_rfl, fun w _ => by go_simp⟩) hSd ?_
            refine takeH 24 (.pointer (some ⟨w1.heap.size + 1, 0, none⟩)) (some 138) rfl rfl (by kernel_rfl) (by kernel_rfl) (by kernel_rfl) (fun _ _ _ h => h) (.inl ⟨by kernel_rfl, fun w _ => by go_simp⟩) hSd ?_
            refine takeH 26 (.pointer (some ⟨w2.heap.size + 1, 0, none⟩)) (some 140) rfl rfl (by kernel_rfl) (by kernel_rfl) (by kernel_rfl) (fun _ _ _ h => h) (.inl ⟨by kernel_rfl, fun w _ => by go_simp⟩) hSd ?_
            refine takeH 27 (.pointer (some ⟨w2.heap.size + 1, 0, none⟩)) (some 141) rfl rfl (by kernel_rfl) (by kernel_rfl) (by kernel_rfl) (fun _ _ _ h => h) (.inl ⟨by kernel_rfl, fun w _ => by go_simp⟩) hSd ?_
            refine takeH 28 (.pointer (some ⟨w2.heap.size + 1, 0, none⟩)) (some 142) rfl rfl (by kernel_rfl) (by kernel_rfl) (by kernel_rfl) (fun _ _ _ h => h) (.inl ⟨by kernel_rfl, fun w _ => by go_simp⟩) hSd ?_
            refine takeH 29 (.slice (some ⟨w2.heap.size, 0, none⟩) n n) (some 143) rfl rfl (by kernel_rfl) (by kernel_rfl) (by kernel_rfl) (fun _ _ _ h => h) (.inl ⟨by kernel_rfl, fun w hw => by have hc := (hSw w hw).c0; go_simp⟩) hSd ?_
            refine callH 25 rfl (by kernel_rfl) (by kernel_rfl) (some 139) rfl 18 #[.pointer (some ⟨w1.heap.size + 1, 0, none⟩)] ?hrun ((diskImage_ok hSd.dk (by omega)).mono ?_)
            case hrun => go_simp
            rintro e w7 ⟨⟨v7, he, hown7⟩, hb7⟩
            have hS7 := hSd.kept hb7
            refine ⟨v7, he, hS7, ?_⟩
            have hsrA := SR.of_own hown7
            have hsrB : SR w7 (.slice (some ⟨w2.heap.size, 0, none⟩) n n) n 64 (rowArr (n * 64) C').toList := SR.of_row hS7.rk.blk rfl (by simp [maxLen]; omega)
            refine callH 30 rfl (by kernel_rfl) (by kernel_rfl) (some 144) rfl 17 #[v7, .slice (some ⟨w2.heap.size, 0, none⟩) n n] ?hrun ((same_true hsrA hsrB (U8s.row hS7.dk.one) (by omega)).mono ?_)
            case hrun => go_simp
            rintro e w9 ⟨he, hb9⟩
            have hS9 := hS7.kept hb9
            refine ⟨.bool true, he, hS9, ?_⟩
            refine takeH 31 (.bool false) (some 145) rfl rfl (by kernel_rfl) (by kernel_rfl) (by kernel_rfl) (fun _ _ _ h => h) (.inl ⟨by kernel_rfl, fun w _ => by go_simp⟩) hS9 ?_
            refine takeH 32 (.bool false) (some 146) rfl rfl (by kernel_rfl) (by kernel_rfl) (by kernel_rfl) (fun _ _ _ h => h) (.inl ⟨by kernel_rfl, fun w _ => by go_simp⟩) hS9 ?_
            refine wpAnyH_done (by kernel_rfl) ?_ _
            go_simp
            have hF := Lib.hid hS9
            clear hSd hS7 hS9 hSw hsrA hsrB hown7
            go_wp2_with fail
            go_roundw
            case rel =>
              first
                | exact ⟨i + 1, by omega, by go_num, _, _, _, _, _, hF.out⟩
                | (refine ⟨_, _, _, _, _, _, _, _, _, _, _, _, _, _, _, _, _, _, _, _, _, _, _, _, _, _, _, _, _, _, _, _, _, _, _, _, _, _, _, _, _, _, _, _, _, _, _, _, _, _, ⟨i + 1, by omega, by go_num, _, _, _, _, _, hF.out⟩, rfl⟩)
                | trace_state
            case measure => simp [intOf]; omega
    · have hbo := hb.dk
      have hBl := hb.below
      have HB := Lib.hid hbo
      clear hb hbo
      go_wp2_with (go_at_call 16; refine (diskLen_ok HB.out).mono ?_; rintro e wx ⟨he, hx⟩; subst he; subst hx)
      go_ret
      exact ⟨rfl, hBl⟩
end Go.Proofs.Ytcjnnonfnlemmaa
