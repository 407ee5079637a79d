/- The law DiskOwn: the walk. -/
import Derived.Test.YtcjnnonfnlemmaaDiskH
set_option linter.unusedVariables false
set_option linter.unusedSimpArgs false
namespace Go.Proofs.Ytcjnnonfnlemmaa
open Go.RowKit

theorem DK.oneKeep {w w' : World} {g gb n : Nat} {C : Nat → Value} {left : Int} {dead : Bool} {writes reads : Int} {r : Option Nat} (h : DK w g gb n C left dead writes reads) (o : One w w' r) (h1 : r ≠ some g) (h2 : r ≠ some gb) : DK w' g gb n C left dead writes reads :=
  ⟨h.row.of_block (o.block g h.row.lt h1), h.blk.of_block (o.block gb h.blk.lt h2), h.ne, h.one⟩

theorem row_below {w w' : World} {g n : Nat} {t : TypeId} {f : Nat → Value} (h : w.rowIs g t n f) (hb : Below w.heap.size w w') : w'.rowIs g t n f := h.of_block (hb.block g h.lt)

set_option maxRecDepth 10000 in
set_option maxHeartbeats 1000000 in
theorem diskRead_nil (w : World) (x : Int) {X : Array Value} (hX : Hid (X = noughts)) :
    Calls Try.prog 13 #[.pointer none, .int .i64 x] w fun e w' => e = .returned (.tuple #[.agg X, .int .i64 1]) ∧ Below w.heap.size w w' := by
  have Xs : X.size = 64 := by rw [hX.out]; exact rowArr_size _ _
  have Xe : X = rowArr 64 (fun _ => .int .u8 0) := hX.out
  have Xo : ∀ v ∈ X.toList, v.oneCell' = true := by rw [hX.out]; exact (U8s.row (fun k _ => ⟨0, rfl, by omega, by omega⟩)).one
  have hz : ((Try.prog.info? 32).bind (·.zero)) = some (.agg X) := by rw [hX.out]; exact noughts_zero
  have hb : Try.prog.built 32 [] = some X := by rw [hX.out]; kernel_rfl
  have hr := rowIs_of_arr (w := w.alloc (.cells X 32)) (n := 64) (f := fun _ => .int .u8 0) (by rw [← Xe]; exact heap_alloc_last w (.cells X 32))
  have HR := Lib.hid hr
  have HE := Lib.hid Xe
  clear hr Xe
  replace hb := Lib.hid hb
  replace hz := Lib.hid hz
  go_enter Try.func13, Try.ntmps13
  go_wp2_with (first
    | (refine wpList_allocTo rfl 32 rfl (some 4) rfl (.agg X) hz.out ?_)
    | (refine wpList_buildTo rfl 32 _ rfl (some 9) rfl X ?hf ?_; case hf => (rw [hX.out]; kernel_rfl))
    | (refine wpList_store_pieceTo rfl 32 (.tmp 4) (.tmp 9) rfl rfl w.heap.size 0 X (by go_simp) (by go_simp) (by rw [Xs]; exact block_size) (fun j hj => by rw [Nat.zero_add]; exact isSome_of (HR.out.cell (by omega))) (fun j hj => HR.out.frozen _) Xo ?_; intro wS hwS; have HS := Lib.hid hwS; clear hwS))
  have hS := HS.out
  change wS = (w.alloc (.cells X 32)).setCells w.heap.size 0 X.toList at hS
  have hB : Below w.heap.size w wS := by rw [hS]; exact below_setCells (Nat.le_refl _) _ _ _ (bnew w _)
  have hrS : wS.rowIs w.heap.size 32 64 (fun _ => .int .u8 0) := by
    rw [hS, HE.out]
    have := HR.out
    rw [HE.out] at this
    exact (rowIs_piece (m := 64) (off := 0) (h := fun _ => .int .u8 0) this).congr (fun i hi => by rw [if_pos (by omega)])
  have hrun : (loadVar 32 ⟨w.heap.size, 0, none⟩).run Try.prog wS = .ok (.agg X) wS := run_loadVar_piece wS 32 w.heap.size 0 X _ (fun j v h => by
    rw [HE.out] at h
    obtain ⟨h1, rfl⟩ := rowArr_get _ _ _ _ h
    rw [Nat.zero_add]; exact hrS.cell h1) block_under rfl (by rw [Xs]; exact block_size)
  clear HS hS
  exact bodyPost_ret (v := .tuple #[.agg X, .int .i64 1]) (by simp [results, Try.results13, Act.put, asAddr, hrun]) rfl ⟨rfl, hB⟩

theorem diskWrite_nil' (w : World) (x : Int) {X : Array Value} (hX : Hid (X = noughts)) :
    Calls Try.prog 11 #[.pointer none, .int .i64 x, .agg X] w fun e w' => e = .returned (.int .i64 1) ∧ Below w.heap.size w w' := by
  obtain rfl := hX.out
  exact diskWrite_nil w x _

set_option maxRecDepth 10000 in
set_option maxHeartbeats 2000000 in
theorem diskOwn_walk (W : World) (v0 v1 : Value) (o0 : Arg Try.prog W 22 v0) (o1 : Arg Try.prog W 3 v1) :
    Calls Try.prog 6 #[v0, v1] W fun e w' => e = .returned (.bool true) ∧ Below W.heap.size W w' := by
  obtain ⟨n, rfl, hwn⟩ := Arg.int Try.underlying3 o1
  have hn64 := wf_i64 hwn
  obtain ⟨zs, hz⟩ := SI.of_arg (k := .u8) Try.underlying22 Try.underlying5 (by kernel_rfl) o0
  clear o0 o1
  obtain ⟨A, cap, rfl, hlc, hcm⟩ := hz.sr.form
  have hzc : ∀ i, i < zs.length → ∃ b off, A = some ⟨b, off, none⟩ ∧ b < W.heap.size ∧ W.cell? ⟨b, off + i, none⟩ = some (.int .u8 (zs.getD i 0)) ∧ 0 ≤ zs.getD i 0 ∧ zs.getD i 0 ≤ 255 := fun i hi => by
    have hw : 0 ≤ zs.getD i 0 ∧ zs.getD i 0 ≤ 255 := by
      rw [List.getD_eq_getElem?_getD, List.getElem?_eq_getElem hi]
      exact wf_u8 (hz.wf _ (List.getElem_mem hi))
    rcases hz.cases with ⟨h, _⟩ | ⟨hn, b, off, cap', h1, h2, h3, h4, h5⟩
    · rw [h] at hi; simp at hi
    · cases h1
      exact ⟨b, off, rfl, h4, h5 i hi, hw⟩
  by_cases hlen : 100 < zs.length
  · go_enter Try.func6, Try.ntmps6
    go_wp2_with (go_at_call 8; refine (diskAwake_any _).mono ?_; rintro e w1 ⟨rfl, hB1⟩)
    go_ret
    exact ⟨rfl, hB1⟩
  have hlen' : (zs.length : Int) ≤ 100 := by omega
  go_enter Try.func6, Try.ntmps6
  go_wp2_with fail
  go_at_call 8; refine (diskAwake_any _).mono ?_; rintro e w1 ⟨rfl, hB1⟩
  have hS1 := hB1.size
  go_wp2_with fail
  go_loopw [5, 26] (fun v7 v32 wr => ∃ k : Nat, k ≤ zs.length ∧ v32 = .int .i64 k ∧ wr.ownsRow w1.heap.size 32 64 v7 k (lawBytes (zs.take k)) ∧ Below w1.heap.size w1 wr)
      (fun _ v32 _ => ((zs.length : Int) - intOf v32).toNat)
  case atStart => exact ⟨0, by omega, rfl, World.ownsRow_nil _ _ _ _, Below.refl _ _⟩
  case round =>
    obtain ⟨k, hk, rfl, hown, hBr⟩ := hrel
    by_cases hlt : k < zs.length
    · obtain ⟨b, off, rfl, hbW, hc, hz0, hz1⟩ := hzc k hlt
      have hBW : Below W.heap.size W wr := hB1.trans (hBr.mono (by omega))
      have hc1 := (hBW.cell (by exact hbW)).trans hc
      have hsn := lawBytes_snoc zs k hlt
      generalize zs.getD k 0 = z at hc1 hz0 hz1 hc hsn
      clear hzc hc
      have HO := Lib.hid hown
      have HN := Lib.hid hsn
      clear hown hsn
      obtain ⟨X, hX⟩ : ∃ X, X = rowArr 64 (lawCell z) := ⟨_, rfl⟩
      have hXs : X.size = 64 := by rw [hX, rowArr_size]
      have HX := Lib.hid hX
      go_wp2_with fail
      go_at_call 12; refine (lawBlock_any z hz0 hz1 _).mono ?_; rintro e w3 ⟨he, hB3⟩
      rw [← hX] at he
      subst he
      clear hX
      have hown3 := Lib.hid (own_below HO.out hB3)
      have hB3' := hBr.trans (hB3.mono hBr.size)
      have hbase : w1.heap.size ≤ w3.heap.size := hB3'.size
      have hr3 := rowIs_of_arr (heap_alloc_last w3 (.cells (rowArr 64 (lawCell z)) 32))
      rw [← HX.out] at hr3
      have hsr3 := SR.of_row (m := 1) (size := 64) hr3 rfl (by simp [maxLen])
      rw [← HX.out] at hsr3
      have HS := Lib.hid hsr3
      have H1 : ∀ u ∈ X.toList, u.oneCell' = true := by rw [HX.out]; exact lawCell_one z
      replace H1 := Lib.hid H1
      clear hr3 hsr3
      go_wp2_with (first
        | (refine wpList_slice_one rfl 37 32 (.tmp 32) rfl (some 33) rfl (.agg X) rfl X (slice_one X hXs) ?_)
        | (refine wpList_append_sr rfl (.tmp 30) (.tmp 33) 37 rfl (some 34) rfl w1.heap.size 32 (.agg noughts) 64 64 Try.underlying37 block_row noughts_size (by omega) _ (.slice (some ⟨w3.heap.size, 0, none⟩) 1 1) k 1 (lawBytes (zs.take k)) X.toList rfl (hown3.out.alloc _) rfl HS.out H1.out (by simp [maxLen]; omega) (by omega) (by simp; omega) ?_; intro v4 w4 hown4 hg4 hat4; have HO4 := Lib.hid hown4; have HG4 := Lib.hid hg4; have HA4 := Lib.hid hat4; clear hown4 hg4 hat4))
      refine ⟨⟨k + 1, by omega, by go_num, ?_, ?_⟩, by simp [intOf]; omega⟩
      · rw [HN.out, ← HX.out]; exact HO4.out
      · exact (hB3'.alloc hbase (.cells X 32)).grown HG4.out (by simp; omega) (fun j hj => (HO.out.lt j hj).1)
    · obtain rfl : k = zs.length := by omega
      rw [List.take_length] at hown
      obtain ⟨ad5, c5, rfl⟩ := own_form hown
      have HO := Lib.hid hown
      clear hown hzc
      have hBW : Below W.heap.size W wr := hB1.trans (hBr.mono (by omega))
      obtain ⟨wo, hwo⟩ : ∃ wo, wo = wr := ⟨_, rfl⟩
      subst hwo
      have hSr := hBr.size
      obtain ⟨X0, hX0⟩ : ∃ X, X = noughts := ⟨_, rfl⟩
      have X0s : X0.size = 64 := by rw [hX0]; exact rowArr_size _ _
      have X0o : ∀ v ∈ X0.toList, v.oneCell' = true := by rw [hX0]; exact (U8s.row (fun k _ => ⟨0, rfl, by omega, by omega⟩)).one
      have X0u : U8s X0.toList := by rw [hX0]; exact U8s.row (fun k _ => ⟨0, rfl, by omega, by omega⟩)
      replace hX0 := Lib.hid hX0
      obtain ⟨X9, hX9⟩ : ∃ X, X = rowArr 64 (firstCell 9) := ⟨_, rfl⟩
      have X9s : X9.size = 64 := by rw [hX9]; exact rowArr_size _ _
      have X9o : ∀ v ∈ X9.toList, v.oneCell' = true := by rw [hX9]; exact (U8s.row (firstCell_u8 (by omega))).one
      replace hX9 := Lib.hid hX9
      replace X0u := Lib.hid X0u
      go_wp2_with fail
      go_at_call 15; refine (diskOf_ok (SR.of_own HO.out) (lawBytes_u8 zs) (by omega) (n := zs.length)).mono ?_; rintro e w3 ⟨rfl, hd3, hb3⟩
      have hB3 : Below W.heap.size W w3 := hBW.trans (hb3.mono hBW.size)
      have HO3 := Lib.hid (own_below HO.out hb3)
      have H1 := Lib.hid (lawBytes_u8 zs).one
      have hS3 := hb3.size
      have hd3' := Lib.hid hd3
      have hd3gl := hd3.row.lt
      clear hd3
      go_wp2_with (refine wpList_append_sr rfl (.tmp 41) (.tmp 42) 37 rfl (some 43) rfl w3.heap.size 32 (.agg noughts) 64 64 Try.underlying37 block_row noughts_size (by omega) (.slice (some ⟨w3.heap.size, 0, none⟩) 0 0) (.slice ad5 zs.length c5) 0 zs.length [] (lawBytes zs) (by go_simp) (World.ownsRow_lit w3 #[] 0 (Nat.le_refl _) (by simp [maxLen]) rfl) (by go_simp) (SR.alloc (w := w3) (SR.of_own HO3.out) _) H1.out (by simp [maxLen]; omega) (by omega) (by simp) ?_; intro v10 w4 hown4 hg4 hat4; have HO4 := Lib.hid hown4; have HG4 := Lib.hid hg4; clear hown4 hg4 hat4)
      have hO4 := HO4.out
      rw [Nat.zero_add, List.nil_append] at hO4
      obtain ⟨ad10, c10, rfl⟩ := own_form hO4
      replace hO4 := Lib.hid hO4
      clear HO4
      have hb4 : Below w3.heap.size w3 w4 := (bnew w3 (.cells #[] 32)).grown HG4.out (by simp) (fun j hj => by simp [Value.ownBlock] at hj; omega)
      have HO5 := Lib.hid (own_below HO3.out hb4)
      have hd4 := Lib.hid (hd3'.out.kept hb4)
      have hS4 := hb4.size
      go_loopw [46] (fun vi wr => ∃ k : Nat, k ≤ zs.length ∧ vi = .int .i64 k ∧ One w4 wr (Value.slice ad5 zs.length c5).ownBlock ∧ (0 < zs.length → ∃ g N f, ad5 = some ⟨g, 0, none⟩ ∧ zs.length * 64 ≤ N ∧ wr.rowIs g 32 N f))
          (fun vi _ => ((zs.length : Int) - intOf vi).toNat)
      case atStart => exact ⟨0, by omega, rfl, One.refl _ _, fun h => own_row HO5.out h⟩
      case round =>
        obtain ⟨k, hk, rfl, hone, hrow⟩ := hrel
        by_cases hlt : k < zs.length
        · obtain ⟨g, N, f, rfl, hN, hr⟩ := hrow (by omega)
          have hcS : ∀ j, j < X0.size → (wr.cell? ⟨g, k * 64 + j, none⟩).isSome = true := fun j hj => isSome_of (hr.cell (by omega))
          have hfS : ∀ j, j < X0.size → wr.frozen? ⟨g, k * 64 + j, none⟩ = false := fun j hj => hr.frozen _
          replace hcS := Lib.hid hcS
          replace hfS := Lib.hid hfS
          have HR := Lib.hid hr
          have HN := Lib.hid hone
          clear hr hone hrow
          go_wp2_with (first
            | (refine wpList_buildTo rfl 32 _ rfl (some 51) rfl X0 ?hf ?_; case hf => (rw [hX0.out]; kernel_rfl))
            | (refine wpList_store_pieceTo rfl 32 (.tmp 52) (.tmp 51) rfl rfl g (k * 64) X0 (by go_simp) (by go_simp) (by rw [X0s]; exact block_size) hcS.out hfS.out X0o ?_; intro wS hwS; have HS := Lib.hid hwS; clear hwS))
          refine ⟨⟨k + 1, by omega, by go_num, ?_, fun _ => ⟨g, N, fun i => if k * 64 ≤ i ∧ i < k * 64 + X0.toList.length then X0.toList[i - k * 64]?.getD default else f i, rfl, hN, ?_⟩⟩, by simp [intOf]; omega⟩
          · rw [HS.out]; exact One.setCells _ _ HN.out
          · rw [HS.out]; exact rowIs_setCells _ _ _ _ HR.out
        · obtain rfl : k = zs.length := by omega
          clear hrow
          have hlt5 : ∀ j, (Value.slice ad5 zs.length c5).ownBlock = some j → w1.heap.size ≤ j ∧ j < wo.heap.size := fun j hj => HO.out.lt j hj
          have hd5 := hd4.out.oneKeep hone (fun h => by have := hlt5 _ h; omega) (fun h => by have := hlt5 _ h; omega)
          have hO5 := Lib.hid (own_one hO4.out hone (fun j hj h => by have := hlt5 _ h; have := (hO4.out.lt j hj).1; omega))
          have hB5 : Below W.heap.size W wr := (hB3.trans (hb4.mono hB3.size)).trans (hone.toBelow (fun j hj => by have := hlt5 _ hj; omega) (by omega))
          have hS5 : w4.heap.size ≤ wr.heap.size := hone.size
          clear hone
          obtain ⟨w5, hw5⟩ : ∃ w5, w5 = wr := ⟨_, rfl⟩
          subst hw5
          replace hlt5 := Lib.hid hlt5
          go_wp2_with fail
          go_at_call 18; refine (diskImage_ok hd5 (by omega)).mono ?_; rintro e w6 ⟨⟨v12, he, hown6⟩, hb6⟩; subst he
          rw [bytes_row (lawBytes_len zs)] at hown6
          obtain ⟨ad12, c12, rfl⟩ := own_form hown6
          have HO6 := Lib.hid hown6
          clear hown6
          have hd6 := Lib.hid (hd5.kept hb6)
          have hO6 := Lib.hid (own_below hO5.out hb6)
          have hS6 := hb6.size
          have hg5 := hd5.row.lt
          clear hd5
          go_wp2_with fail
          go_loopw [58] (fun vi wr => ∃ k : Nat, k ≤ zs.length ∧ vi = .int .i64 k ∧ One w6 wr (Value.slice ad12 zs.length c12).ownBlock ∧ (0 < zs.length → ∃ g N f, ad12 = some ⟨g, 0, none⟩ ∧ zs.length * 64 ≤ N ∧ wr.rowIs g 32 N f))
              (fun vi _ => ((zs.length : Int) - intOf vi).toNat)
          case atStart => exact ⟨0, by omega, rfl, One.refl _ _, fun h => own_row HO6.out h⟩
          case round =>
            obtain ⟨k, hk, rfl, hone, hrow⟩ := hrel
            by_cases hlt : k < zs.length
            · obtain ⟨g, N, f, rfl, hN, hr⟩ := hrow (by omega)
              have hcS : ∀ j, j < X9.size → (wr.cell? ⟨g, k * 64 + j, none⟩).isSome = true := fun j hj => isSome_of (hr.cell (by omega))
              have hfS : ∀ j, j < X9.size → wr.frozen? ⟨g, k * 64 + j, none⟩ = false := fun j hj => hr.frozen _
              replace hcS := Lib.hid hcS
              replace hfS := Lib.hid hfS
              have HR := Lib.hid hr
              have HN := Lib.hid hone
              clear hr hone hrow
              go_wp2_with (first
                | (refine wpList_buildTo rfl 32 _ rfl (some 63) rfl X9 ?hf ?_; case hf => (rw [hX9.out]; kernel_rfl))
                | (refine wpList_store_pieceTo rfl 32 (.tmp 64) (.tmp 63) rfl rfl g (k * 64) X9 (by go_simp) (by go_simp) (by rw [X9s]; exact block_size) hcS.out hfS.out X9o ?_; intro wS hwS; have HS := Lib.hid hwS; clear hwS))
              refine ⟨⟨k + 1, by omega, by go_num, ?_, fun _ => ⟨g, N, fun i => if k * 64 ≤ i ∧ i < k * 64 + X9.toList.length then X9.toList[i - k * 64]?.getD default else f i, rfl, hN, ?_⟩⟩, by simp [intOf]; omega⟩
              · rw [HS.out]; exact One.setCells _ _ HN.out
              · rw [HS.out]; exact rowIs_setCells _ _ _ _ HR.out
            · obtain rfl : k = zs.length := by omega
              clear hrow
              have hlt7 : ∀ j, (Value.slice ad12 zs.length c12).ownBlock = some j → w5.heap.size ≤ j ∧ j < w6.heap.size := fun j hj => HO6.out.lt j hj
              have hd7 := hd6.out.oneKeep hone (fun h => by have := hlt7 _ h; omega) (fun h => by have := hlt7 _ h; omega)
              have hO7 := Lib.hid (own_one hO6.out hone (fun j hj h => by have := hlt7 _ h; have := (hO5.out.lt j hj).2; omega))
              have hB7 : Below W.heap.size W wr := (hB5.trans (hb6.mono hB5.size)).trans (hone.toBelow (fun j hj => by have := hlt7 _ hj; have := hB5.size; omega) (by have := hB5.size; omega))
              clear hone
              obtain ⟨w7, hw7⟩ : ∃ w7, w7 = wr := ⟨_, rfl⟩
              subst hw7
              clear hlt7 hlt5
              have hz0 : ((Try.prog.info? 32).bind (·.zero)) = some (.agg X0) := by rw [hX0.out]; exact noughts_zero
              replace hz0 := Lib.hid hz0
              go_wp2_with (first
                | (go_at_call 10; refine (diskArm_nil _ n).mono ?_; rintro e wx ⟨he, hx⟩; subst he; subst hx)
                | (go_at_call 20; refine (diskWake_nil _).mono ?_; rintro e wx ⟨he, hx⟩; subst he; subst hx))
              go_at_call 13; refine (diskRead_nil _ n hX0).mono ?_; rintro e w8 ⟨rfl, hb8⟩
              have hB8 : Below W.heap.size W w8 := hB7.trans (hb8.mono hB7.size)
              have hd8 := Lib.hid (hd7.kept hb8)
              have hO8 := Lib.hid (own_below hO7.out hb8)
              clear hd7
              have HE : Hid (X0 = rowArr 64 (fun _ => .int .u8 0)) := Lib.hid hX0.out
              have hrA := rowIs_of_arr (w := w8.alloc (.cells X0 32)) (n := 64) (f := fun _ => .int .u8 0) (by rw [← HE.out]; exact heap_alloc_last w8 (.cells X0 32))
              have HRA := Lib.hid hrA
              clear hrA
              go_wp2_with (first
                | (refine wpList_allocTo rfl 32 rfl (some 15) rfl (.agg X0) hz0.out ?_)
                | (refine wpList_store_pieceTo rfl 32 (.tmp 15) (.tmp 75) rfl rfl w8.heap.size 0 X0 (by go_simp) (by go_simp) (by rw [X0s]; exact block_size) (fun j hj => by rw [Nat.zero_add]; exact isSome_of (HRA.out.cell (by omega))) (fun j hj => HRA.out.frozen _) X0o ?_; intro w9 hw9; have HS := Lib.hid hw9; clear hw9))
              have hS := HS.out
              change w9 = (w8.alloc (.cells X0 32)).setCells w8.heap.size 0 X0.toList at hS
              have hb9 : Below w8.heap.size w8 w9 := by rw [hS]; exact below_setCells (Nat.le_refl _) _ _ _ (bnew w8 _)
              have hr9 : w9.rowIs w8.heap.size 32 64 (fun _ => .int .u8 0) := by
                rw [hS, HE.out]
                have := HRA.out
                rw [HE.out] at this
                exact (rowIs_piece (m := 64) (off := 0) (h := fun _ => .int .u8 0) this).congr (fun i hi => by rw [if_pos (by omega)])
              clear HS hS HRA
              have hB9 : Below W.heap.size W w9 := hB8.trans (hb9.mono hB8.size)
              have hd9 := hd8.out.kept hb9
              have hO9 := Lib.hid (own_below hO8.out hb9)
              replace hr9 := Lib.hid hr9
              have hload : ∀ w', Below w9.heap.size w9 w' → ∀ j v, X0.toList[j]? = some v → w'.cell? ⟨w8.heap.size, 0 + j, none⟩ = some v := fun w' hb j v h => by
                rw [HE.out] at h
                obtain ⟨h1, rfl⟩ := rowArr_get _ _ _ _ h
                rw [Nat.zero_add]; exact (row_below hr9.out hb).cell h1
              replace hload := Lib.hid hload
              go_wp2_with (first
                | (go_at_call 22; refine (diskCounts_nil _).mono ?_; rintro e wx ⟨he, hx⟩; subst he; subst hx)
                | (go_at_call 16; refine (diskLen_nil _).mono ?_; rintro e wx ⟨he, hx⟩; subst he; subst hx)
                | (go_at_call 14; refine (diskDead_nil _).mono ?_; rintro e wx ⟨he, hx⟩; subst he; subst hx)
                | (go_at_call 18; refine (diskImage_ok hd9 (by omega)).mono ?_; rintro e w10 ⟨⟨v10, he, hown10⟩, hb10⟩; subst he; rw [bytes_row (lawBytes_len zs)] at hown10; have HI := Lib.hid (SR.of_own hown10); clear hown10 hd9)
                | (go_at_call 17; refine (same_true HI.out (SR.of_own (own_below hO9.out hb10)) (lawBytes_u8 zs) (by omega)).mono ?_; rintro e w11 ⟨he, hb11⟩; subst he; have hb911 := hb10.trans (hb11.mono hb10.size); have hl11 := Lib.hid (hload.out _ hb911))
                | (with_reducible refine wpList_stop (some 101) rfl ?_))
              refine Lib.hid ?_
              refine wpList_load_by ?hw 32 (.tmp 15) rfl (some 101) rfl w8.heap.size 0 ?hx X0 (.array 64 5) ?hc ?hu ?hd ?hi ?_
              case hw => kernel_rfl
              case hx => go_simp
              case hc => exact hl11.out
              case hu => exact block_under
              case hd => rfl
              case hi => rw [X0s]; exact block_size
              go_wp2_with (with_reducible refine wpList_stop (some 102) rfl ?_)
              refine Lib.hid ?_
              refine wpList_build_by ?hw 32 _ rfl (some 102) rfl X0 ?hf ?_
              case hw => kernel_rfl
              case hf => rw [hX0.out]; kernel_rfl
              go_wp2_with (with_reducible refine wpList_stop (some 103) rfl ?_)
              refine Lib.hid ?_
              refine wpList_by ?hw (some 103) rfl (exec_eql (xs := X0) (ys := X0) rfl ?hx ?hy ?hm (equal_u8s X0u.out X0s _)) ?_
              case hw => kernel_rfl
              case hm => kernel_rfl
              case hx => go_simp
              case hy => go_simp
              go_wp2_with (with_reducible refine wpList_stop (some 112) rfl ?_)
              refine Lib.hid ?_
              refine wpList_load_by ?hw 32 (.tmp 15) rfl (some 112) rfl w8.heap.size 0 ?hx X0 (.array 64 5) ?hc ?hu ?hd ?hi ?_
              case hw => kernel_rfl
              case hx => go_simp
              case hc => exact hl11.out
              case hu => exact block_under
              case hd => rfl
              case hi => rw [X0s]; exact block_size
              go_wp2_with (first
                | (go_at_call 11; refine (diskWrite_nil' _ n hX0).mono ?_; rintro e w12 ⟨he, hb12⟩; subst he)
                | (go_at_call 18; refine (diskImage_nil _).mono ?_; rintro e wx ⟨he, hx⟩; subst he; subst hx))
              go_ret
              have hB11 := hB9.trans (hb911.mono hB9.size)
              exact ⟨rfl, hB11.trans (hb12.mono hB11.size)⟩
end Go.Proofs.Ytcjnnonfnlemmaa
