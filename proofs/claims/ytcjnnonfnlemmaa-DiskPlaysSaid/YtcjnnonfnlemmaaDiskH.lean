/- The law DiskNew: the walk. -/
import Derived.Test.YtcjnnonfnlemmaaDiskG
import Derived.Great.FillDense
set_option linter.unusedVariables false
set_option linter.unusedSimpArgs false
namespace Go.Proofs.Ytcjnnonfnlemmaa
open Go.RowKit

theorem zeros64 : Array.replicate 64 0 = Array.replicate 64 0 := rfl

/-- A slice of one block. -/
theorem slice_one (X : Array Value) (hX : X.size = 64) (w : World) : (Instr.buildSlice 37 1 #[(0, .agg X)]).run Try.prog w = .ok (.slice (some ⟨w.heap.size, 0, none⟩) 1 1) (w.alloc (.cells X 32)) := by
  obtain ⟨i, hi, hz, hz1, hz2⟩ := info_parts block_row
  refine run_buildSlice (P := Try.prog) w 37 32 1 #[(0, .agg X)] X i (.agg noughts) Try.underlying37 hi hz (by rw [hz1]; omega) (by rw [hz1]; omega) ?_
  rw [hz1]
  have := Great.fill_whole (s := 64) (by omega) [.agg X] ((Array.range (1 * 64)).map fun x => (Value.agg noughts).cells[x % (Value.agg noughts).cells.size]!) (by intro v hv; simp only [List.mem_singleton] at hv; subst hv; exact hX) (by simp)
  simpa [Value.cells] using this

theorem lawCell_u8 (n : Int) : ∀ k, k < 64 → ∃ z : Int, lawCell n k = .int .u8 z ∧ 0 ≤ z ∧ z ≤ 255 := fun k _ => ⟨_, rfl, by omega, by omega⟩

/-- The bytes of the blocks of a list of numbers. -/
def lawBytes (zs : List Int) : List Value := (zs.map fun z => (rowArr 64 (lawCell z)).toList).flatten
theorem lawBytes_len : ∀ zs : List Int, (lawBytes zs).length = zs.length * 64
  | [] => rfl
  | z :: zs => by
    have := lawBytes_len zs
    simp only [lawBytes, List.map_cons, List.flatten_cons, List.length_append, rowArr_len, List.length_cons] at *
    omega
theorem lawBytes_u8 (zs : List Int) : U8s (lawBytes zs) := fun v hv => by
  simp only [lawBytes, List.mem_flatten, List.mem_map] at hv
  obtain ⟨l, ⟨z, _, rfl⟩, hv⟩ := hv
  exact U8s.row (lawCell_u8 z) v hv
theorem lawBytes_snoc (zs : List Int) (k : Nat) (h : k < zs.length) : lawBytes (zs.take (k + 1)) = lawBytes (zs.take k) ++ (rowArr 64 (lawCell (zs.getD k 0))).toList := by
  have e : zs.take (k + 1) = zs.take k ++ [zs.getD k 0] := by
    rw [List.take_succ_eq_append_getElem h]
    simp [List.getD_eq_getElem?_getD, h]
  rw [e]
  simp [lawBytes]

theorem bytes_row {xs : List Value} {n : Nat} (h : xs.length = n) : (rowArr n (fun k => xs.getD k undef)).toList = xs := by
  subst h
  apply List.ext_getElem?
  intro i
  by_cases hi : i < xs.length
  · simp [rowArr, hi]
  · simp [rowArr, hi]

theorem lawBytes_zero : lawBytes (([] : List Int)) = [] := rfl

/-- New, of any number. -/
theorem diskNew_any (n : Int) (hn : n < 9223372036854775808) (w : World) : Calls Try.prog 9 #[.int .i64 n] w fun e w' => ∃ (p : Option Addr) (c : Int), e = .returned (.tuple #[.pointer p, .int .i64 c]) ∧
    ((n < 0 ∨ 65536 < n) → p = none ∧ c = 27) ∧ (∀ m : Nat, n = m → m ≤ 65536 → p = some ⟨w.heap.size + 1, 0, none⟩ ∧ c = 0 ∧ DK w' (w.heap.size + 1) w.heap.size m (fun _ => .int .u8 0) (-1) false 0 0) ∧ Below w.heap.size w w' := by
  by_cases h : n < 0 ∨ 65536 < n
  · refine (diskNew_bad n h w).mono ?_
    rintro e w' ⟨rfl, rfl⟩
    exact ⟨_, _, rfl, fun _ => ⟨rfl, rfl⟩, fun m hm hm2 => by omega, Below.refl _ _⟩
  · obtain ⟨m, rfl⟩ : ∃ m : Nat, n = m := ⟨n.toNat, by omega⟩
    refine (diskNew_ok m (by omega) w).mono ?_
    rintro e w' ⟨rfl, hd, hb⟩
    refine ⟨_, _, rfl, fun h' => absurd h' h, fun m' hm hm2 => ?_, hb⟩
    obtain rfl : m = m' := by omega
    exact ⟨rfl, rfl, hd⟩

set_option maxRecDepth 10000 in
set_option maxHeartbeats 1000000 in
theorem diskNew_walk (W : World) (v0 v1 : Value) (o0 : Arg Try.prog W 3 v0) (o1 : Arg Try.prog W 22 v1) :
    Calls Try.prog 4 #[v0, v1] W fun e w' => e = .returned (.bool true) ∧ Below W.heap.size W w' := by
  obtain ⟨n, rfl, hwn⟩ := Arg.int Try.underlying3 o0
  have hn64 := wf_i64 hwn
  obtain ⟨zs, hz⟩ := SI.of_arg (k := .u8) Try.underlying22 Try.underlying5 (by kernel_rfl) o1
  clear o0 o1
  obtain ⟨A, cap, rfl, hlc, hcm⟩ := hz.sr.form
  have hzc : ∀ i, i < zs.length → ∃ b off, A = some ⟨b, off, none⟩ ∧ b < W.heap.size ∧ W.cell? ⟨b, off + i, none⟩ = some (.int .u8 (zs.getD i 0)) ∧ 0 ≤ zs.getD i 0 ∧ zs.getD i 0 ≤ 255 := fun i hi => by
    have hw : 0 ≤ zs.getD i 0 ∧ zs.getD i 0 ≤ 255 := by
      rw [List.getD_eq_getElem?_getD, List.getElem?_eq_getElem hi]
      exact wf_u8 (hz.wf _ (List.getElem_mem hi))
    rcases hz.cases with ⟨h, _⟩ | ⟨hn, b, off, cap', h1, h2, h3, h4, h5⟩
    · rw [h] at hi; simp at hi
    · cases h1
      exact ⟨b, off, rfl, h4, h5 i hi, hw⟩
  by_cases hlen : 100 < zs.length
  · go_enter Try.func4, Try.ntmps4
    go_wp2_with (go_at_call 8; refine (diskAwake_any _).mono ?_; rintro e w1 ⟨rfl, hB1⟩)
    go_ret
    exact ⟨rfl, hB1⟩
  have hlen' : (zs.length : Int) ≤ 100 := by omega
  by_cases hbad : n < 0 ∨ 65536 < n
  · by_cases hneg : n < 0
    · have hn5 : ¬ 5000 < n := by omega
      go_enter Try.func4, Try.ntmps4
      go_wp2_with fail
      go_at_call 8; refine (diskAwake_any _).mono ?_; rintro e w1 ⟨rfl, hB1⟩
      go_wp2_with fail
      go_at_call 9; refine (diskNew_bad n hbad _).mono ?_; rintro e w2 ⟨rfl, rfl⟩
      have hB2 := hB1
      have hS1 := hB1.size
      go_wp2_with fail
      go_loopw [7, 32] (fun v7 v32 wr => ∃ k : Nat, k ≤ zs.length ∧ v32 = .int .i64 k ∧ wr.ownsRow w2.heap.size 32 64 v7 k (lawBytes (zs.take k)) ∧ Below w2.heap.size w2 wr)
          (fun _ v32 _ => ((zs.length : Int) - intOf v32).toNat)
      case atStart => exact ⟨0, by omega, rfl, World.ownsRow_nil _ _ _ _, Below.refl _ _⟩
      case round =>
        obtain ⟨k, hk, rfl, hown, hBr⟩ := hrel
        by_cases hlt : k < zs.length
        · obtain ⟨b, off, rfl, hbW, hc, hz0, hz1⟩ := hzc k hlt
          have hBW : Below W.heap.size W wr := hB2.trans (hBr.mono (by omega))
          have hc1 := (hBW.cell (by exact hbW)).trans hc
          have hsn := lawBytes_snoc zs k hlt
          generalize zs.getD k 0 = z at hc1 hz0 hz1 hc hsn
          clear hzc hc
          have HO := Lib.hid hown
          have HN := Lib.hid hsn
          clear hown hsn
          obtain ⟨X, hX⟩ : ∃ X, X = rowArr 64 (lawCell z) := ⟨_, rfl⟩
          have hXs : X.size = 64 := by rw [hX, rowArr_size]
          have HX := Lib.hid hX
          go_wp2_with fail
          go_at_call 12; refine (lawBlock_any z hz0 hz1 _).mono ?_; rintro e w3 ⟨he, hB3⟩
          rw [← hX] at he
          subst he
          clear hX
          have hown3 := Lib.hid (own_below HO.out hB3)
          have hB3' := hBr.trans (hB3.mono hBr.size)
          have hbase : w2.heap.size ≤ w3.heap.size := hB3'.size
          have hr3 := rowIs_of_arr (heap_alloc_last w3 (.cells (rowArr 64 (lawCell z)) 32))
          rw [← HX.out] at hr3
          have hsr3 := SR.of_row (m := 1) (size := 64) hr3 rfl (by simp [maxLen])
          rw [← HX.out] at hsr3
          have HS := Lib.hid hsr3
          have H1 : ∀ u ∈ X.toList, u.oneCell' = true := by rw [HX.out]; exact lawCell_one z
          replace H1 := Lib.hid H1
          clear hr3 hsr3
          go_wp2_with (first
            | (refine wpList_slice_one rfl 37 32 (.tmp 38) rfl (some 39) rfl (.agg X) rfl X (slice_one X hXs) ?_)
            | (refine wpList_append_sr rfl (.tmp 36) (.tmp 39) 37 rfl (some 40) rfl w2.heap.size 32 (.agg noughts) 64 64 Try.underlying37 block_row noughts_size (by omega) _ (.slice (some ⟨w3.heap.size, 0, none⟩) 1 1) k 1 (lawBytes (zs.take k)) X.toList rfl (hown3.out.alloc _) rfl HS.out H1.out (by simp [maxLen]; omega) (by omega) (by simp; omega) ?_; intro v4 w4 hown4 hg4 hat4; have HO4 := Lib.hid hown4; have HG4 := Lib.hid hg4; have HA4 := Lib.hid hat4; clear hown4 hg4 hat4))
          refine ⟨⟨k + 1, by omega, by go_num, ?_, ?_⟩, by simp [intOf]; omega⟩
          · rw [HN.out, ← HX.out]; exact HO4.out
          · exact (hB3'.alloc hbase (.cells X 32)).grown HG4.out (by simp; omega) (fun j hj => (HO.out.lt j hj).1)
        · obtain rfl : k = zs.length := by omega
          rw [List.take_length] at hown
          obtain ⟨ad7, c7, rfl⟩ := own_form hown
          have HO := Lib.hid (SR.of_own hown)
          clear hown hzc
          have hBW : Below W.heap.size W wr := hB2.trans (hBr.mono (by omega))
          have hSr := hBr.size
          go_wp2_with fail
          go_at_call 15; refine (diskOf_ok HO.out (lawBytes_u8 zs) (by omega) (n := zs.length)).mono ?_; rintro e w3 ⟨rfl, hd3, hb3⟩
          have hB3 : Below W.heap.size W w3 := hBW.trans (hb3.mono hBW.size)
          have HS := Lib.hid (HO.out.keep hb3)
          have hBr3 := hBr.trans (hb3.mono hSr)
          go_wp2_with fail
          go_ret
          exact ⟨rfl, hB3⟩
    · have hn5 : 5000 < n := by omega
      have hn6 : 65536 < n := by omega
      go_enter Try.func4, Try.ntmps4
      go_wp2_with fail
      go_at_call 8; refine (diskAwake_any _).mono ?_; rintro e w1 ⟨rfl, hB1⟩
      go_wp2_with fail
      go_at_call 9; refine (diskNew_bad n hbad _).mono ?_; rintro e w2 ⟨rfl, rfl⟩
      have hB2 := hB1
      have hS1 := hB1.size
      go_wp2_with fail
      go_loopw [7, 32] (fun v7 v32 wr => ∃ k : Nat, k ≤ zs.length ∧ v32 = .int .i64 k ∧ wr.ownsRow w2.heap.size 32 64 v7 k (lawBytes (zs.take k)) ∧ Below w2.heap.size w2 wr)
          (fun _ v32 _ => ((zs.length : Int) - intOf v32).toNat)
      case atStart => exact ⟨0, by omega, rfl, World.ownsRow_nil _ _ _ _, Below.refl _ _⟩
      case round =>
        obtain ⟨k, hk, rfl, hown, hBr⟩ := hrel
        by_cases hlt : k < zs.length
        · obtain ⟨b, off, rfl, hbW, hc, hz0, hz1⟩ := hzc k hlt
          have hBW : Below W.heap.size W wr := hB2.trans (hBr.mono (by omega))
          have hc1 := (hBW.cell (by exact hbW)).trans hc
          have hsn := lawBytes_snoc zs k hlt
          generalize zs.getD k 0 = z at hc1 hz0 hz1 hc hsn
          clear hzc hc
          have HO := Lib.hid hown
          have HN := Lib.hid hsn
          clear hown hsn
          obtain ⟨X, hX⟩ : ∃ X, X = rowArr 64 (lawCell z) := ⟨_, rfl⟩
          have hXs : X.size = 64 := by rw [hX, rowArr_size]
          have HX := Lib.hid hX
          go_wp2_with fail
          go_at_call 12; refine (lawBlock_any z hz0 hz1 _).mono ?_; rintro e w3 ⟨he, hB3⟩
          rw [← hX] at he
          subst he
          clear hX
          have hown3 := Lib.hid (own_below HO.out hB3)
          have hB3' := hBr.trans (hB3.mono hBr.size)
          have hbase : w2.heap.size ≤ w3.heap.size := hB3'.size
          have hr3 := rowIs_of_arr (heap_alloc_last w3 (.cells (rowArr 64 (lawCell z)) 32))
          rw [← HX.out] at hr3
          have hsr3 := SR.of_row (m := 1) (size := 64) hr3 rfl (by simp [maxLen])
          rw [← HX.out] at hsr3
          have HS := Lib.hid hsr3
          have H1 : ∀ u ∈ X.toList, u.oneCell' = true := by rw [HX.out]; exact lawCell_one z
          replace H1 := Lib.hid H1
          clear hr3 hsr3
          go_wp2_with (first
            | (refine wpList_slice_one rfl 37 32 (.tmp 38) rfl (some 39) rfl (.agg X) rfl X (slice_one X hXs) ?_)
            | (refine wpList_append_sr rfl (.tmp 36) (.tmp 39) 37 rfl (some 40) rfl w2.heap.size 32 (.agg noughts) 64 64 Try.underlying37 block_row noughts_size (by omega) _ (.slice (some ⟨w3.heap.size, 0, none⟩) 1 1) k 1 (lawBytes (zs.take k)) X.toList rfl (hown3.out.alloc _) rfl HS.out H1.out (by simp [maxLen]; omega) (by omega) (by simp; omega) ?_; intro v4 w4 hown4 hg4 hat4; have HO4 := Lib.hid hown4; have HG4 := Lib.hid hg4; have HA4 := Lib.hid hat4; clear hown4 hg4 hat4))
          refine ⟨⟨k + 1, by omega, by go_num, ?_, ?_⟩, by simp [intOf]; omega⟩
          · rw [HN.out, ← HX.out]; exact HO4.out
          · exact (hB3'.alloc hbase (.cells X 32)).grown HG4.out (by simp; omega) (fun j hj => (HO.out.lt j hj).1)
        · obtain rfl : k = zs.length := by omega
          rw [List.take_length] at hown
          obtain ⟨ad7, c7, rfl⟩ := own_form hown
          have HO := Lib.hid (SR.of_own hown)
          clear hown hzc
          have hBW : Below W.heap.size W wr := hB2.trans (hBr.mono (by omega))
          have hSr := hBr.size
          go_wp2_with fail
          go_at_call 15; refine (diskOf_ok HO.out (lawBytes_u8 zs) (by omega) (n := zs.length)).mono ?_; rintro e w3 ⟨rfl, hd3, hb3⟩
          have hB3 : Below W.heap.size W w3 := hBW.trans (hb3.mono hBW.size)
          have HS := Lib.hid (HO.out.keep hb3)
          have hBr3 := hBr.trans (hb3.mono hSr)
          go_wp2_with fail
          go_ret
          exact ⟨rfl, hB3⟩
  obtain ⟨m, rfl⟩ : ∃ m : Nat, n = m := ⟨n.toNat, by omega⟩
  by_cases hmid : 5000 < (m : Int)
  · have hmid2 : (m : Int) ≤ 65536 := by omega
    go_enter Try.func4, Try.ntmps4
    go_wp2_with (go_at_call 8; refine (diskAwake_any _).mono ?_; rintro e w1 ⟨rfl, hB1⟩)
    go_ret
    exact ⟨rfl, hB1⟩
  go_enter Try.func4, Try.ntmps4
  go_wp2_with fail
  go_at_call 8; refine (diskAwake_any _).mono ?_; rintro e w1 ⟨rfl, hB1⟩
  go_wp2_with fail
  go_at_call 9; refine (diskNew_ok m (by omega) _).mono ?_; rintro e w2 ⟨rfl, hd2, hb2⟩
  have hB2 := hB1.trans (hb2.mono hB1.size)
  have hS1 := hB1.size
  have hS2 := hb2.size
  go_wp2_with fail
  go_loopw [7, 32] (fun v7 v32 wr => ∃ k : Nat, k ≤ zs.length ∧ v32 = .int .i64 k ∧ wr.ownsRow w2.heap.size 32 64 v7 k (lawBytes (zs.take k)) ∧ Below w2.heap.size w2 wr)
      (fun _ v32 _ => ((zs.length : Int) - intOf v32).toNat)
  case atStart => exact ⟨0, by omega, rfl, World.ownsRow_nil _ _ _ _, Below.refl _ _⟩
  case round =>
    obtain ⟨k, hk, rfl, hown, hBr⟩ := hrel
    by_cases hlt : k < zs.length
    · obtain ⟨b, off, rfl, hbW, hc, hz0, hz1⟩ := hzc k hlt
      have hBW : Below W.heap.size W wr := hB2.trans (hBr.mono (by omega))
      have hc1 := (hBW.cell (by exact hbW)).trans hc
      have hsn := lawBytes_snoc zs k hlt
      generalize zs.getD k 0 = z at hc1 hz0 hz1 hc hsn
      clear hzc hc
      have HO := Lib.hid hown
      have HN := Lib.hid hsn
      clear hown hsn
      obtain ⟨X, hX⟩ : ∃ X, X = rowArr 64 (lawCell z) := ⟨_, rfl⟩
      have hXs : X.size = 64 := by rw [hX, rowArr_size]
      have HX := Lib.hid hX
      go_wp2_with fail
      go_at_call 12; refine (lawBlock_any z hz0 hz1 _).mono ?_; rintro e w3 ⟨he, hB3⟩
      rw [← hX] at he
      subst he
      clear hX
      have hown3 := Lib.hid (own_below HO.out hB3)
      have hB3' := hBr.trans (hB3.mono hBr.size)
      have hbase : w2.heap.size ≤ w3.heap.size := hB3'.size
      have hr3 := rowIs_of_arr (heap_alloc_last w3 (.cells (rowArr 64 (lawCell z)) 32))
      rw [← HX.out] at hr3
      have hsr3 := SR.of_row (m := 1) (size := 64) hr3 rfl (by simp [maxLen])
      rw [← HX.out] at hsr3
      have HS := Lib.hid hsr3
      have H1 : ∀ u ∈ X.toList, u.oneCell' = true := by rw [HX.out]; exact lawCell_one z
      replace H1 := Lib.hid H1
      clear hr3 hsr3
      go_wp2_with (first
        | (refine wpList_slice_one rfl 37 32 (.tmp 38) rfl (some 39) rfl (.agg X) rfl X (slice_one X hXs) ?_)
        | (refine wpList_append_sr rfl (.tmp 36) (.tmp 39) 37 rfl (some 40) rfl w2.heap.size 32 (.agg noughts) 64 64 Try.underlying37 block_row noughts_size (by omega) _ (.slice (some ⟨w3.heap.size, 0, none⟩) 1 1) k 1 (lawBytes (zs.take k)) X.toList rfl (hown3.out.alloc _) rfl HS.out H1.out (by simp [maxLen]; omega) (by omega) (by simp; omega) ?_; intro v4 w4 hown4 hg4 hat4; have HO4 := Lib.hid hown4; have HG4 := Lib.hid hg4; have HA4 := Lib.hid hat4; clear hown4 hg4 hat4))
      refine ⟨⟨k + 1, by omega, by go_num, ?_, ?_⟩, by simp [intOf]; omega⟩
      · rw [HN.out, ← HX.out]; exact HO4.out
      · exact (hB3'.alloc hbase (.cells X 32)).grown HG4.out (by simp; omega) (fun j hj => (HO.out.lt j hj).1)
    · obtain rfl : k = zs.length := by omega
      rw [List.take_length] at hown
      obtain ⟨ad7, c7, rfl⟩ := own_form hown
      have HO := Lib.hid (SR.of_own hown)
      clear hown hzc
      have hBW : Below W.heap.size W wr := hB2.trans (hBr.mono (by omega))
      have hSr := hBr.size
      go_wp2_with fail
      go_at_call 15; refine (diskOf_ok HO.out (lawBytes_u8 zs) (by omega) (n := zs.length)).mono ?_; rintro e w3 ⟨rfl, hd3, hb3⟩
      have hB3 : Below W.heap.size W w3 := hBW.trans (hb3.mono hBW.size)
      have HS := Lib.hid (HO.out.keep hb3)
      have hBr3 := hBr.trans (hb3.mono hSr)
      have hd4 := hd2.kept hBr3
      go_wp2_with (first
        | (go_at_call 16; refine (diskLen_ok hd4).mono ?_; rintro e wx ⟨he, hx⟩; subst he; subst hx)
        | (go_at_call 14; refine (diskDead_ok hd4).mono ?_; rintro e wx ⟨he, hx⟩; subst he; subst hx)
        | (go_at_call 18; refine (diskImage_ok hd3 (by omega)).mono ?_; rintro e w5 ⟨⟨v5, he, hown5⟩, hb5⟩; subst he; rw [bytes_row (lawBytes_len zs)] at hown5; have HI := Lib.hid (SR.of_own hown5); clear hown5)
        | (go_at_call 17; refine (same_true HI.out (HS.out.keep hb5) (lawBytes_u8 zs) (by omega)).mono ?_; rintro e w6 ⟨he, hb6⟩; subst he))
      go_ret
      exact ⟨rfl, (hB3.trans (hb5.mono hB3.size)).trans (hb6.mono (Nat.le_trans hB3.size hb5.size))⟩
end Go.Proofs.Ytcjnnonfnlemmaa
