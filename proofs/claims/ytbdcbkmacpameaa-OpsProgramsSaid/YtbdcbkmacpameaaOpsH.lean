/- The law OpsPrograms: the walk. -/
import Derived.Test.YtbdcbkmacpameaaOpsG
import Derived.Deep.DeepCutAuto
set_option linter.unusedVariables false
set_option linter.unusedSimpArgs false
namespace Go.Proofs.Ytbdcbkmacpameaa
open Go.RowKit

theorem si_drew' {w : World} {k : IntKind} {v : Value} {zs : List Int} (h : SI w k v zs) : SI w.drew k v zs := ⟨h.sr.drewN 1, h.wf⟩

theorem made_u8 (w : World) (n : Nat) : (w.alloc (.cells (madeCells #[Value.int .u8 0] n) 5)).rowIs w.heap.size 5 n (fun _ => .int .u8 0) := by
  refine ⟨_, heap_alloc_last w _, size_madeCells _ _, fun i hi => ?_⟩
  simp [madeCells, hi, Nat.mod_one]

/-- The bytes that the law lays. -/
def codeNums (n : Nat) : List Int := (List.range n).map (fun i : Nat => ((i : Int) * 3) % 256)
theorem codeNums_len (n : Nat) : (codeNums n).length = n := by simp [codeNums]
theorem codeNums_wf (n : Nat) : ∀ z ∈ codeNums n, (Lit.int .u8 z).wf = true := fun z hz => by
  simp only [codeNums, List.mem_map] at hz
  obtain ⟨i, _, rfl⟩ := hz
  exact u8_wf (by omega)
theorem SI.of_rowIs {w : World} {g n : Nat} {t : TypeId} (h : w.rowIs g t n (fun i => .int .u8 (((i : Int) * 3) % 256))) (hn : n ≤ maxLen) : SI w .u8 (.slice (some ⟨g, 0, none⟩) n n) (codeNums n) := by
  refine ⟨?_, codeNums_wf n⟩
  rw [codeNums_len]
  refine ⟨by simp [codeNums], .inr ⟨_, n, rfl, Nat.le_refl _, hn, fun h0 => ⟨rfl, h.lt, fun i hi => ?_⟩⟩⟩
  show w.cell? ⟨g, 0 + i, none⟩ = _
  rw [Nat.zero_add, h.cell (by omega)]
  have : i < n := by omega
  simp [codeNums, this]

set_option maxRecDepth 100000 in
set_option maxHeartbeats 4000000 in
theorem opsPrograms_walk (W : World) (v0 v1 v2 v3 : Value) (o0 : Arg Try.prog W 5 v0) (o1 : Arg Try.prog W 31 v1) (o2 : Arg Try.prog W 43 v2) (o3 : Arg Try.prog W 4 v3) :
    Calls Try.prog 9 #[v0, v1, v2, v3] W fun e w' => e = .returned (.bool true) ∧ Below W.heap.size W w' := by
  obtain ⟨za, rfl, hwa⟩ := Arg.int Try.underlying5 o0
  have hza := wf_u8 hwa
  obtain ⟨zn, rfl, hwn⟩ := Arg.int Try.underlying31 o1
  have hzn := wf_u16 hwn
  obtain ⟨zs, hz⟩ := SI.of_arg (k := .u8) Try.underlying43 Try.underlying5 (by kernel_rfl) o2
  obtain ⟨right, rfl⟩ := Arg.bool Try.underlying4 o3
  clear o0 o1 o2 o3
  obtain ⟨A, cap, rfl, hlc, hcm⟩ := hz.sr.form
  by_cases hbig : 3000 < (zs.length : Int)
  · go_enter Try.func9, Try.ntmps9
    go_wp2_with (go_at_call 15; refine (opsAwake_any _).mono ?_; rintro e w1 ⟨rfl, hb⟩)
    go_ret
    exact ⟨rfl, hb⟩
  have hlen' : (zs.length : Int) ≤ 3000 := by omega
  obtain ⟨n, hn, hn2⟩ : ∃ n : Nat, zn % 2100 = (n : Int) ∧ n < 2100 := ⟨(zn % 2100).toNat, by omega, by omega⟩
  obtain ⟨x, hx, hx0, hx1⟩ : ∃ x : Int, za % 36 = x ∧ 0 ≤ x ∧ x ≤ 35 := ⟨za % 36, rfl, by omega, by omega⟩
  have htm : za.tmod 36 = x := by rw [Int.tmod_eq_emod_of_nonneg (by omega)]; exact hx
  have htn : zn.tmod 2100 = (n : Int) := by rw [Int.tmod_eq_emod_of_nonneg (by omega)]; exact hn
  have hmk := fun w => run_make_row' (P := Try.prog) 43 5 (.int .u8 0) 1 Try.underlying43 u8_info rfl .u16 .u16 n (by omega) (by omega) w
  have HZ := Lib.hid hz
  have hwx : IntKind.i64.wrap x = x := by rw [IntKind.wrap_i64]; omega
  have hwn4 : IntKind.i64.wrap ((n : Int) + 4) = (n : Int) + 4 := by rw [IntKind.wrap_i64]; omega
  clear hz
  go_enter Try.func9, Try.ntmps9
  go_wp2_with fail
  go_at_call 15; refine (opsAwake_any _).mono ?_; rintro e w1 ⟨rfl, hB1⟩
  have hS1 := hB1.size
  go_wp2_with fail
  have hrow0 : ((w1.alloc (.cells (madeCells #[.int .u8 0] n) 5)).alloc (.cells #[.int .u8 x, .slice (some ⟨w1.heap.size, 0, none⟩) n n] 45)).rowIs w1.heap.size 5 n (fun _ => .int .u8 0) := (made_u8 w1 n).alloc _
  have hobj0 := heap_alloc_last (w1.alloc (.cells (madeCells #[.int .u8 0] n) 5)) (.cells #[.int .u8 x, .slice (some ⟨w1.heap.size, 0, none⟩) n n] 45)
  rw [show (w1.alloc (.cells (madeCells #[Value.int .u8 0] n) 5)).heap.size = w1.heap.size + 1 by simp] at hobj0
  have hbel0 : Below w1.heap.size w1 ((w1.alloc (.cells (madeCells #[.int .u8 0] n) 5)).alloc (.cells #[.int .u8 x, .slice (some ⟨w1.heap.size, 0, none⟩) n n] 45)) := bnewAfter (bnew w1 _) _
  generalize (w1.alloc (.cells (madeCells #[.int .u8 0] n) 5)).alloc (.cells #[.int .u8 x, .slice (some ⟨w1.heap.size, 0, none⟩) n n] 45) = w2 at *
  go_loopw [35] (fun v35 wr => ∃ k : Nat, k ≤ n ∧ v35 = .int .i64 k ∧ wr.rowIs w1.heap.size 5 n (fun i => if i < k then .int .u8 (((i : Int) * 3) % 256) else .int .u8 0) ∧ wr.heap[w1.heap.size + 1]? = some (.cells #[.int .u8 x, .slice (some ⟨w1.heap.size, 0, none⟩) n n] 45 (0, 0)) ∧ Below w1.heap.size w1 wr)
    (fun v35 _ => ((n : Int) - intOf v35).toNat)
  case atStart => exact ⟨0, by omega, rfl, hrow0.congr (fun i _ => by rw [if_neg (by omega)]), hobj0, hbel0⟩
  case round =>
    obtain ⟨k, hk, rfl, hrow, hobj, hB⟩ := hrel
    clear hrow0 hobj0 hbel0
    by_cases hlt : k < n
    · have ck : wr.cell? ⟨w1.heap.size, k, none⟩ = some (.int .u8 0) := (hrow.cell hlt).trans (by rw [if_neg (by omega)])
      have fk := hrow.frozen
      have oc := rowcell hobj
      have hset := Lib.hid (hrow.set k (.int .u8 (((k : Int) * 3) % 256)))
      have hob := Lib.hid hobj
      clear hrow
      go_wp2_with fail
      go_roundw
      case rel =>
        refine ⟨k + 1, by omega, by go_num, hset.out.congr (fun i hi => ?_), ?_, hB.setCell (Nat.le_refl _) _⟩
        · by_cases h1 : i = k
          · rw [if_pos h1, if_pos (by omega), h1]
          · rw [if_neg h1]
            by_cases h2 : i < k
            · rw [if_pos h2, if_pos (by omega)]
            · rw [if_neg h2, if_neg (by omega)]
        · rw [Below.heap_setCell _ _ _ _ (by show w1.heap.size + 1 ≠ w1.heap.size; omega)]; exact hob.out
      case measure => simp [intOf]; omega
    · have hcode : SI wr .u8 (.slice (some ⟨w1.heap.size, 0, none⟩) n n) (codeNums n) := SI.of_rowIs (hrow.congr (fun i hi => by rw [if_pos (by omega)])) (by simp [maxLen]; omega)
      obtain ⟨wo, hwo⟩ : ∃ wo, wo = wr := ⟨_, rfl⟩
      subst hwo
      have hBW : Below W.heap.size W wo := hB1.trans (hB.mono hS1)
      have HC := Lib.hid hcode
      have HO := Lib.hid hobj
      have hlo := rowlt hobj
      have oc := rowcell hobj
      clear hrow hcode hobj
      go_wp2_with fail
      go_at_call 35; refine (refFits_any x hx0 (by omega) n (by omega) _).mono ?_; rintro e w3 ⟨rfl, hb3⟩
      have hB3 := hBW.trans (hb3.mono hBW.size)
      have hob3 := bkeep hb3 HO.out
      have oc := rowcell hob3
      have hc3 := HC.out.keep hb3
      have HC3 := Lib.hid hc3
      have HO3 := Lib.hid hob3
      clear hob3
      by_cases hfit : progFits x n
      · have hfb : fitsB x n = true := by unfold fitsB; rw [decide_eq_true_iff]; exact hfit
        rw [hfb]
        go_wp2_with fail
        have hfit' : progFits x (codeNums n).length := by rw [codeNums_len]; exact hfit
        refine (opsFile_yes x hx0 (by omega) _ (codeNums n) _ hc3 hfit').mono ?_
        rintro e w4 ⟨f, rfl, hf4, hb4⟩
        have hlen4 : (71 :: 88 :: x :: 0 :: codeNums n).length = n + 4 := by simp [codeNums_len]
        have hf4' := hf4.sr
        rw [hlen4] at hf4'
        obtain ⟨adf, cf, rfl, _, _⟩ := hf4'.form
        have hB4 := hB3.trans (hb4.mono hB3.size)
        have hob4 := bkeep hb4 HO3.out
        have hc4 := HC3.out.keep hb4
        clear hf4'
        go_wp2_with fail
        refine (opsLoad_any w4 _ (71 :: 88 :: x :: 0 :: codeNums n) hf4 (by rw [hlen4]; omega)).mono ?_
        have hisF : isFile (71 :: 88 :: x :: 0 :: codeNums n) := ⟨by rw [hlen4]; omega, rfl, rfl, rfl, by rw [hlen4]; exact hfit⟩
        rintro e w5 ⟨hb5, ⟨_, adg, cg, rfl, hg5⟩ | ⟨h, _⟩⟩
        case inr => exact absurd hisF h
        rw [hlen4] at hg5 ⊢
        have hB5 := hB4.trans (hb5.mono hB4.size)
        have hob5 := bkeep hb5 hob4
        have hc5 := hc4.keep hb5
        change SI w5 .u8 (.slice adg n cg) (codeNums n) at hg5
        change match Ending.returned (Value.tuple #[.agg #[.int .u8 x, .slice adg n cg], .int .i64 0]), w5 with | _, _ => _
        go_wp2_with fail
        have hB6 := hB5.alloc hB5.size (.cells #[.int .u8 x, .slice adg n cg] 45)
        have hob6 := bkeep (bnew w5 (.cells #[.int .u8 x, .slice adg n cg] 45)) hob5
        have hob14 := heap_alloc_last w5 (.cells #[.int .u8 x, .slice adg n cg] 45)
        have hc6 := hc5.keep (bnew w5 (.cells #[.int .u8 x, .slice adg n cg] 45))
        have hg6 := hg5.keep (bnew w5 (.cells #[.int .u8 x, .slice adg n cg] 45))
        clear hg5 hc5 hob5 hob4 hc4 hf4 oc hc3
        generalize w5.alloc (.cells #[.int .u8 x, .slice adg n cg] 45) = w6 at *
        have hS6 := hB6.size
        have hSd : Below w6.heap.size w6.drew w6.drew := Below.refl _ _
        have hq9 : ∀ w', Below w6.heap.size w6.drew w' → ∀ o, w'.cell? ⟨w1.heap.size + 1, o, none⟩ = (#[.int .u8 x, .slice (some ⟨w1.heap.size, 0, none⟩) n n] : Array Value)[o]? := fun w' hb => rowcell (bkeep (w := w') (W := w6.drew) hb hob6)
        have hq14 : ∀ w', Below w6.heap.size w6.drew w' → ∀ o, w'.cell? ⟨w5.heap.size, o, none⟩ = (#[.int .u8 x, .slice adg n cg] : Array Value)[o]? := fun w' hb => rowcell (bkeep (w := w') (W := w6.drew) hb hob14)
        obtain ⟨sC, hsC⟩ : ∃ s, s = strOfNums (codeNums n) := ⟨_, rfl⟩
        have hcv1 : ∀ w', Below w6.heap.size w6.drew w' → (convert 43 9 (.slice (some ⟨w1.heap.size, 0, none⟩) n n)).run Try.prog w' = .ok (.string sC) w' := fun w' h => by rw [hsC]; exact ((si_drew' hc6).keep h).toString Try.underlying43 Try.underlying5 Try.underlying9
        have hcv2 : ∀ w', Below w6.heap.size w6.drew w' → (convert 43 9 (.slice adg n cg)).run Try.prog w' = .ok (.string sC) w' := fun w' h => by rw [hsC]; exact ((si_drew' hg6).keep h).toString Try.underlying43 Try.underlying5 Try.underlying9
        have hBd : Below W.heap.size W w6.drew := bdrewN hB6 1
        refine wp_region_held (S := fun w' => Below w6.heap.size w6.drew w') (by kernel_rfl) ?_
        change wpAnyH _ _ _ _ _ _ _ _ (World.drew _)
        refine takeH 0 (.int .i64 0) (some 63) rfl rfl (by kernel_rfl) (by kernel_rfl) (by kernel_rfl) (fun _ _ _ h => h) (.inl ⟨by kernel_rfl, fun w _ => by go_simp⟩) hSd ?_
        refine takeH 1 (.bool true) (some 64) rfl rfl (by kernel_rfl) (by kernel_rfl) (by kernel_rfl) (fun _ _ _ h => h) (.inl ⟨by kernel_rfl, fun w _ => by go_simp⟩) hSd ?_
        refine takeH 2 (.bool true) (some 65) rfl rfl (by kernel_rfl) (by kernel_rfl) (by kernel_rfl) (fun _ _ _ h => h) (.inl ⟨by kernel_rfl, fun w _ => by go_simp⟩) hSd ?_
        refine takeH 3 (.bool false) (some 66) rfl rfl (by kernel_rfl) (by kernel_rfl) (by kernel_rfl) (fun _ _ _ h => h) (.inl ⟨by kernel_rfl, fun w _ => by go_simp⟩) hSd ?_
        refine takeH 4 (.bool false) (some 67) rfl rfl (by kernel_rfl) (by kernel_rfl) (by kernel_rfl) (fun _ _ _ h => h) (.inl ⟨by kernel_rfl, fun w _ => by go_simp⟩) hSd ?_
        refine takeH 5 (.agg #[.int .u8 x, .slice (some ⟨w1.heap.size, 0, none⟩) n n]) (some 68) rfl rfl (by kernel_rfl) (by kernel_rfl) (by kernel_rfl) (fun _ _ _ h => h) (.inl ⟨by kernel_rfl, fun w hw => by have hc := hq9 w hw; go_simp⟩) hSd ?_
        refine takeH 7 (.pointer (some ⟨w1.heap.size + 1, 0, none⟩)) (some 70) rfl rfl (by kernel_rfl) (by kernel_rfl) (by kernel_rfl) (fun _ _ _ h => h) (.inl ⟨by kernel_rfl, fun w _ => by go_simp⟩) hSd ?_
        refine takeH 8 (.int .u8 x) (some 71) rfl rfl (by kernel_rfl) (by kernel_rfl) (by kernel_rfl) (fun _ _ _ h => h) (.inl ⟨by kernel_rfl, fun w hw => by have hc := hq9 w hw; go_simp⟩) hSd ?_
        refine takeH 9 (.int .i64 x) (some 72) rfl rfl (by kernel_rfl) (by kernel_rfl) (by kernel_rfl) (fun _ _ _ h => h) (.inl ⟨by kernel_rfl, fun w _ => by go_simp⟩) hSd ?_
        refine takeH 10 (.pointer (some ⟨w1.heap.size + 1, 1, none⟩)) (some 73) rfl rfl (by kernel_rfl) (by kernel_rfl) (by kernel_rfl) (fun _ _ _ h => h) (.inl ⟨by kernel_rfl, fun w _ => by go_simp⟩) hSd ?_
        refine takeH 11 (.slice (some ⟨w1.heap.size, 0, none⟩) n n) (some 74) rfl rfl (by kernel_rfl) (by kernel_rfl) (by kernel_rfl) (fun _ _ _ h => h) (.inl ⟨by kernel_rfl, fun w hw => by have hc := hq9 w hw; go_simp⟩) hSd ?_
        refine takeH 12 (.int .i64 n) (some 75) rfl rfl (by kernel_rfl) (by kernel_rfl) (by kernel_rfl) (fun _ _ _ h => h) (.inl ⟨by kernel_rfl, fun w _ => by go_simp⟩) hSd ?_
        refine callH 6 rfl (by kernel_rfl) (by kernel_rfl) (some 69) rfl 37 #[.agg #[.int .u8 x, .slice (some ⟨w1.heap.size, 0, none⟩) n n]] ?hrun ((opsPages_any x hx0 (by omega) (some ⟨w1.heap.size, 0, none⟩) n n (by omega) _).mono ?_)
        case hrun => go_simp
        rintro e w7 ⟨he, hb7⟩
        have hS7 : Below w6.heap.size w6.drew w7 := hSd.trans hb7
        refine ⟨_, he, hS7, ?_⟩
        refine callH 13 rfl (by kernel_rfl) (by kernel_rfl) (some 76) rfl 38 #[.int .i64 x, .int .i64 n] ?hrun ((refPages_any x hx0 (by omega) n (by omega) _).mono ?_)
        case hrun => go_simp
        rintro e w8 ⟨he, hb8⟩
        have hS8 : Below w6.heap.size w6.drew w8 := hS7.trans (hb8.mono hS7.size)
        refine ⟨_, he, hS8, ?_⟩
        refine takeH 14 (.bool false) (some 77) rfl rfl (by kernel_rfl) (by kernel_rfl) (by kernel_rfl) (fun _ _ _ h => h) (.inl ⟨by kernel_rfl, fun w _ => by go_simp⟩) hS8 ?_
        refine takeH 15 (.bool false) (some 78) rfl rfl (by kernel_rfl) (by kernel_rfl) (by kernel_rfl) (fun _ _ _ h => h) (.inl ⟨by kernel_rfl, fun w _ => by go_simp⟩) hS8 ?_
        refine takeH 16 (.bool false) (some 79) rfl rfl (by kernel_rfl) (by kernel_rfl) (by kernel_rfl) (fun _ _ _ h => h) (.inl ⟨by kernel_rfl, fun w _ => by go_simp⟩) hS8 ?_
        refine takeH 17 (.bool true) (some 80) rfl rfl (by kernel_rfl) (by kernel_rfl) (by kernel_rfl) (fun _ _ _ h => h) (.inl ⟨by kernel_rfl, fun w _ => by go_simp⟩) hS8 ?_
        refine takeH 18 (.bool false) (some 81) rfl rfl (by kernel_rfl) (by kernel_rfl) (by kernel_rfl) (fun _ _ _ h => h) (.inl ⟨by kernel_rfl, fun w _ => by go_simp⟩) hS8 ?_
        refine takeH 19 (.bool false) (some 82) rfl rfl (by kernel_rfl) (by kernel_rfl) (by kernel_rfl) (fun _ _ _ h => h) (.inl ⟨by kernel_rfl, fun w _ => by go_simp⟩) hS8 ?_
        refine takeH 20 (undef) (some 83) rfl rfl (by kernel_rfl) (by kernel_rfl) (by kernel_rfl) (fun _ _ _ h => h) (.inr ⟨by kernel_rfl, rfl⟩) hS8 ?_
        refine takeH 21 (undef) (some 84) rfl rfl (by kernel_rfl) (by kernel_rfl) (by kernel_rfl) (fun _ _ _ h => h) (.inr ⟨by kernel_rfl, rfl⟩) hS8 ?_
        refine takeH 22 (undef) (some 85) rfl rfl (by kernel_rfl) (by kernel_rfl) (by kernel_rfl) (fun _ _ _ h => h) (.inr ⟨by kernel_rfl, rfl⟩) hS8 ?_
        refine takeH 23 (undef) (some 86) rfl rfl (by kernel_rfl) (by kernel_rfl) (by kernel_rfl) (fun _ _ _ h => h) (.inr ⟨by kernel_rfl, rfl⟩) hS8 ?_
        refine takeH 24 (undef) (some 87) rfl rfl (by kernel_rfl) (by kernel_rfl) (by kernel_rfl) (fun _ _ _ h => h) (.inr ⟨by kernel_rfl, rfl⟩) hS8 ?_
        refine takeH 25 (undef) (some 88) rfl rfl (by kernel_rfl) (by kernel_rfl) (by kernel_rfl) (fun _ _ _ h => h) (.inr ⟨by kernel_rfl, rfl⟩) hS8 ?_
        refine takeH 26 (.bool false) (some 89) rfl rfl (by kernel_rfl) (by kernel_rfl) (by kernel_rfl) (fun _ _ _ h => h) (.inl ⟨by kernel_rfl, fun w _ => by go_simp⟩) hS8 ?_
        refine takeH 27 (.bool false) (some 90) rfl rfl (by kernel_rfl) (by kernel_rfl) (by kernel_rfl) (fun _ _ _ h => h) (.inl ⟨by kernel_rfl, fun w _ => by go_simp⟩) hS8 ?_
        refine takeH 28 (.bool false) (some 91) rfl rfl (by kernel_rfl) (by kernel_rfl) (by kernel_rfl) (fun _ _ _ h => h) (.inl ⟨by kernel_rfl, fun w _ => by go_simp⟩) hS8 ?_
        refine takeH 29 (.bool true) (some 92) rfl rfl (by kernel_rfl) (by kernel_rfl) (by kernel_rfl) (fun _ _ _ h => h) (.inl ⟨by kernel_rfl, fun w _ => by go_simp⟩) hS8 ?_
        refine takeH 30 (.bool true) (some 93) rfl rfl (by kernel_rfl) (by kernel_rfl) (by kernel_rfl) (fun _ _ _ h => h) (.inl ⟨by kernel_rfl, fun w _ => by go_simp⟩) hS8 ?_
        refine takeH 31 (.int .i64 0) (some 94) rfl rfl (by kernel_rfl) (by kernel_rfl) (by kernel_rfl) (fun _ _ _ h => h) (.inl ⟨by kernel_rfl, fun w _ => by go_simp⟩) hS8 ?_
        refine takeH 32 (.bool false) (some 95) rfl rfl (by kernel_rfl) (by kernel_rfl) (by kernel_rfl) (fun _ _ _ h => h) (.inl ⟨by kernel_rfl, fun w _ => by go_simp⟩) hS8 ?_
        refine takeH 33 (.bool false) (some 96) rfl rfl (by kernel_rfl) (by kernel_rfl) (by kernel_rfl) (fun _ _ _ h => h) (.inl ⟨by kernel_rfl, fun w _ => by go_simp⟩) hS8 ?_
        refine takeH 34 (.pointer (some ⟨w5.heap.size, 0, none⟩)) (some 97) rfl rfl (by kernel_rfl) (by kernel_rfl) (by kernel_rfl) (fun _ _ _ h => h) (.inl ⟨by kernel_rfl, fun w _ => by go_simp⟩) hS8 ?_
        refine takeH 35 (.int .u8 x) (some 98) rfl rfl (by kernel_rfl) (by kernel_rfl) (by kernel_rfl) (fun _ _ _ h => h) (.inl ⟨by kernel_rfl, fun w hw => by have hc := hq14 w hw; go_simp⟩) hS8 ?_
        refine takeH 36 (.pointer (some ⟨w1.heap.size + 1, 0, none⟩)) (some 99) rfl rfl (by kernel_rfl) (by kernel_rfl) (by kernel_rfl) (fun _ _ _ h => h) (.inl ⟨by kernel_rfl, fun w _ => by go_simp⟩) hS8 ?_
        refine takeH 37 (.int .u8 x) (some 100) rfl rfl (by kernel_rfl) (by kernel_rfl) (by kernel_rfl) (fun _ _ _ h => h) (.inl ⟨by kernel_rfl, fun w hw => by have hc := hq9 w hw; go_simp⟩) hS8 ?_
        refine takeH 38 (.bool false) (some 101) rfl rfl (by kernel_rfl) (by kernel_rfl) (by kernel_rfl) (fun _ _ _ h => h) (.inl ⟨by kernel_rfl, fun w _ => by go_simp⟩) hS8 ?_
        refine takeH 39 (.bool false) (some 102) rfl rfl (by kernel_rfl) (by kernel_rfl) (by kernel_rfl) (fun _ _ _ h => h) (.inl ⟨by kernel_rfl, fun w _ => by go_simp⟩) hS8 ?_
        refine takeH 40 (.bool false) (some 103) rfl rfl (by kernel_rfl) (by kernel_rfl) (by kernel_rfl) (fun _ _ _ h => h) (.inl ⟨by kernel_rfl, fun w _ => by go_simp⟩) hS8 ?_
        refine takeH 41 (.pointer (some ⟨w5.heap.size, 1, none⟩)) (some 104) rfl rfl (by kernel_rfl) (by kernel_rfl) (by kernel_rfl) (fun _ _ _ h => h) (.inl ⟨by kernel_rfl, fun w _ => by go_simp⟩) hS8 ?_
        refine takeH 42 (.slice adg n cg) (some 105) rfl rfl (by kernel_rfl) (by kernel_rfl) (by kernel_rfl) (fun _ _ _ h => h) (.inl ⟨by kernel_rfl, fun w hw => by have hc := hq14 w hw; go_simp⟩) hS8 ?_
        refine takeH 43 (.string sC) (some 106) rfl rfl (by kernel_rfl) (by kernel_rfl) (by kernel_rfl) (fun _ _ _ h => h) (yi_convert (by kernel_rfl) 43 9 (.tmp 105) rfl (.slice adg n cg) (.string sC) (by go_simp) hcv2) hS8 ?_
        refine takeH 44 (.pointer (some ⟨w1.heap.size + 1, 1, none⟩)) (some 107) rfl rfl (by kernel_rfl) (by kernel_rfl) (by kernel_rfl) (fun _ _ _ h => h) (.inl ⟨by kernel_rfl, fun w _ => by go_simp⟩) hS8 ?_
        refine takeH 45 (.slice (some ⟨w1.heap.size, 0, none⟩) n n) (some 108) rfl rfl (by kernel_rfl) (by kernel_rfl) (by kernel_rfl) (fun _ _ _ h => h) (.inl ⟨by kernel_rfl, fun w hw => by have hc := hq9 w hw; go_simp⟩) hS8 ?_
        refine takeH 46 (.string sC) (some 109) rfl rfl (by kernel_rfl) (by kernel_rfl) (by kernel_rfl) (fun _ _ _ h => h) (yi_convert (by kernel_rfl) 43 9 (.tmp 108) rfl (.slice (some ⟨w1.heap.size, 0, none⟩) n n) (.string sC) (by go_simp) hcv1) hS8 ?_
        refine takeH 47 (.bool false) (some 110) rfl rfl (by kernel_rfl) (by kernel_rfl) (by kernel_rfl) (fun _ _ _ h => h) (.inl ⟨by kernel_rfl, fun w _ => by go_simp⟩) hS8 ?_
        refine takeH 48 (.bool false) (some 111) rfl rfl (by kernel_rfl) (by kernel_rfl) (by kernel_rfl) (fun _ _ _ h => h) (.inl ⟨by kernel_rfl, fun w _ => by go_simp⟩) hS8 ?_
        refine takeH 49 (.bool false) (some 112) rfl rfl (by kernel_rfl) (by kernel_rfl) (by kernel_rfl) (fun _ _ _ h => h) (.inl ⟨by kernel_rfl, fun w _ => by go_simp⟩) hS8 ?_
        refine takeH 50 (.slice adf (n + 4) cf) (some 113) rfl rfl (by kernel_rfl) (by kernel_rfl) (by kernel_rfl) (fun _ _ _ h => h) (.inl ⟨by kernel_rfl, fun w _ => by go_simp⟩) hS8 ?_
        refine takeH 51 (.int .i64 ((n : Int) + 4)) (some 114) rfl rfl (by kernel_rfl) (by kernel_rfl) (by kernel_rfl) (fun _ _ _ h => h) (.inl ⟨by kernel_rfl, fun w _ => by go_simp⟩) hS8 ?_
        refine takeH 52 (.pointer (some ⟨w1.heap.size + 1, 1, none⟩)) (some 115) rfl rfl (by kernel_rfl) (by kernel_rfl) (by kernel_rfl) (fun _ _ _ h => h) (.inl ⟨by kernel_rfl, fun w _ => by go_simp⟩) hS8 ?_
        refine takeH 53 (.slice (some ⟨w1.heap.size, 0, none⟩) n n) (some 116) rfl rfl (by kernel_rfl) (by kernel_rfl) (by kernel_rfl) (fun _ _ _ h => h) (.inl ⟨by kernel_rfl, fun w hw => by have hc := hq9 w hw; go_simp⟩) hS8 ?_
        refine takeH 54 (.int .i64 n) (some 117) rfl rfl (by kernel_rfl) (by kernel_rfl) (by kernel_rfl) (fun _ _ _ h => h) (.inl ⟨by kernel_rfl, fun w _ => by go_simp⟩) hS8 ?_
        refine takeH 55 (.int .i64 ((n : Int) + 4)) (some 118) rfl rfl (by kernel_rfl) (by kernel_rfl) (by kernel_rfl) (fun _ _ _ h => h) (.inl ⟨by kernel_rfl, fun w _ => by go_simp⟩) hS8 ?_
        refine takeH 56 (.bool false) (some 119) rfl rfl (by kernel_rfl) (by kernel_rfl) (by kernel_rfl) (fun _ _ _ h => h) (.inl ⟨by kernel_rfl, fun w _ => by go_simp⟩) hS8 ?_
        refine takeH 57 (.bool false) (some 120) rfl rfl (by kernel_rfl) (by kernel_rfl) (by kernel_rfl) (fun _ _ _ h => h) (.inl ⟨by kernel_rfl, fun w _ => by go_simp⟩) hS8 ?_
        refine takeH 58 (.bool false) (some 121) rfl rfl (by kernel_rfl) (by kernel_rfl) (by kernel_rfl) (fun _ _ _ h => h) (.inl ⟨by kernel_rfl, fun w _ => by go_simp⟩) hS8 ?_
        refine takeH 59 (.bool false) (some 122) rfl rfl (by kernel_rfl) (by kernel_rfl) (by kernel_rfl) (fun _ _ _ h => h) (.inl ⟨by kernel_rfl, fun w _ => by go_simp⟩) hS8 ?_
        refine wpAnyH_done (by kernel_rfl) ?_ _
        go_simp
        have hB8 : Below W.heap.size W w8 := hBd.trans (hS8.mono hB6.size)
        clear hq9 hS7 hS8 hSd HO HO3 HC HC3
        cases right
        · go_wp2_with fail
          have hzb := HZ.out.keep hB8
          have hBb := hB8
          have hL3 : zs.length ≤ 3004 := by omega
          obtain ⟨ZS, hZS⟩ : ∃ Z, Z = zs := ⟨_, rfl⟩
          subst hZS
          obtain ⟨wb, hwb⟩ : ∃ wb, wb = w8 := ⟨_, rfl⟩
          subst hwb
          refine (opsLoad_any wb _ ZS hzb (by omega)).mono ?_
          rintro e w10 ⟨hb10, ⟨hF, adl, cl, rfl, hgl⟩ | ⟨hF, rfl⟩⟩
          · have hB10 := hBb.trans (hb10.mono hBb.size)
            have hzk := hzb.keep hb10
            obtain ⟨h4, f0, f1, f3, fp⟩ := hF
            obtain ⟨m, hm⟩ : ∃ m : Nat, ZS.length = m + 4 := ⟨ZS.length - 4, by omega⟩
            rw [show ZS.length - 4 = m by omega] at fp hgl ⊢
            rcases hzk.cases with ⟨h, _⟩ | ⟨_, gb, ob, cb', hv, _, _, hgb, hcb⟩
            · rw [h] at h4; simp at h4
            have hvk := hzk
            cases hv
            have k0 := hcb 0 (by omega)
            rw [Nat.add_zero] at k0
            have k1 := hcb 1 (by omega)
            have k2 := hcb 2 (by omega)
            have k3 := hcb 3 (by omega)
            rw [f0] at k0
            rw [f1] at k1
            rw [f3] at k3
            have hz2 : 0 ≤ ZS.getD 2 0 ∧ ZS.getD 2 0 ≤ 255 := by
              rw [List.getD_eq_getElem?_getD, List.getElem?_eq_getElem (by omega)]
              exact wf_u8 (hzb.wf _ (List.getElem_mem _))
            have hcat : 71 :: 88 :: ZS.getD 2 0 :: 0 :: ZS.drop 4 = ZS := by
              match ZS, hm, f0, f1, f3 with
              | a :: b :: c :: d :: r, _, f0, f1, f3 =>
                simp at f0 f1 f3
                subst f0; subst f1; subst f3
                rfl
              | [], h, _, _, _ => simp at h
              | [_], h, _, _, _ => simp at h
              | [_, _], h, _, _, _ => simp at h
              | [_, _, _], h, _, _, _ => simp at h
            have hdl : (ZS.drop 4).length = m := by simp [hm]
            clear hzk hcb f0 f1 f3
            rw [hm] at hvk ⊢
            have HV := Lib.hid hvk
            have HCat := Lib.hid hcat
            have HG := Lib.hid hgl
            clear hvk hcat hgl hzb
            have hm3 : (m : Int) ≤ 3004 := by omega
            have hm4 : (4 : Int) ≤ (m : Int) + 4 := by omega
            have hwm : IntKind.i64.wrap (m : Int) = (m : Int) := by rw [IntKind.wrap_i64]; omega
            have HM := Lib.hid hm
            have hfb2 : fitsB (ZS.getD 2 0) (m : Int) = true := by unfold fitsB; rw [decide_eq_true_iff]; exact fp
            clear hm h4
            generalize hy2 : ZS.getD 2 0 = y2 at *
            replace hy2 := Lib.hid hy2
            have hbA := bnew w10 (.cells #[.int .u8 y2, .slice adl m cl] 45)
            have hobA := heap_alloc_last w10 (.cells #[.int .u8 y2, .slice adl m cl] 45)
            go_wp2_with fail
            go_at_call 35; refine (refFits_any y2 hz2.1 hz2.2 m (by omega) _).mono ?_; rintro e w12 ⟨he, hb12⟩; subst he; rw [hfb2]
            have hbT := hbA.trans (hb12.mono hbA.size)
            have hB12 := hB10.trans (hbT.mono hB10.size)
            have oc12 := rowcell (bkeep hb12 hobA)
            have hG12 := HG.out.keep hbT
            have hV12 := Lib.hid (HV.out.keep hbT)
            go_wp2_with fail
            refine (opsFile_yes y2 hz2.1 hz2.2 (.slice adl m cl) (ZS.drop 4) _ hG12 (by rw [hdl]; exact fp)).mono ?_
            rintro e w13 ⟨u13, rfl, hu13, hb13⟩
            have hB13 := hB12.trans (hb13.mono hB12.size)
            have cvu : (convert 43 9 u13).run Try.prog w13 = .ok (.string (strOfNums ZS)) w13 := by
              have := hu13.toString (P := Try.prog) Try.underlying43 Try.underlying5 Try.underlying9
              rwa [HCat.out] at this
            have cvb := (hV12.out.keep hb13).toString (P := Try.prog) Try.underlying43 Try.underlying5 Try.underlying9
            clear hu13 hG12 oc12 hobA
            go_wp2_with fail
            go_ret
            exact ⟨rfl, hB13⟩
          · have hB10 := hBb.trans (hb10.mono hBb.size)
            have hzk := hzb.keep hb10
            by_cases h4 : 4 ≤ ZS.length
            · obtain ⟨m, hm⟩ : ∃ m : Nat, ZS.length = m + 4 := ⟨ZS.length - 4, by omega⟩
              rcases hzk.cases with ⟨h, _⟩ | ⟨_, gb, ob, cb', hv, _, _, hgb, hcb⟩
              · rw [h] at h4; simp at h4
              cases hv
              have k0 := hcb 0 (by omega)
              rw [Nat.add_zero] at k0
              have k1 := hcb 1 (by omega)
              have k2 := hcb 2 (by omega)
              have k3 := hcb 3 (by omega)
              have hz2 : 0 ≤ ZS.getD 2 0 ∧ ZS.getD 2 0 ≤ 255 := by
                rw [List.getD_eq_getElem?_getD, List.getElem?_eq_getElem (by omega)]
                exact wf_u8 (hzb.wf _ (List.getElem_mem _))
              have hF' : ZS.getD 0 0 = 71 → ZS.getD 1 0 = 88 → ZS.getD 3 0 = 0 → ¬ progFits (ZS.getD 2 0) (m : Int) := fun a b c d => hF ⟨h4, a, b, c, by rw [hm]; exact d⟩
              clear hF hzk hzb hcb
              rw [hm]
              have hm3 : (m : Int) ≤ 3004 := by omega
              have hm4 : ¬ ((m : Int) + 4 < 4) := by omega
              have hwm : IntKind.i64.wrap (m : Int) = (m : Int) := by rw [IntKind.wrap_i64]; omega
              have HM := Lib.hid hm
              clear hm h4
              generalize ZS.getD 0 0 = y0 at *
              generalize ZS.getD 1 0 = y1 at *
              generalize ZS.getD 2 0 = y2 at *
              generalize ZS.getD 3 0 = y3 at *
              by_cases g0 : y0 = 71
              · subst g0
                by_cases g1 : y1 = 88
                · subst g1
                  by_cases g3 : y3 = 0
                  · subst g3
                    have hfb2 : fitsB y2 (m : Int) = false := by unfold fitsB; rw [decide_eq_false_iff_not]; exact hF' rfl rfl rfl
                    clear hF'
                    have hobA := heap_alloc_last w10 (.cells #[.int .u8 0, .slice none 0 0] 45)
                    go_wp2_with fail
                    go_at_call 35; refine (refFits_any y2 hz2.1 hz2.2 m (by omega) _).mono ?_; rintro e w12 ⟨he, hb12⟩; subst he; rw [hfb2]
                    have oc12 := rowcell (bkeep hb12 hobA)
                    clear hobA
                    go_wp2_with fail
                    go_ret
                    exact ⟨rfl, (hB10.alloc hB10.size _).trans (hb12.mono (hB10.alloc hB10.size _).size)⟩
                  · clear hF'
                    have g3' : (y3 == 0) = false := by simp [g3]
                    go_wp2_with fail
                    go_ret
                    exact ⟨rfl, hB10.alloc hB10.size _⟩
                · clear hF'
                  have g1' : (y1 == 88) = false := by simp [g1]
                  go_wp2_with fail
                  go_ret
                  exact ⟨rfl, hB10.alloc hB10.size _⟩
              · clear hF'
                have g0' : (y0 == 71) = false := by simp [g0]
                go_wp2_with fail
                go_ret
                exact ⟨rfl, hB10.alloc hB10.size _⟩
            · have h4' : (ZS.length : Int) < 4 := by omega
              have h4'' : ¬ (4 : Int) ≤ (ZS.length : Int) := by omega
              clear hF hzk
              go_wp2_with fail
              go_ret
              exact ⟨rfl, hB10.alloc hB10.size _⟩
        · have hB8s := hB8.size
          have hz8 := HZ.out.keep hB8
          clear HZ
          have hL0 : (zs.length : Int) ≤ 3000 := hlen'
          go_wp2_with (first
            | (refine wpList_append_sr rfl (.tmp 126) (.tmp 127) 43 rfl (some 128) rfl w8.heap.size 5 (.int .u8 0) 1 1 Try.underlying43 u8_info rfl (by omega) (.slice (some ⟨w8.heap.size, 0, none⟩) 4 4) (.slice A zs.length cap) 4 zs.length
                [.int .u8 71, .int .u8 88, .int .u8 x, .int .u8 0] (zs.map (.int .u8)) rfl (World.ownsRow_lit w8 #[.int .u8 71, .int .u8 88, .int .u8 x, .int .u8 0] 4 (by omega) (by simp [maxLen]) rfl) rfl (hz8.sr.alloc _) (ints_one _ _) (by simp [maxLen]; omega) (by omega) (by simp) ?_
               intro u w2 hown hg hat
               obtain ⟨adz, cz, rfl, _, _⟩ := (SR.of_own hown).form))
          have hzb : SI w2 .u8 (.slice adz (4 + zs.length) cz) (71 :: 88 :: x :: 0 :: zs) := ⟨by
            have := SR.of_own hown
            rw [show (71 :: 88 :: x :: 0 :: zs).length = 4 + zs.length by simp; omega]
            exact this, by
            intro z hz
            simp only [List.mem_cons] at hz
            rcases hz with rfl | rfl | rfl | rfl | hz
            · exact u8_wf (by omega)
            · exact u8_wf (by omega)
            · exact u8_wf ⟨hx0, by omega⟩
            · exact u8_wf (by omega)
            · exact hz8.wf z hz⟩
          have hBb : Below W.heap.size W w2 := (hB8.alloc hB8s _).grown hg (by simp <;> omega) (fun k hk => by simp [Value.ownBlock] at hk; omega)
          obtain ⟨ZS, hZS⟩ : ∃ Z, Z = 71 :: 88 :: x :: 0 :: zs := ⟨_, rfl⟩
          have hZL : 4 + zs.length = ZS.length := by rw [hZS]; simp; omega
          rw [← hZS] at hzb
          rw [hZL] at hzb hown ⊢
          have hL3 : ZS.length ≤ 3004 := by omega
          clear hz8 hown hZS hat hg
          obtain ⟨wb, hwb⟩ : ∃ wb, wb = w2 := ⟨_, rfl⟩
          subst hwb
          refine (opsLoad_any wb _ ZS hzb (by omega)).mono ?_
          rintro e w10 ⟨hb10, ⟨hF, adl, cl, rfl, hgl⟩ | ⟨hF, rfl⟩⟩
          · have hB10 := hBb.trans (hb10.mono hBb.size)
            have hzk := hzb.keep hb10
            obtain ⟨h4, f0, f1, f3, fp⟩ := hF
            obtain ⟨m, hm⟩ : ∃ m : Nat, ZS.length = m + 4 := ⟨ZS.length - 4, by omega⟩
            rw [show ZS.length - 4 = m by omega] at fp hgl ⊢
            rcases hzk.cases with ⟨h, _⟩ | ⟨_, gb, ob, cb', hv, _, _, hgb, hcb⟩
            · rw [h] at h4; simp at h4
            have hvk := hzk
            cases hv
            have k0 := hcb 0 (by omega)
            rw [Nat.add_zero] at k0
            have k1 := hcb 1 (by omega)
            have k2 := hcb 2 (by omega)
            have k3 := hcb 3 (by omega)
            rw [f0] at k0
            rw [f1] at k1
            rw [f3] at k3
            have hz2 : 0 ≤ ZS.getD 2 0 ∧ ZS.getD 2 0 ≤ 255 := by
              rw [List.getD_eq_getElem?_getD, List.getElem?_eq_getElem (by omega)]
              exact wf_u8 (hzb.wf _ (List.getElem_mem _))
            have hcat : 71 :: 88 :: ZS.getD 2 0 :: 0 :: ZS.drop 4 = ZS := by
              match ZS, hm, f0, f1, f3 with
              | a :: b :: c :: d :: r, _, f0, f1, f3 =>
                simp at f0 f1 f3
                subst f0; subst f1; subst f3
                rfl
              | [], h, _, _, _ => simp at h
              | [_], h, _, _, _ => simp at h
              | [_, _], h, _, _, _ => simp at h
              | [_, _, _], h, _, _, _ => simp at h
            have hdl : (ZS.drop 4).length = m := by simp [hm]
            clear hzk hcb f0 f1 f3
            rw [hm] at hvk ⊢
            have HV := Lib.hid hvk
            have HCat := Lib.hid hcat
            have HG := Lib.hid hgl
            clear hvk hcat hgl hzb
            have hm3 : (m : Int) ≤ 3004 := by omega
            have hm4 : (4 : Int) ≤ (m : Int) + 4 := by omega
            have hwm : IntKind.i64.wrap (m : Int) = (m : Int) := by rw [IntKind.wrap_i64]; omega
            have HM := Lib.hid hm
            have hfb2 : fitsB (ZS.getD 2 0) (m : Int) = true := by unfold fitsB; rw [decide_eq_true_iff]; exact fp
            clear hm h4
            generalize hy2 : ZS.getD 2 0 = y2 at *
            replace hy2 := Lib.hid hy2
            have hbA := bnew w10 (.cells #[.int .u8 y2, .slice adl m cl] 45)
            have hobA := heap_alloc_last w10 (.cells #[.int .u8 y2, .slice adl m cl] 45)
            go_wp2_with fail
            go_at_call 35; refine (refFits_any y2 hz2.1 hz2.2 m (by omega) _).mono ?_; rintro e w12 ⟨he, hb12⟩; subst he; rw [hfb2]
            have hbT := hbA.trans (hb12.mono hbA.size)
            have hB12 := hB10.trans (hbT.mono hB10.size)
            have oc12 := rowcell (bkeep hb12 hobA)
            have hG12 := HG.out.keep hbT
            have hV12 := Lib.hid (HV.out.keep hbT)
            go_wp2_with fail
            refine (opsFile_yes y2 hz2.1 hz2.2 (.slice adl m cl) (ZS.drop 4) _ hG12 (by rw [hdl]; exact fp)).mono ?_
            rintro e w13 ⟨u13, rfl, hu13, hb13⟩
            have hB13 := hB12.trans (hb13.mono hB12.size)
            have cvu : (convert 43 9 u13).run Try.prog w13 = .ok (.string (strOfNums ZS)) w13 := by
              have := hu13.toString (P := Try.prog) Try.underlying43 Try.underlying5 Try.underlying9
              rwa [HCat.out] at this
            have cvb := (hV12.out.keep hb13).toString (P := Try.prog) Try.underlying43 Try.underlying5 Try.underlying9
            clear hu13 hG12 oc12 hobA
            go_wp2_with fail
            go_ret
            exact ⟨rfl, hB13⟩
          · have hB10 := hBb.trans (hb10.mono hBb.size)
            have hzk := hzb.keep hb10
            by_cases h4 : 4 ≤ ZS.length
            · obtain ⟨m, hm⟩ : ∃ m : Nat, ZS.length = m + 4 := ⟨ZS.length - 4, by omega⟩
              rcases hzk.cases with ⟨h, _⟩ | ⟨_, gb, ob, cb', hv, _, _, hgb, hcb⟩
              · rw [h] at h4; simp at h4
              cases hv
              have k0 := hcb 0 (by omega)
              rw [Nat.add_zero] at k0
              have k1 := hcb 1 (by omega)
              have k2 := hcb 2 (by omega)
              have k3 := hcb 3 (by omega)
              have hz2 : 0 ≤ ZS.getD 2 0 ∧ ZS.getD 2 0 ≤ 255 := by
                rw [List.getD_eq_getElem?_getD, List.getElem?_eq_getElem (by omega)]
                exact wf_u8 (hzb.wf _ (List.getElem_mem _))
              have hF' : ZS.getD 0 0 = 71 → ZS.getD 1 0 = 88 → ZS.getD 3 0 = 0 → ¬ progFits (ZS.getD 2 0) (m : Int) := fun a b c d => hF ⟨h4, a, b, c, by rw [hm]; exact d⟩
              clear hF hzk hzb hcb
              rw [hm]
              have hm3 : (m : Int) ≤ 3004 := by omega
              have hm4 : ¬ ((m : Int) + 4 < 4) := by omega
              have hwm : IntKind.i64.wrap (m : Int) = (m : Int) := by rw [IntKind.wrap_i64]; omega
              have HM := Lib.hid hm
              clear hm h4
              generalize ZS.getD 0 0 = y0 at *
              generalize ZS.getD 1 0 = y1 at *
              generalize ZS.getD 2 0 = y2 at *
              generalize ZS.getD 3 0 = y3 at *
              by_cases g0 : y0 = 71
              · subst g0
                by_cases g1 : y1 = 88
                · subst g1
                  by_cases g3 : y3 = 0
                  · subst g3
                    have hfb2 : fitsB y2 (m : Int) = false := by unfold fitsB; rw [decide_eq_false_iff_not]; exact hF' rfl rfl rfl
                    clear hF'
                    have hobA := heap_alloc_last w10 (.cells #[.int .u8 0, .slice none 0 0] 45)
                    go_wp2_with fail
                    go_at_call 35; refine (refFits_any y2 hz2.1 hz2.2 m (by omega) _).mono ?_; rintro e w12 ⟨he, hb12⟩; subst he; rw [hfb2]
                    have oc12 := rowcell (bkeep hb12 hobA)
                    clear hobA
                    go_wp2_with fail
                    go_ret
                    exact ⟨rfl, (hB10.alloc hB10.size _).trans (hb12.mono (hB10.alloc hB10.size _).size)⟩
                  · clear hF'
                    have g3' : (y3 == 0) = false := by simp [g3]
                    go_wp2_with fail
                    go_ret
                    exact ⟨rfl, hB10.alloc hB10.size _⟩
                · clear hF'
                  have g1' : (y1 == 88) = false := by simp [g1]
                  go_wp2_with fail
                  go_ret
                  exact ⟨rfl, hB10.alloc hB10.size _⟩
              · clear hF'
                have g0' : (y0 == 71) = false := by simp [g0]
                go_wp2_with fail
                go_ret
                exact ⟨rfl, hB10.alloc hB10.size _⟩
            · exact absurd h4 (by omega)
      · have hfb : fitsB x n = false := by unfold fitsB; rw [decide_eq_false_iff_not]; exact hfit
        rw [hfb]
        go_wp2_with fail
        refine (opsFile_no x hx0 (by omega) (some ⟨w1.heap.size, 0, none⟩) n n (by omega) hfit _).mono ?_
        rintro e w4 ⟨rfl, hb4⟩
        have hB4 := hB3.trans (hb4.mono hB3.size)
        have hob4 := bkeep hb4 HO3.out
        have hc4 := HC3.out.keep hb4
        go_wp2_with fail
        refine (opsLoad_any w4 (.slice none 0 0) [] (SI.nil _ _) (by simp)).mono ?_
        rintro e w5 ⟨hb5, ⟨h, _⟩ | ⟨_, rfl⟩⟩
        case inl => exact absurd h.1 (by simp)
        have hB5 := hB4.trans (hb5.mono hB4.size)
        have hob5 := bkeep hb5 hob4
        go_wp2_with fail
        have hB6 := hB5.alloc hB5.size (.cells #[.int .u8 0, .slice none 0 0] 45)
        have hob6 := bkeep (bnew w5 (.cells #[.int .u8 0, .slice none 0 0] 45)) hob5
        clear hob5 hob4 hc4 oc hc3
        generalize w5.alloc (.cells #[.int .u8 0, .slice none 0 0] 45) = w6 at *
        have hS6 := hB6.size
        have hSd : Below w6.heap.size w6.drew w6.drew := Below.refl _ _
        have hq9 : ∀ w', Below w6.heap.size w6.drew w' → ∀ o, w'.cell? ⟨w1.heap.size + 1, o, none⟩ = (#[.int .u8 x, .slice (some ⟨w1.heap.size, 0, none⟩) n n] : Array Value)[o]? := fun w' hb => rowcell (bkeep (w := w') (W := w6.drew) hb hob6)
        have hBd : Below W.heap.size W w6.drew := bdrewN hB6 1
        refine wp_region_held (S := fun w' => Below w6.heap.size w6.drew w') (by kernel_rfl) ?_
        change wpAnyH _ _ _ _ _ _ _ _ (World.drew _)
        refine takeH 0 (.int .i64 19) (some 63) rfl rfl (by kernel_rfl) (by kernel_rfl) (by kernel_rfl) (fun _ _ _ h => h) (.inl ⟨by kernel_rfl, fun w _ => by go_simp⟩) hSd ?_
        refine takeH 1 (.bool false) (some 64) rfl rfl (by kernel_rfl) (by kernel_rfl) (by kernel_rfl) (fun _ _ _ h => h) (.inl ⟨by kernel_rfl, fun w _ => by go_simp⟩) hSd ?_
        refine takeH 2 (.bool false) (some 65) rfl rfl (by kernel_rfl) (by kernel_rfl) (by kernel_rfl) (fun _ _ _ h => h) (.inl ⟨by kernel_rfl, fun w _ => by go_simp⟩) hSd ?_
        refine takeH 3 (.bool false) (some 66) rfl rfl (by kernel_rfl) (by kernel_rfl) (by kernel_rfl) (fun _ _ _ h => h) (.inl ⟨by kernel_rfl, fun w _ => by go_simp⟩) hSd ?_
        refine takeH 4 (.bool false) (some 67) rfl rfl (by kernel_rfl) (by kernel_rfl) (by kernel_rfl) (fun _ _ _ h => h) (.inl ⟨by kernel_rfl, fun w _ => by go_simp⟩) hSd ?_
        refine takeH 5 (.agg #[.int .u8 x, .slice (some ⟨w1.heap.size, 0, none⟩) n n]) (some 68) rfl rfl (by kernel_rfl) (by kernel_rfl) (by kernel_rfl) (fun _ _ _ h => h) (.inl ⟨by kernel_rfl, fun w hw => by have hc := hq9 w hw; go_simp⟩) hSd ?_
        refine takeH 7 (.pointer (some ⟨w1.heap.size + 1, 0, none⟩)) (some 70) rfl rfl (by kernel_rfl) (by kernel_rfl) (by kernel_rfl) (fun _ _ _ h => h) (.inl ⟨by kernel_rfl, fun w _ => by go_simp⟩) hSd ?_
        refine takeH 8 (.int .u8 x) (some 71) rfl rfl (by kernel_rfl) (by kernel_rfl) (by kernel_rfl) (fun _ _ _ h => h) (.inl ⟨by kernel_rfl, fun w hw => by have hc := hq9 w hw; go_simp⟩) hSd ?_
        refine takeH 9 (.int .i64 x) (some 72) rfl rfl (by kernel_rfl) (by kernel_rfl) (by kernel_rfl) (fun _ _ _ h => h) (.inl ⟨by kernel_rfl, fun w _ => by go_simp⟩) hSd ?_
        refine takeH 10 (.pointer (some ⟨w1.heap.size + 1, 1, none⟩)) (some 73) rfl rfl (by kernel_rfl) (by kernel_rfl) (by kernel_rfl) (fun _ _ _ h => h) (.inl ⟨by kernel_rfl, fun w _ => by go_simp⟩) hSd ?_
        refine takeH 11 (.slice (some ⟨w1.heap.size, 0, none⟩) n n) (some 74) rfl rfl (by kernel_rfl) (by kernel_rfl) (by kernel_rfl) (fun _ _ _ h => h) (.inl ⟨by kernel_rfl, fun w hw => by have hc := hq9 w hw; go_simp⟩) hSd ?_
        refine takeH 12 (.int .i64 n) (some 75) rfl rfl (by kernel_rfl) (by kernel_rfl) (by kernel_rfl) (fun _ _ _ h => h) (.inl ⟨by kernel_rfl, fun w _ => by go_simp⟩) hSd ?_
        refine callH 6 rfl (by kernel_rfl) (by kernel_rfl) (some 69) rfl 37 #[.agg #[.int .u8 x, .slice (some ⟨w1.heap.size, 0, none⟩) n n]] ?hrun ((opsPages_any x hx0 (by omega) (some ⟨w1.heap.size, 0, none⟩) n n (by omega) _).mono ?_)
        case hrun => go_simp
        rintro e w7 ⟨he, hb7⟩
        have hS7 : Below w6.heap.size w6.drew w7 := hSd.trans hb7
        refine ⟨_, he, hS7, ?_⟩
        refine callH 13 rfl (by kernel_rfl) (by kernel_rfl) (some 76) rfl 38 #[.int .i64 x, .int .i64 n] ?hrun ((refPages_any x hx0 (by omega) n (by omega) _).mono ?_)
        case hrun => go_simp
        rintro e w8 ⟨he, hb8⟩
        have hS8 : Below w6.heap.size w6.drew w8 := hS7.trans (hb8.mono hS7.size)
        refine ⟨_, he, hS8, ?_⟩
        refine takeH 14 (.bool false) (some 77) rfl rfl (by kernel_rfl) (by kernel_rfl) (by kernel_rfl) (fun _ _ _ h => h) (.inl ⟨by kernel_rfl, fun w _ => by go_simp⟩) hS8 ?_
        refine takeH 15 (.bool false) (some 78) rfl rfl (by kernel_rfl) (by kernel_rfl) (by kernel_rfl) (fun _ _ _ h => h) (.inl ⟨by kernel_rfl, fun w _ => by go_simp⟩) hS8 ?_
        refine takeH 16 (.bool false) (some 79) rfl rfl (by kernel_rfl) (by kernel_rfl) (by kernel_rfl) (fun _ _ _ h => h) (.inl ⟨by kernel_rfl, fun w _ => by go_simp⟩) hS8 ?_
        refine takeH 17 (.bool false) (some 80) rfl rfl (by kernel_rfl) (by kernel_rfl) (by kernel_rfl) (fun _ _ _ h => h) (.inl ⟨by kernel_rfl, fun w _ => by go_simp⟩) hS8 ?_
        refine takeH 18 (.bool true) (some 81) rfl rfl (by kernel_rfl) (by kernel_rfl) (by kernel_rfl) (fun _ _ _ h => h) (.inl ⟨by kernel_rfl, fun w _ => by go_simp⟩) hS8 ?_
        refine takeH 19 (.bool true) (some 82) rfl rfl (by kernel_rfl) (by kernel_rfl) (by kernel_rfl) (fun _ _ _ h => h) (.inl ⟨by kernel_rfl, fun w _ => by go_simp⟩) hS8 ?_
        refine takeH 20 (.int .i64 19) (some 83) rfl rfl (by kernel_rfl) (by kernel_rfl) (by kernel_rfl) (fun _ _ _ h => h) (.inl ⟨by kernel_rfl, fun w _ => by go_simp⟩) hS8 ?_
        refine takeH 21 (.bool false) (some 84) rfl rfl (by kernel_rfl) (by kernel_rfl) (by kernel_rfl) (fun _ _ _ h => h) (.inl ⟨by kernel_rfl, fun w _ => by go_simp⟩) hS8 ?_
        refine takeH 22 (.bool false) (some 85) rfl rfl (by kernel_rfl) (by kernel_rfl) (by kernel_rfl) (fun _ _ _ h => h) (.inl ⟨by kernel_rfl, fun w _ => by go_simp⟩) hS8 ?_
        refine takeH 23 (.int .i64 19) (some 86) rfl rfl (by kernel_rfl) (by kernel_rfl) (by kernel_rfl) (fun _ _ _ h => h) (.inl ⟨by kernel_rfl, fun w _ => by go_simp⟩) hS8 ?_
        refine takeH 24 (.bool false) (some 87) rfl rfl (by kernel_rfl) (by kernel_rfl) (by kernel_rfl) (fun _ _ _ h => h) (.inl ⟨by kernel_rfl, fun w _ => by go_simp⟩) hS8 ?_
        refine takeH 25 (.bool false) (some 88) rfl rfl (by kernel_rfl) (by kernel_rfl) (by kernel_rfl) (fun _ _ _ h => h) (.inl ⟨by kernel_rfl, fun w _ => by go_simp⟩) hS8 ?_
        refine takeH 26 (.bool false) (some 89) rfl rfl (by kernel_rfl) (by kernel_rfl) (by kernel_rfl) (fun _ _ _ h => h) (.inl ⟨by kernel_rfl, fun w _ => by go_simp⟩) hS8 ?_
        refine takeH 27 (.bool false) (some 90) rfl rfl (by kernel_rfl) (by kernel_rfl) (by kernel_rfl) (fun _ _ _ h => h) (.inl ⟨by kernel_rfl, fun w _ => by go_simp⟩) hS8 ?_
        refine takeH 28 (.bool false) (some 91) rfl rfl (by kernel_rfl) (by kernel_rfl) (by kernel_rfl) (fun _ _ _ h => h) (.inl ⟨by kernel_rfl, fun w _ => by go_simp⟩) hS8 ?_
        refine takeH 29 (.bool false) (some 92) rfl rfl (by kernel_rfl) (by kernel_rfl) (by kernel_rfl) (fun _ _ _ h => h) (.inl ⟨by kernel_rfl, fun w _ => by go_simp⟩) hS8 ?_
        refine takeH 30 (.bool false) (some 93) rfl rfl (by kernel_rfl) (by kernel_rfl) (by kernel_rfl) (fun _ _ _ h => h) (.inl ⟨by kernel_rfl, fun w _ => by go_simp⟩) hS8 ?_
        refine takeH 31 (undef) (some 94) rfl rfl (by kernel_rfl) (by kernel_rfl) (by kernel_rfl) (fun _ _ _ h => h) (.inr ⟨by kernel_rfl, rfl⟩) hS8 ?_
        refine takeH 32 (undef) (some 95) rfl rfl (by kernel_rfl) (by kernel_rfl) (by kernel_rfl) (fun _ _ _ h => h) (.inr ⟨by kernel_rfl, rfl⟩) hS8 ?_
        refine takeH 33 (undef) (some 96) rfl rfl (by kernel_rfl) (by kernel_rfl) (by kernel_rfl) (fun _ _ _ h => h) (.inr ⟨by kernel_rfl, rfl⟩) hS8 ?_
        refine takeH 34 (undef) (some 97) rfl rfl (by kernel_rfl) (by kernel_rfl) (by kernel_rfl) (fun _ _ _ h => h) (.inr ⟨by kernel_rfl, rfl⟩) hS8 ?_
        refine takeH 35 (undef) (some 98) rfl rfl (by kernel_rfl) (by kernel_rfl) (by kernel_rfl) (fun _ _ _ h => h) (.inr ⟨by kernel_rfl, rfl⟩) hS8 ?_
        refine takeH 36 (undef) (some 99) rfl rfl (by kernel_rfl) (by kernel_rfl) (by kernel_rfl) (fun _ _ _ h => h) (.inr ⟨by kernel_rfl, rfl⟩) hS8 ?_
        refine takeH 37 (undef) (some 100) rfl rfl (by kernel_rfl) (by kernel_rfl) (by kernel_rfl) (fun _ _ _ h => h) (.inr ⟨by kernel_rfl, rfl⟩) hS8 ?_
        refine takeH 38 (undef) (some 101) rfl rfl (by kernel_rfl) (by kernel_rfl) (by kernel_rfl) (fun _ _ _ h => h) (.inr ⟨by kernel_rfl, rfl⟩) hS8 ?_
        refine takeH 39 (undef) (some 102) rfl rfl (by kernel_rfl) (by kernel_rfl) (by kernel_rfl) (fun _ _ _ h => h) (.inr ⟨by kernel_rfl, rfl⟩) hS8 ?_
        refine takeH 40 (undef) (some 103) rfl rfl (by kernel_rfl) (by kernel_rfl) (by kernel_rfl) (fun _ _ _ h => h) (.inr ⟨by kernel_rfl, rfl⟩) hS8 ?_
        refine takeH 41 (undef) (some 104) rfl rfl (by kernel_rfl) (by kernel_rfl) (by kernel_rfl) (fun _ _ _ h => h) (.inr ⟨by kernel_rfl, rfl⟩) hS8 ?_
        refine takeH 42 (undef) (some 105) rfl rfl (by kernel_rfl) (by kernel_rfl) (by kernel_rfl) (fun _ _ _ h => h) (.inr ⟨by kernel_rfl, rfl⟩) hS8 ?_
        refine takeH 43 (undef) (some 106) rfl rfl (by kernel_rfl) (by kernel_rfl) (by kernel_rfl) (fun _ _ _ h => h) (.inr ⟨by kernel_rfl, rfl⟩) hS8 ?_
        refine takeH 44 (undef) (some 107) rfl rfl (by kernel_rfl) (by kernel_rfl) (by kernel_rfl) (fun _ _ _ h => h) (.inr ⟨by kernel_rfl, rfl⟩) hS8 ?_
        refine takeH 45 (undef) (some 108) rfl rfl (by kernel_rfl) (by kernel_rfl) (by kernel_rfl) (fun _ _ _ h => h) (.inr ⟨by kernel_rfl, rfl⟩) hS8 ?_
        refine takeH 46 (undef) (some 109) rfl rfl (by kernel_rfl) (by kernel_rfl) (by kernel_rfl) (fun _ _ _ h => h) (.inr ⟨by kernel_rfl, rfl⟩) hS8 ?_
        refine takeH 47 (undef) (some 110) rfl rfl (by kernel_rfl) (by kernel_rfl) (by kernel_rfl) (fun _ _ _ h => h) (.inr ⟨by kernel_rfl, rfl⟩) hS8 ?_
        refine takeH 48 (undef) (some 111) rfl rfl (by kernel_rfl) (by kernel_rfl) (by kernel_rfl) (fun _ _ _ h => h) (.inr ⟨by kernel_rfl, rfl⟩) hS8 ?_
        refine takeH 49 (undef) (some 112) rfl rfl (by kernel_rfl) (by kernel_rfl) (by kernel_rfl) (fun _ _ _ h => h) (.inr ⟨by kernel_rfl, rfl⟩) hS8 ?_
        refine takeH 50 (undef) (some 113) rfl rfl (by kernel_rfl) (by kernel_rfl) (by kernel_rfl) (fun _ _ _ h => h) (.inr ⟨by kernel_rfl, rfl⟩) hS8 ?_
        refine takeH 51 (undef) (some 114) rfl rfl (by kernel_rfl) (by kernel_rfl) (by kernel_rfl) (fun _ _ _ h => h) (.inr ⟨by kernel_rfl, rfl⟩) hS8 ?_
        refine takeH 52 (undef) (some 115) rfl rfl (by kernel_rfl) (by kernel_rfl) (by kernel_rfl) (fun _ _ _ h => h) (.inr ⟨by kernel_rfl, rfl⟩) hS8 ?_
        refine takeH 53 (undef) (some 116) rfl rfl (by kernel_rfl) (by kernel_rfl) (by kernel_rfl) (fun _ _ _ h => h) (.inr ⟨by kernel_rfl, rfl⟩) hS8 ?_
        refine takeH 54 (undef) (some 117) rfl rfl (by kernel_rfl) (by kernel_rfl) (by kernel_rfl) (fun _ _ _ h => h) (.inr ⟨by kernel_rfl, rfl⟩) hS8 ?_
        refine takeH 55 (undef) (some 118) rfl rfl (by kernel_rfl) (by kernel_rfl) (by kernel_rfl) (fun _ _ _ h => h) (.inr ⟨by kernel_rfl, rfl⟩) hS8 ?_
        refine takeH 56 (undef) (some 119) rfl rfl (by kernel_rfl) (by kernel_rfl) (by kernel_rfl) (fun _ _ _ h => h) (.inr ⟨by kernel_rfl, rfl⟩) hS8 ?_
        refine takeH 57 (undef) (some 120) rfl rfl (by kernel_rfl) (by kernel_rfl) (by kernel_rfl) (fun _ _ _ h => h) (.inr ⟨by kernel_rfl, rfl⟩) hS8 ?_
        refine takeH 58 (.bool false) (some 121) rfl rfl (by kernel_rfl) (by kernel_rfl) (by kernel_rfl) (fun _ _ _ h => h) (.inl ⟨by kernel_rfl, fun w _ => by go_simp⟩) hS8 ?_
        refine takeH 59 (.bool false) (some 122) rfl rfl (by kernel_rfl) (by kernel_rfl) (by kernel_rfl) (fun _ _ _ h => h) (.inl ⟨by kernel_rfl, fun w _ => by go_simp⟩) hS8 ?_
        refine wpAnyH_done (by kernel_rfl) ?_ _
        go_simp
        have hB8 : Below W.heap.size W w8 := hBd.trans (hS8.mono hB6.size)
        clear hq9 hS7 hS8 hSd HO HO3 HC HC3
        cases right
        · go_wp2_with fail
          have hzb := HZ.out.keep hB8
          have hBb := hB8
          have hL3 : zs.length ≤ 3004 := by omega
          obtain ⟨ZS, hZS⟩ : ∃ Z, Z = zs := ⟨_, rfl⟩
          subst hZS
          obtain ⟨wb, hwb⟩ : ∃ wb, wb = w8 := ⟨_, rfl⟩
          subst hwb
          refine (opsLoad_any wb _ ZS hzb (by omega)).mono ?_
          rintro e w10 ⟨hb10, ⟨hF, adl, cl, rfl, hgl⟩ | ⟨hF, rfl⟩⟩
          · have hB10 := hBb.trans (hb10.mono hBb.size)
            have hzk := hzb.keep hb10
            obtain ⟨h4, f0, f1, f3, fp⟩ := hF
            obtain ⟨m, hm⟩ : ∃ m : Nat, ZS.length = m + 4 := ⟨ZS.length - 4, by omega⟩
            rw [show ZS.length - 4 = m by omega] at fp hgl ⊢
            rcases hzk.cases with ⟨h, _⟩ | ⟨_, gb, ob, cb', hv, _, _, hgb, hcb⟩
            · rw [h] at h4; simp at h4
            have hvk := hzk
            cases hv
            have k0 := hcb 0 (by omega)
            rw [Nat.add_zero] at k0
            have k1 := hcb 1 (by omega)
            have k2 := hcb 2 (by omega)
            have k3 := hcb 3 (by omega)
            rw [f0] at k0
            rw [f1] at k1
            rw [f3] at k3
            have hz2 : 0 ≤ ZS.getD 2 0 ∧ ZS.getD 2 0 ≤ 255 := by
              rw [List.getD_eq_getElem?_getD, List.getElem?_eq_getElem (by omega)]
              exact wf_u8 (hzb.wf _ (List.getElem_mem _))
            have hcat : 71 :: 88 :: ZS.getD 2 0 :: 0 :: ZS.drop 4 = ZS := by
              match ZS, hm, f0, f1, f3 with
              | a :: b :: c :: d :: r, _, f0, f1, f3 =>
                simp at f0 f1 f3
                subst f0; subst f1; subst f3
                rfl
              | [], h, _, _, _ => simp at h
              | [_], h, _, _, _ => simp at h
              | [_, _], h, _, _, _ => simp at h
              | [_, _, _], h, _, _, _ => simp at h
            have hdl : (ZS.drop 4).length = m := by simp [hm]
            clear hzk hcb f0 f1 f3
            rw [hm] at hvk ⊢
            have HV := Lib.hid hvk
            have HCat := Lib.hid hcat
            have HG := Lib.hid hgl
            clear hvk hcat hgl hzb
            have hm3 : (m : Int) ≤ 3004 := by omega
            have hm4 : (4 : Int) ≤ (m : Int) + 4 := by omega
            have hwm : IntKind.i64.wrap (m : Int) = (m : Int) := by rw [IntKind.wrap_i64]; omega
            have HM := Lib.hid hm
            have hfb2 : fitsB (ZS.getD 2 0) (m : Int) = true := by unfold fitsB; rw [decide_eq_true_iff]; exact fp
            clear hm h4
            generalize hy2 : ZS.getD 2 0 = y2 at *
            replace hy2 := Lib.hid hy2
            have hbA := bnew w10 (.cells #[.int .u8 y2, .slice adl m cl] 45)
            have hobA := heap_alloc_last w10 (.cells #[.int .u8 y2, .slice adl m cl] 45)
            go_wp2_with fail
            go_at_call 35; refine (refFits_any y2 hz2.1 hz2.2 m (by omega) _).mono ?_; rintro e w12 ⟨he, hb12⟩; subst he; rw [hfb2]
            have hbT := hbA.trans (hb12.mono hbA.size)
            have hB12 := hB10.trans (hbT.mono hB10.size)
            have oc12 := rowcell (bkeep hb12 hobA)
            have hG12 := HG.out.keep hbT
            have hV12 := Lib.hid (HV.out.keep hbT)
            go_wp2_with fail
            refine (opsFile_yes y2 hz2.1 hz2.2 (.slice adl m cl) (ZS.drop 4) _ hG12 (by rw [hdl]; exact fp)).mono ?_
            rintro e w13 ⟨u13, rfl, hu13, hb13⟩
            have hB13 := hB12.trans (hb13.mono hB12.size)
            have cvu : (convert 43 9 u13).run Try.prog w13 = .ok (.string (strOfNums ZS)) w13 := by
              have := hu13.toString (P := Try.prog) Try.underlying43 Try.underlying5 Try.underlying9
              rwa [HCat.out] at this
            have cvb := (hV12.out.keep hb13).toString (P := Try.prog) Try.underlying43 Try.underlying5 Try.underlying9
            clear hu13 hG12 oc12 hobA
            go_wp2_with fail
            go_ret
            exact ⟨rfl, hB13⟩
          · have hB10 := hBb.trans (hb10.mono hBb.size)
            have hzk := hzb.keep hb10
            by_cases h4 : 4 ≤ ZS.length
            · obtain ⟨m, hm⟩ : ∃ m : Nat, ZS.length = m + 4 := ⟨ZS.length - 4, by omega⟩
              rcases hzk.cases with ⟨h, _⟩ | ⟨_, gb, ob, cb', hv, _, _, hgb, hcb⟩
              · rw [h] at h4; simp at h4
              cases hv
              have k0 := hcb 0 (by omega)
              rw [Nat.add_zero] at k0
              have k1 := hcb 1 (by omega)
              have k2 := hcb 2 (by omega)
              have k3 := hcb 3 (by omega)
              have hz2 : 0 ≤ ZS.getD 2 0 ∧ ZS.getD 2 0 ≤ 255 := by
                rw [List.getD_eq_getElem?_getD, List.getElem?_eq_getElem (by omega)]
                exact wf_u8 (hzb.wf _ (List.getElem_mem _))
              have hF' : ZS.getD 0 0 = 71 → ZS.getD 1 0 = 88 → ZS.getD 3 0 = 0 → ¬ progFits (ZS.getD 2 0) (m : Int) := fun a b c d => hF ⟨h4, a, b, c, by rw [hm]; exact d⟩
              clear hF hzk hzb hcb
              rw [hm]
              have hm3 : (m : Int) ≤ 3004 := by omega
              have hm4 : ¬ ((m : Int) + 4 < 4) := by omega
              have hwm : IntKind.i64.wrap (m : Int) = (m : Int) := by rw [IntKind.wrap_i64]; omega
              have HM := Lib.hid hm
              clear hm h4
              generalize ZS.getD 0 0 = y0 at *
              generalize ZS.getD 1 0 = y1 at *
              generalize ZS.getD 2 0 = y2 at *
              generalize ZS.getD 3 0 = y3 at *
              by_cases g0 : y0 = 71
              · subst g0
                by_cases g1 : y1 = 88
                · subst g1
                  by_cases g3 : y3 = 0
                  · subst g3
                    have hfb2 : fitsB y2 (m : Int) = false := by unfold fitsB; rw [decide_eq_false_iff_not]; exact hF' rfl rfl rfl
                    clear hF'
                    have hobA := heap_alloc_last w10 (.cells #[.int .u8 0, .slice none 0 0] 45)
                    go_wp2_with fail
                    go_at_call 35; refine (refFits_any y2 hz2.1 hz2.2 m (by omega) _).mono ?_; rintro e w12 ⟨he, hb12⟩; subst he; rw [hfb2]
                    have oc12 := rowcell (bkeep hb12 hobA)
                    clear hobA
                    go_wp2_with fail
                    go_ret
                    exact ⟨rfl, (hB10.alloc hB10.size _).trans (hb12.mono (hB10.alloc hB10.size _).size)⟩
                  · clear hF'
                    have g3' : (y3 == 0) = false := by simp [g3]
                    go_wp2_with fail
                    go_ret
                    exact ⟨rfl, hB10.alloc hB10.size _⟩
                · clear hF'
                  have g1' : (y1 == 88) = false := by simp [g1]
                  go_wp2_with fail
                  go_ret
                  exact ⟨rfl, hB10.alloc hB10.size _⟩
              · clear hF'
                have g0' : (y0 == 71) = false := by simp [g0]
                go_wp2_with fail
                go_ret
                exact ⟨rfl, hB10.alloc hB10.size _⟩
            · have h4' : (ZS.length : Int) < 4 := by omega
              have h4'' : ¬ (4 : Int) ≤ (ZS.length : Int) := by omega
              clear hF hzk
              go_wp2_with fail
              go_ret
              exact ⟨rfl, hB10.alloc hB10.size _⟩
        · have hB8s := hB8.size
          have hz8 := HZ.out.keep hB8
          clear HZ
          have hL0 : (zs.length : Int) ≤ 3000 := hlen'
          go_wp2_with (first
            | (refine wpList_append_sr rfl (.tmp 126) (.tmp 127) 43 rfl (some 128) rfl w8.heap.size 5 (.int .u8 0) 1 1 Try.underlying43 u8_info rfl (by omega) (.slice (some ⟨w8.heap.size, 0, none⟩) 4 4) (.slice A zs.length cap) 4 zs.length
                [.int .u8 71, .int .u8 88, .int .u8 x, .int .u8 0] (zs.map (.int .u8)) rfl (World.ownsRow_lit w8 #[.int .u8 71, .int .u8 88, .int .u8 x, .int .u8 0] 4 (by omega) (by simp [maxLen]) rfl) rfl (hz8.sr.alloc _) (ints_one _ _) (by simp [maxLen]; omega) (by omega) (by simp) ?_
               intro u w2 hown hg hat
               obtain ⟨adz, cz, rfl, _, _⟩ := (SR.of_own hown).form))
          have hzb : SI w2 .u8 (.slice adz (4 + zs.length) cz) (71 :: 88 :: x :: 0 :: zs) := ⟨by
            have := SR.of_own hown
            rw [show (71 :: 88 :: x :: 0 :: zs).length = 4 + zs.length by simp; omega]
            exact this, by
            intro z hz
            simp only [List.mem_cons] at hz
            rcases hz with rfl | rfl | rfl | rfl | hz
            · exact u8_wf (by omega)
            · exact u8_wf (by omega)
            · exact u8_wf ⟨hx0, by omega⟩
            · exact u8_wf (by omega)
            · exact hz8.wf z hz⟩
          have hBb : Below W.heap.size W w2 := (hB8.alloc hB8s _).grown hg (by simp <;> omega) (fun k hk => by simp [Value.ownBlock] at hk; omega)
          obtain ⟨ZS, hZS⟩ : ∃ Z, Z = 71 :: 88 :: x :: 0 :: zs := ⟨_, rfl⟩
          have hZL : 4 + zs.length = ZS.length := by rw [hZS]; simp; omega
          rw [← hZS] at hzb
          rw [hZL] at hzb hown ⊢
          have hL3 : ZS.length ≤ 3004 := by omega
          clear hz8 hown hZS hat hg
          obtain ⟨wb, hwb⟩ : ∃ wb, wb = w2 := ⟨_, rfl⟩
          subst hwb
          refine (opsLoad_any wb _ ZS hzb (by omega)).mono ?_
          rintro e w10 ⟨hb10, ⟨hF, adl, cl, rfl, hgl⟩ | ⟨hF, rfl⟩⟩
          · have hB10 := hBb.trans (hb10.mono hBb.size)
            have hzk := hzb.keep hb10
            obtain ⟨h4, f0, f1, f3, fp⟩ := hF
            obtain ⟨m, hm⟩ : ∃ m : Nat, ZS.length = m + 4 := ⟨ZS.length - 4, by omega⟩
            rw [show ZS.length - 4 = m by omega] at fp hgl ⊢
            rcases hzk.cases with ⟨h, _⟩ | ⟨_, gb, ob, cb', hv, _, _, hgb, hcb⟩
            · rw [h] at h4; simp at h4
            have hvk := hzk
            cases hv
            have k0 := hcb 0 (by omega)
            rw [Nat.add_zero] at k0
            have k1 := hcb 1 (by omega)
            have k2 := hcb 2 (by omega)
            have k3 := hcb 3 (by omega)
            rw [f0] at k0
            rw [f1] at k1
            rw [f3] at k3
            have hz2 : 0 ≤ ZS.getD 2 0 ∧ ZS.getD 2 0 ≤ 255 := by
              rw [List.getD_eq_getElem?_getD, List.getElem?_eq_getElem (by omega)]
              exact wf_u8 (hzb.wf _ (List.getElem_mem _))
            have hcat : 71 :: 88 :: ZS.getD 2 0 :: 0 :: ZS.drop 4 = ZS := by
              match ZS, hm, f0, f1, f3 with
              | a :: b :: c :: d :: r, _, f0, f1, f3 =>
                simp at f0 f1 f3
                subst f0; subst f1; subst f3
                rfl
              | [], h, _, _, _ => simp at h
              | [_], h, _, _, _ => simp at h
              | [_, _], h, _, _, _ => simp at h
              | [_, _, _], h, _, _, _ => simp at h
            have hdl : (ZS.drop 4).length = m := by simp [hm]
            clear hzk hcb f0 f1 f3
            rw [hm] at hvk ⊢
            have HV := Lib.hid hvk
            have HCat := Lib.hid hcat
            have HG := Lib.hid hgl
            clear hvk hcat hgl hzb
            have hm3 : (m : Int) ≤ 3004 := by omega
            have hm4 : (4 : Int) ≤ (m : Int) + 4 := by omega
            have hwm : IntKind.i64.wrap (m : Int) = (m : Int) := by rw [IntKind.wrap_i64]; omega
            have HM := Lib.hid hm
            have hfb2 : fitsB (ZS.getD 2 0) (m : Int) = true := by unfold fitsB; rw [decide_eq_true_iff]; exact fp
            clear hm h4
            generalize hy2 : ZS.getD 2 0 = y2 at *
            replace hy2 := Lib.hid hy2
            have hbA := bnew w10 (.cells #[.int .u8 y2, .slice adl m cl] 45)
            have hobA := heap_alloc_last w10 (.cells #[.int .u8 y2, .slice adl m cl] 45)
            go_wp2_with fail
            go_at_call 35; refine (refFits_any y2 hz2.1 hz2.2 m (by omega) _).mono ?_; rintro e w12 ⟨he, hb12⟩; subst he; rw [hfb2]
            have hbT := hbA.trans (hb12.mono hbA.size)
            have hB12 := hB10.trans (hbT.mono hB10.size)
            have oc12 := rowcell (bkeep hb12 hobA)
            have hG12 := HG.out.keep hbT
            have hV12 := Lib.hid (HV.out.keep hbT)
            go_wp2_with fail
            refine (opsFile_yes y2 hz2.1 hz2.2 (.slice adl m cl) (ZS.drop 4) _ hG12 (by rw [hdl]; exact fp)).mono ?_
            rintro e w13 ⟨u13, rfl, hu13, hb13⟩
            have hB13 := hB12.trans (hb13.mono hB12.size)
            have cvu : (convert 43 9 u13).run Try.prog w13 = .ok (.string (strOfNums ZS)) w13 := by
              have := hu13.toString (P := Try.prog) Try.underlying43 Try.underlying5 Try.underlying9
              rwa [HCat.out] at this
            have cvb := (hV12.out.keep hb13).toString (P := Try.prog) Try.underlying43 Try.underlying5 Try.underlying9
            clear hu13 hG12 oc12 hobA
            go_wp2_with fail
            go_ret
            exact ⟨rfl, hB13⟩
          · have hB10 := hBb.trans (hb10.mono hBb.size)
            have hzk := hzb.keep hb10
            by_cases h4 : 4 ≤ ZS.length
            · obtain ⟨m, hm⟩ : ∃ m : Nat, ZS.length = m + 4 := ⟨ZS.length - 4, by omega⟩
              rcases hzk.cases with ⟨h, _⟩ | ⟨_, gb, ob, cb', hv, _, _, hgb, hcb⟩
              · rw [h] at h4; simp at h4
              cases hv
              have k0 := hcb 0 (by omega)
              rw [Nat.add_zero] at k0
              have k1 := hcb 1 (by omega)
              have k2 := hcb 2 (by omega)
              have k3 := hcb 3 (by omega)
              have hz2 : 0 ≤ ZS.getD 2 0 ∧ ZS.getD 2 0 ≤ 255 := by
                rw [List.getD_eq_getElem?_getD, List.getElem?_eq_getElem (by omega)]
                exact wf_u8 (hzb.wf _ (List.getElem_mem _))
              have hF' : ZS.getD 0 0 = 71 → ZS.getD 1 0 = 88 → ZS.getD 3 0 = 0 → ¬ progFits (ZS.getD 2 0) (m : Int) := fun a b c d => hF ⟨h4, a, b, c, by rw [hm]; exact d⟩
              clear hF hzk hzb hcb
              rw [hm]
              have hm3 : (m : Int) ≤ 3004 := by omega
              have hm4 : ¬ ((m : Int) + 4 < 4) := by omega
              have hwm : IntKind.i64.wrap (m : Int) = (m : Int) := by rw [IntKind.wrap_i64]; omega
              have HM := Lib.hid hm
              clear hm h4
              generalize ZS.getD 0 0 = y0 at *
              generalize ZS.getD 1 0 = y1 at *
              generalize ZS.getD 2 0 = y2 at *
              generalize ZS.getD 3 0 = y3 at *
              by_cases g0 : y0 = 71
              · subst g0
                by_cases g1 : y1 = 88
                · subst g1
                  by_cases g3 : y3 = 0
                  · subst g3
                    have hfb2 : fitsB y2 (m : Int) = false := by unfold fitsB; rw [decide_eq_false_iff_not]; exact hF' rfl rfl rfl
                    clear hF'
                    have hobA := heap_alloc_last w10 (.cells #[.int .u8 0, .slice none 0 0] 45)
                    go_wp2_with fail
                    go_at_call 35; refine (refFits_any y2 hz2.1 hz2.2 m (by omega) _).mono ?_; rintro e w12 ⟨he, hb12⟩; subst he; rw [hfb2]
                    have oc12 := rowcell (bkeep hb12 hobA)
                    clear hobA
                    go_wp2_with fail
                    go_ret
                    exact ⟨rfl, (hB10.alloc hB10.size _).trans (hb12.mono (hB10.alloc hB10.size _).size)⟩
                  · clear hF'
                    have g3' : (y3 == 0) = false := by simp [g3]
                    go_wp2_with fail
                    go_ret
                    exact ⟨rfl, hB10.alloc hB10.size _⟩
                · clear hF'
                  have g1' : (y1 == 88) = false := by simp [g1]
                  go_wp2_with fail
                  go_ret
                  exact ⟨rfl, hB10.alloc hB10.size _⟩
              · clear hF'
                have g0' : (y0 == 71) = false := by simp [g0]
                go_wp2_with fail
                go_ret
                exact ⟨rfl, hB10.alloc hB10.size _⟩
            · exact absurd h4 (by omega)
end Go.Proofs.Ytbdcbkmacpameaa
