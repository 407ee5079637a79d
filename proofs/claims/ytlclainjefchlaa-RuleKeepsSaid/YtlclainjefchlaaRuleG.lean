/- The law RuleFlows: its walk. -/
import Derived.Test.YtlclainjefchlaaRuleF
import Derived.Deep.CutBlock
set_option linter.unusedVariables false
set_option linter.unusedSimpArgs false
namespace Go.Proofs.Ytlclainjefchlaa
open Go.RowKit

theorem leqI_refl {rs : List RegL} {i : Nat} (h : i < rs.length) : leqI rs (i : Int) (i : Int) = true := by rw [leqI_nat h h]; exact leqL_refl _
theorem leqL_trans {a b c : Nat × Nat} (h1 : leqL a b = true) (h2 : leqL b c = true) : leqL a c = true := by
  simp only [leqL, Bool.and_eq_true, decide_eq_true_eq, subC_iff] at h1 h2 ⊢
  exact ⟨Nat.le_trans h1.1 h2.1, fun j hj h => h2.2 j hj (h1.2 j hj h)⟩
theorem leqI_trans {rs : List RegL} {i j k : Nat} (hi : i < rs.length) (hj : j < rs.length) (hk : k < rs.length) (h1 : leqI rs (i : Int) (j : Int) = true) (h2 : leqI rs (j : Int) (k : Int) = true) : leqI rs (i : Int) (k : Int) = true := by
  rw [leqI_nat hi hj] at h1
  rw [leqI_nat hj hk] at h2
  rw [leqI_nat hi hk]
  exact leqL_trans h1 h2
/-- What is known, as a row. -/
def boolsA (n : Nat) (K : Nat → Bool) : Array Value := rowArr n (fun j => .bool (K j))
def setK (K : Nat → Bool) (a : Nat) (b : Bool) : Nat → Bool := fun j => if j = a then b else K j
theorem boolsA_set (n : Nat) (K : Nat → Bool) (a : Nat) (b : Bool) (h : a < n) : (boolsA n K).setIfInBounds a (.bool b) = boolsA n (setK K a b) := by
  apply Array.ext
  · simp [boolsA, rowArr]
  · intro i h1 h2
    simp only [boolsA, rowArr, setK]
    by_cases hi : i = a
    · subst hi; simp
    · simp [Array.getElem_setIfInBounds, hi, Ne.symm hi]
theorem boolsA_get (n : Nat) (K : Nat → Bool) (a : Nat) (h : a < n) : (boolsA n K)[a]? = some (.bool (K a)) := by simp [boolsA, rowArr, h]
theorem boolsA_size (n : Nat) (K : Nat → Bool) : (boolsA n K).size = n := by simp [boolsA, rowArr]
def flowOk (rs : List RegL) (f : Nat) (K : Nat → Bool) : Prop := ∀ j, j < rs.length → K j = true → leqI rs (f : Int) (j : Int) = true
theorem flow_set {rs : List RegL} {f : Nat} {K : Nat → Bool} (h : flowOk rs f K) (hf : f < rs.length) {a o : Nat} (ha : a < rs.length) (ho : o < rs.length) (hl : leqI rs (o : Int) (a : Int) = true) : flowOk rs f (setK K a (K a || K o)) := by
  intro j hj hk
  unfold setK at hk
  by_cases hja : j = a
  · rw [if_pos hja] at hk
    subst hja
    rw [Bool.or_eq_true] at hk
    rcases hk with hk | hk
    · exact h j hj hk
    · exact leqI_trans hf ho hj (h o ho hk) hl
  · rw [if_neg hja] at hk
    exact h j hj hk
theorem flow_first {rs : List RegL} {a : Nat} (ha : a < rs.length) {K : Nat → Bool} (hK : ∀ j, K j = false) : flowOk rs a (setK K a true) := by
  intro j hj hk
  unfold setK at hk
  by_cases hja : j = a
  · subst hja; exact leqI_refl hj
  · rw [if_neg hja, hK j] at hk; cases hk
theorem judge_zero {rs : List RegL} {a o : Nat} {c x : Int} (hx0 : 0 ≤ x) (hx1 : x < 7) (ha : a < rs.length) (ho : o < rs.length) (h : judgeI rs (a : Int) c (o : Int) false x = 0) :
    (x = 0 ∨ x = 1 → leqI rs (o : Int) (a : Int) = true) ∧ (¬ (x = 0 ∨ x = 1) → leqI rs (a : Int) (o : Int) = true) := by
  unfold judgeI at h
  rw [if_pos ⟨inB_nat ha, inB_nat ho, hx0, hx1⟩] at h
  have hk : okAct rs (a : Int) c (o : Int) false x = true := by
    cases hok : okAct rs (a : Int) c (o : Int) false x with
    | false => rw [hok] at h; simp at h
    | true => rfl
  unfold okAct at hk
  have hx : x = 0 ∨ x = 1 ∨ x = 2 ∨ x = 3 ∨ x = 4 ∨ x = 5 ∨ x = 6 := by omega
  rcases hx with rfl | rfl | rfl | rfl | rfl | rfl | rfl
  · exact ⟨fun _ => by simpa using hk, fun h => by omega⟩
  · refine ⟨fun _ => ?_, fun h => by omega⟩
    have : a = o := by have h2 : ((a : Int) = (o : Int)) := by simpa using hk
                       exact Int.ofNat_inj.1 h2
    subst this; exact leqI_refl ha
  · refine ⟨fun h => by omega, fun _ => ?_⟩
    have : a = o := by have h2 : ((a : Int) = (o : Int)) := by simpa using hk
                       exact Int.ofNat_inj.1 h2
    subst this; exact leqI_refl ha
  · exact ⟨fun h => by omega, fun _ => by simpa using hk⟩
  · exact ⟨fun h => by omega, fun _ => by simpa using hk⟩
  · refine ⟨fun h => by omega, fun _ => ?_⟩
    simp at hk
    exact hk.1
  · simp at hk

set_option maxRecDepth 200000 in
set_option maxHeartbeats 16000000 in
theorem ruleFlows_walk (W : World) (v0 v1 : Value) (o0 : Arg Try.prog W 26 v0) (o1 : Arg Try.prog W 47 v1) :
    Calls Try.prog 4 #[v0, v1] W fun e w' => e = .returned (.bool true) ∧ Below W.heap.size W w' := by
  obtain ⟨sz, X, tv, rfl, hX, hrest⟩ := SizeV.of_arg o0
  have HV := Lib.hid (show SizeV W (.agg X) sz from ⟨X, tv, rfl, hX, hrest⟩)
  clear hrest
  obtain ⟨zs, hz⟩ := SI.of_arg (k := .u16) Try.underlying47 Try.underlying30 (by kernel_rfl) o1
  obtain ⟨Az, capz, rfl, hz1, hz2⟩ := hz.sr.form
  have HZ := Lib.hid hz
  clear o0 o1 hz
  have HXS := Lib.hid (sizeCells hX)
  clear hX
  have HX := Lib.hid (heap_alloc_last W (.cells X 26))
  have HB := Lib.hid (bnew W (.cells X 26))
  go_enter Try.func4, Try.ntmps4
  go_wp2_with fail
  generalize W.alloc (.cells X 26) = w0 at *
  refine (ruleAwake_in _).mono ?_; rintro e w1 ⟨rfl, hb1⟩
  have HX1 := Lib.hid (bkeep hb1 HX.out)
  have HB1 := Lib.hid (bnext HB.out hb1)
  have HPX := Lib.hid (cellsPiece HX1.out)
  clear hb1 HX HB
  go_wp2_with (refine wpList_load_pieceTo rfl 26 (.tmp 2) rfl (some 17) rfl W.heap.size 0 rfl X _ HPX.out Try.underlying26 rfl HXS.out ?_)
  refine (sizeConf_in _ _ sz (HV.out.keep HB1.out)).mono ?_; rintro e w3 ⟨hb3, g, gT, gN, gL, v', m', u', rfl, hcf⟩
  have HP3 := Lib.hid (hcf.toP (size_le _) (size_oks _))
  have HB3 := Lib.hid (bnext HB1.out hb3)
  clear hcf hb3 HPX HX1 HB1 HV HXS
  obtain ⟨rs, hrs⟩ : ∃ rs, rs = sizeRegs sz := ⟨_, rfl⟩
  have hk2 : 2 ≤ rs.length := by have := manyOf_le sz; rw [hrs, sizeRegs_length]; omega
  have hk5 : rs.length ≤ 5 := by have := manyOf_le sz; rw [hrs, sizeRegs_length]; omega
  rw [← hrs] at HP3
  clear hrs
  go_wp2_with fail
  refine (ruleNew_in _ _).mono ?_; rintro e w4 ⟨rfl, hb4⟩
  have hm := heap_alloc_last w4 (.cells #[.pointer (some ⟨g, 0, none⟩)] 38)
  have hb5 := bnewAfter hb4 (.cells #[.pointer (some ⟨g, 0, none⟩)] 38)
  have HM := Lib.hid hm
  have HB := Lib.hid (bnext HB3.out hb5)
  have HP := Lib.hid (HP3.out.keep hb5)
  clear hm hb4 hb5 HB3 HP3
  go_wp2_with fail
  generalize w4.alloc (.cells #[.pointer (some ⟨g, 0, none⟩)] 38) = w5 at *
  refine (HP.out.len _ (Below.refl _ _)).mono ?_; rintro e w6 ⟨rfl, rfl⟩
  have hmk := fun w => run_make_row' (P := Try.prog) 49 4 (.bool false) 1 Try.underlying49 (by kernel_rfl) rfl .i64 .i64 rs.length (by omega) (by omega) w
  go_upto_block 0 with fail
  clear hmk
  have hkn : (w5.alloc (.cells (madeCells #[.bool false] rs.length) 4)).heap[w5.heap.size]? = some (.cells (boolsA rs.length (fun _ => false)) 4 (0, 0)) := rowIs_arr (World.rowIs_made w5 (.bool false) rs.length 4)
  have hb7 := bnew w5 (.cells (madeCells #[.bool false] rs.length) 4)
  have HB7 := Lib.hid hb7
  have HKN := Lib.hid hkn
  clear hb7 hkn
  generalize w5.alloc (.cells (madeCells #[.bool false] rs.length) 4) = w7 at *
  go_cut [8] (fun u8 wx => ∃ (f : Nat) (K : Nat → Bool), u8 = .int .i64 f ∧ f < rs.length ∧ Below w5.heap.size w5 wx ∧ wx.heap[w5.heap.size]? = some (.cells (boolsA rs.length K) 4 (0, 0)) ∧ flowOk rs f K)
  case first =>
    go_wp2_with fail
    go_loopw [8, 27] (fun u8 r wr => ∃ (i f : Nat) (K : Nat → Bool), i ≤ zs.length ∧ r = .int .i64 i ∧ u8 = .int .i64 f ∧ f < rs.length ∧ Below w5.heap.size w5 wr ∧ wr.heap[w5.heap.size]? = some (.cells (boolsA rs.length K) 4 (0, 0)) ∧ flowOk rs f K ∧ (i = 0 → ∀ j, K j = false)) (fun _ r _ => zs.length - (intOf r).toNat)
    case atStart => exact ⟨0, 0, fun _ => false, by omega, rfl, rfl, by omega, HB7.out, HKN.out, (fun j _ h => (by cases h)), fun _ _ => rfl⟩
    case round =>
      obtain ⟨i, f, K, hi, rfl, rfl, hf, hbr, hkr, hfl, hk0⟩ := hrel
      have HBR := Lib.hid hbr
      have HKR := Lib.hid hkr
      have HFL := Lib.hid hfl
      have HK0 := Lib.hid hk0
      clear hfl hk0
      by_cases hlt : i < zs.length
      · rcases HZ.out.cases with ⟨h, _⟩ | ⟨_, gz, offz, cz, hs, _, _, hgz, hcz⟩
        · rw [h] at hlt; simp at hlt
        cases hs
        have hn16 := wf_u16 (HZ.out.wf (zs.getD i 0) (by rw [List.getD_eq_getElem?_getD, List.getElem?_eq_getElem hlt]; exact List.getElem_mem hlt))
        have hzc := (World.cell?_of_block (a := ⟨gz, offz + i, none⟩) ((bnext HB.out hbr).block gz hgz)).trans (hcz i hlt)
        clear hcz hbr hkr
        generalize zs.getD i 0 = n at *
        have hlti : (i : Int) < zs.length := by omega
        by_cases h60 : 60 < i
        · have h60i : (60 : Int) < i := by omega
          go_wp2_with fail
          go_meet
          exact ⟨f, K, rfl, hf, HBR.out, HKR.out, HFL.out⟩
        · have h60i : ¬ (60 : Int) < i := by omega
          go_wp2_with fail
          obtain ⟨k, hk⟩ : ∃ k : Int, (rs.length : Int) = k := ⟨_, rfl⟩
          obtain ⟨a, ha⟩ : ∃ a : Nat, n.tmod k = a := ⟨(n.tmod k).toNat, by rw [Int.tmod_eq_emod_of_nonneg (by omega)]; have := Int.emod_nonneg n (show k ≠ 0 by omega); omega⟩
          obtain ⟨q8, hq8⟩ : ∃ z : Int, n / 8 = z := ⟨_, rfl⟩
          obtain ⟨q64, hq64⟩ : ∃ z : Int, n / 64 = z := ⟨_, rfl⟩
          have b8 : 0 ≤ q8 ∧ q8 ≤ 65535 := by omega
          have b64 : 0 ≤ q64 ∧ q64 ≤ 65535 := by omega
          obtain ⟨o, ho⟩ : ∃ o : Nat, q8.tmod k = o := ⟨(q8.tmod k).toNat, by rw [Int.tmod_eq_emod_of_nonneg (by omega)]; have := Int.emod_nonneg q8 (show k ≠ 0 by omega); omega⟩
          obtain ⟨s3, hs3⟩ : ∃ z : Int, q64.tmod k = z := ⟨_, rfl⟩
          obtain ⟨q9, hq9⟩ : ∃ z : Int, n / 512 = z := ⟨_, rfl⟩
          have b9 : 0 ≤ q9 ∧ q9 ≤ 65535 := by omega
          obtain ⟨x6, hx6⟩ : ∃ z : Int, q9.tmod 6 = z := ⟨_, rfl⟩
          have hk0' : ¬ k = 0 := by omega
          have bx6 : 0 ≤ x6 ∧ x6 ≤ 5 := by rw [← hx6, Int.tmod_eq_emod_of_nonneg (by omega)]; omega
          have hal : a < rs.length := by have := Int.emod_lt_of_pos n (show 0 < k by omega); rw [Int.tmod_eq_emod_of_nonneg (by omega)] at ha; omega
          have hol : o < rs.length := by have := Int.emod_lt_of_pos q8 (show 0 < k by omega); rw [Int.tmod_eq_emod_of_nonneg (by omega)] at ho; omega
          have e1 : IntKind.i64.wrap n = n := by rw [IntKind.wrap_i64]; omega
          have e2 : IntKind.u16.wrap (n.tdiv 8) = q8 := by rw [IntKind.wrap_u16, Int.tdiv_eq_ediv_of_nonneg (by omega)]; omega
          have e3 : IntKind.i64.wrap q8 = q8 := by rw [IntKind.wrap_i64]; omega
          have e4 : IntKind.u16.wrap (n.tdiv 64) = q64 := by rw [IntKind.wrap_u16, Int.tdiv_eq_ediv_of_nonneg (by omega)]; omega
          have e5 : IntKind.i64.wrap q64 = q64 := by rw [IntKind.wrap_i64]; omega
          have e6 : IntKind.u8.wrap x6 = x6 := by rw [IntKind.wrap_u8]; omega
          have hS : Below wr.heap.size wr wr.drew := drewb wr
          refine wp_region_held (S := fun w' => Below wr.heap.size wr w') (by kernel_rfl) ?_
          change wpAnyH _ _ _ _ _ _ _ _ (World.drew _)
          refine takeH 0 (.int .u16 n) (some 34) rfl rfl (by kernel_rfl) (by kernel_rfl) (by kernel_rfl) (fun _ _ _ h => h) (.inl ⟨by kernel_rfl, fun w _ => by go_simp⟩) hS ?_
          refine takeH 1 (.int .i64 n) (some 35) rfl rfl (by kernel_rfl) (by kernel_rfl) (by kernel_rfl) (fun _ _ _ h => h) (.inl ⟨by kernel_rfl, fun w _ => by go_simp⟩) hS ?_
          refine takeH 2 (.int .i64 rs.length) (some 36) rfl rfl (by kernel_rfl) (by kernel_rfl) (by kernel_rfl) (fun _ _ _ h => h) (.inl ⟨by kernel_rfl, fun w _ => by go_simp⟩) hS ?_
          refine takeH 3 (.int .i64 (a : Nat)) (some 37) rfl rfl (by kernel_rfl) (by kernel_rfl) (by kernel_rfl) (fun _ _ _ h => h) (.inl ⟨by kernel_rfl, fun w _ => by go_simp⟩) hS ?_
          refine takeH 4 (.int .u16 n) (some 38) rfl rfl (by kernel_rfl) (by kernel_rfl) (by kernel_rfl) (fun _ _ _ h => h) (.inl ⟨by kernel_rfl, fun w _ => by go_simp⟩) hS ?_
          refine takeH 5 (.int .u16 q8) (some 39) rfl rfl (by kernel_rfl) (by kernel_rfl) (by kernel_rfl) (fun _ _ _ h => h) (.inl ⟨by kernel_rfl, fun w _ => by go_simp⟩) hS ?_
          refine takeH 6 (.int .i64 q8) (some 40) rfl rfl (by kernel_rfl) (by kernel_rfl) (by kernel_rfl) (fun _ _ _ h => h) (.inl ⟨by kernel_rfl, fun w _ => by go_simp⟩) hS ?_
          refine takeH 7 (.int .i64 rs.length) (some 41) rfl rfl (by kernel_rfl) (by kernel_rfl) (by kernel_rfl) (fun _ _ _ h => h) (.inl ⟨by kernel_rfl, fun w _ => by go_simp⟩) hS ?_
          refine takeH 8 (.int .i64 (o : Nat)) (some 42) rfl rfl (by kernel_rfl) (by kernel_rfl) (by kernel_rfl) (fun _ _ _ h => h) (.inl ⟨by kernel_rfl, fun w _ => by go_simp⟩) hS ?_
          refine takeH 9 (.int .u16 n) (some 43) rfl rfl (by kernel_rfl) (by kernel_rfl) (by kernel_rfl) (fun _ _ _ h => h) (.inl ⟨by kernel_rfl, fun w _ => by go_simp⟩) hS ?_
          refine takeH 10 (.int .u16 q64) (some 44) rfl rfl (by kernel_rfl) (by kernel_rfl) (by kernel_rfl) (fun _ _ _ h => h) (.inl ⟨by kernel_rfl, fun w _ => by go_simp⟩) hS ?_
          refine takeH 11 (.int .i64 q64) (some 45) rfl rfl (by kernel_rfl) (by kernel_rfl) (by kernel_rfl) (fun _ _ _ h => h) (.inl ⟨by kernel_rfl, fun w _ => by go_simp⟩) hS ?_
          refine takeH 12 (.int .i64 rs.length) (some 46) rfl rfl (by kernel_rfl) (by kernel_rfl) (by kernel_rfl) (fun _ _ _ h => h) (.inl ⟨by kernel_rfl, fun w _ => by go_simp⟩) hS ?_
          refine takeH 13 (.int .i64 s3) (some 47) rfl rfl (by kernel_rfl) (by kernel_rfl) (by kernel_rfl) (fun _ _ _ h => h) (.inl ⟨by kernel_rfl, fun w _ => by go_simp⟩) hS ?_
          refine takeH 14 (.int .u16 n) (some 48) rfl rfl (by kernel_rfl) (by kernel_rfl) (by kernel_rfl) (fun _ _ _ h => h) (.inl ⟨by kernel_rfl, fun w _ => by go_simp⟩) hS ?_
          refine takeH 15 (.int .u16 q9) (some 49) rfl rfl (by kernel_rfl) (by kernel_rfl) (by kernel_rfl) (fun _ _ _ h => h) (.inl ⟨by kernel_rfl, fun w _ => by go_simp⟩) hS ?_
          refine takeH 16 (.int .u16 x6) (some 50) rfl rfl (by kernel_rfl) (by kernel_rfl) (by kernel_rfl) (fun _ _ _ h => h) (.inl ⟨by kernel_rfl, fun w _ => by go_simp⟩) hS ?_
          refine takeH 17 (.int .u8 x6) (some 51) rfl rfl (by kernel_rfl) (by kernel_rfl) (by kernel_rfl) (fun _ _ _ h => h) (.inl ⟨by kernel_rfl, fun w _ => by go_simp⟩) hS ?_
          refine takeH 18 (.agg #[.int .i64 (a : Nat), .int .i64 s3, .int .i64 (o : Nat), .bool false, .int .u8 x6]) (some 52) rfl rfl (by kernel_rfl) (by kernel_rfl) (by kernel_rfl) (fun _ _ _ h => h) (.inl ⟨by kernel_rfl, fun w _ => by go_simp⟩) hS ?_
          have hS1 : Below wr.heap.size wr (wr.drew.alloc (.cells #[.int .i64 0, .int .i64 0, .int .i64 0, .bool false, .int .u8 0] 29)) := bnewAfter hS _
          refine runH 19 (.pointer (some ⟨wr.heap.size, 0, none⟩)) (some 12) rfl (by kernel_rfl) (by kernel_rfl) rfl (w' := wr.drew.alloc (.cells #[.int .i64 0, .int .i64 0, .int .i64 0, .bool false, .int .u8 0] 29)) (by go_simp) hS1 ?_
          refine storeWholeH 20 rfl (by kernel_rfl) (by kernel_rfl) rfl 29 (.tmp 12) (.tmp 52) rfl #[.int .i64 (a : Nat), .int .i64 s3, .int .i64 (o : Nat), .bool false, .int .u8 x6] #[.int .i64 0, .int .i64 0, .int .i64 0, .bool false, .int .u8 0] 29 (g := wr.heap.size) (by go_simp) (by go_simp) (by kernel_rfl) (heap_alloc_last wr.drew _) rfl (List.all_eq_true.1 (by rfl)) (fun w9 g9 o9 => ?_)
          have hb9 : Below wr.heap.size wr w9 := hS1.trans (o9.toBelow (fun k hk => by cases hk; exact Nat.le_refl _) (by simp))
          refine ⟨hb9, ?_⟩
          refine wpAnyH_done (by kernel_rfl) ?_ _
          go_simp
          have hltk : w5.heap.size < wr.heap.size := rowlt HKR.out
          have HB9 := Lib.hid (HBR.out.trans (hb9.mono HBR.out.size))
          have HK9 := Lib.hid (bkeep hb9 HKR.out)
          have HA9 := Lib.hid g9
          clear hS hS1 o9 hb9 e1 e2 e3 e4 e5 e6 ha hq8 hq64 ho hs3 hq9 hx6 b8 b64 b9 hk0' g9 hzc hn16 HBR HKR
          rw [← hk]
          clear hk
          have hali : (a : Int) < rs.length := by omega
          have holi : (o : Int) < rs.length := by omega
          go_upto_if 54 with fail
          go_cut [8] (fun u8 wx => ∃ (f' : Nat) (K' : Nat → Bool), u8 = .int .i64 f' ∧ f' < rs.length ∧ Below w5.heap.size w5 wx ∧ wx.heap[w5.heap.size]? = some (.cells (boolsA rs.length K') 4 (0, 0)) ∧ flowOk rs f' K' ∧ wx.heap[wr.heap.size]? = some (.cells #[.int .i64 (a : Nat), .int .i64 s3, .int .i64 (o : Nat), .bool false, .int .u8 x6] 29 (0, 0)))
          case first =>
            by_cases hi0 : i = 0
            · have hi0' : ((i : Int) == 0) = true := by rw [beq_iff_eq]; omega
              have c1 := rowcell HA9.out
              have c2 : w9.cell? ⟨w5.heap.size, a, none⟩ = some (.bool (K a)) := (rowcell HK9.out a).trans (boolsA_get _ _ _ hal)
              have c3 := rowfree HK9.out
              go_wp2_with fail
              go_meet
              refine ⟨a, setK K a true, rfl, hal, ?_, ?_, flow_first hal (HK0.out hi0), ?_⟩
              · exact HB9.out.trans ((one_setCell w9 w5.heap.size a (.bool true)).toBelow (fun k hk => by cases hk; exact Nat.le_refl _) HB9.out.size)
              · rw [← boolsA_set _ _ _ _ hal]
                exact heap_setCell_at HK9.out _ (by rw [boolsA_size]; exact hal)
              · exact (one_setCell w9 w5.heap.size a (.bool true)).blk HA9.out (fun e => by have := Option.some.inj e; omega)
            · have hi0' : ((i : Int) == 0) = false := by rw [beq_eq_false_iff_ne]; omega
              go_wp2_with fail
              go_meet
              exact ⟨f, K, rfl, hf, HB9.out, HK9.out, HFL.out, HA9.out⟩
          case rest =>
            obtain ⟨wx, hwx⟩ : ∃ wx, wx = wc := ⟨_, rfl⟩
            subst hwx
            obtain ⟨f2, K2, rfl, hf2, hb2, hkn2, hfl2, ha2⟩ := hcut
            have HB10 := Lib.hid hb2
            have HK10 := Lib.hid hkn2
            have HF10 := Lib.hid hfl2
            have HA10 := Lib.hid ha2
            have c1 := rowcell ha2
            have c2 := rowcell (bkeep hb2 HM.out)
            have hlm : (i : Int) < 9223372036854775807 := ltMaxLen hlt (by omega)
            clear hb2 hkn2 hfl2 ha2 HB9 HK9 HA9 HFL HK0
            go_wp2_with fail
            refine (judge_in HP.out HB10.out a s3 o false x6 (by omega) (by omega)).mono ?_; rintro e w10 ⟨rfl, hb10⟩
            have HB11 := Lib.hid (HB10.out.trans (hb10.mono HB10.out.size))
            have HK11 := Lib.hid (bkeep hb10 HK10.out)
            have HA11 := Lib.hid (bkeep hb10 HA10.out)
            clear c1 c2 hb10 HB10 HK10 HA10
            obtain ⟨j, hj⟩ : ∃ j, j = judgeI rs a s3 o false x6 := ⟨_, rfl⟩
            have HJ := Lib.hid hj
            rw [← hj]
            clear hj
            cases hz : (j != 0)
            case true =>
              go_wp2_with fail
              refine ⟨⟨i + 1, f2, K2, by omega, rfl, rfl, hf2, HB11.out, HK11.out, HF10.out, fun h => by omega⟩, by simp [intOf]; omega⟩
            case false =>
              have hj0 : judgeI rs a s3 o false x6 = 0 := by have : j = 0 := by simpa using hz
                                                             rw [← HJ.out]; exact this
              have HJZ := Lib.hid (judge_zero bx6.1 (by omega) hal hol hj0)
              clear hj0
              have c1 := rowcell HA11.out
              have c3 := rowfree HK11.out
              by_cases h0 : x6 = 0 ∨ x6 = 1
              · have HL := Lib.hid (HJZ.out.1 h0)
                rcases h0 with rfl | rfl
                · skip
                  have d1 : w10.cell? ⟨w5.heap.size, a, none⟩ = some (.bool (K2 a)) := (rowcell HK11.out a).trans (boolsA_get _ _ _ hal)
                  have d2 : w10.cell? ⟨w5.heap.size, o, none⟩ = some (.bool (K2 o)) := (rowcell HK11.out o).trans (boolsA_get _ _ _ hol)
                  cases hka : K2 a
                  · rw [hka] at d1
                    go_wp2_with fail
                    go_region
                    go_wp2_with fail
                    refine ⟨⟨i + 1, f2, setK K2 a (K2 o), by omega, rfl, rfl, hf2, ?_, ?_, ?_, fun h => by omega⟩, by simp [intOf]; omega⟩
                    · exact bdrawn (HB11.out.trans ((one_setCell w10 w5.heap.size a _).toBelow (fun k hk => by cases hk; exact Nat.le_refl _) HB11.out.size))
                    · rw [← boolsA_set _ _ _ _ hal]
                      exact heap_setCell_at HK11.out _ (by rw [boolsA_size]; exact hal)
                    · have h9 := flow_set HF10.out hf2 hal hol HL.out
                      rw [hka] at h9
                      exact h9
                  · rw [hka] at d1
                    go_wp2_with fail
                    go_region
                    go_wp2_with fail
                    refine ⟨⟨i + 1, f2, setK K2 a true, by omega, rfl, rfl, hf2, ?_, ?_, ?_, fun h => by omega⟩, by simp [intOf]; omega⟩
                    · exact bdrawn (HB11.out.trans ((one_setCell w10 w5.heap.size a _).toBelow (fun k hk => by cases hk; exact Nat.le_refl _) HB11.out.size))
                    · rw [← boolsA_set _ _ _ _ hal]
                      exact heap_setCell_at HK11.out _ (by rw [boolsA_size]; exact hal)
                    · have h9 := flow_set HF10.out hf2 hal hol HL.out
                      rw [hka] at h9
                      exact h9
                · skip
                  have d1 : w10.cell? ⟨w5.heap.size, a, none⟩ = some (.bool (K2 a)) := (rowcell HK11.out a).trans (boolsA_get _ _ _ hal)
                  have d2 : w10.cell? ⟨w5.heap.size, o, none⟩ = some (.bool (K2 o)) := (rowcell HK11.out o).trans (boolsA_get _ _ _ hol)
                  cases hka : K2 a
                  · rw [hka] at d1
                    go_wp2_with fail
                    go_region
                    go_wp2_with fail
                    refine ⟨⟨i + 1, f2, setK K2 a (K2 o), by omega, rfl, rfl, hf2, ?_, ?_, ?_, fun h => by omega⟩, by simp [intOf]; omega⟩
                    · exact bdrawn (HB11.out.trans ((one_setCell w10 w5.heap.size a _).toBelow (fun k hk => by cases hk; exact Nat.le_refl _) HB11.out.size))
                    · rw [← boolsA_set _ _ _ _ hal]
                      exact heap_setCell_at HK11.out _ (by rw [boolsA_size]; exact hal)
                    · have h9 := flow_set HF10.out hf2 hal hol HL.out
                      rw [hka] at h9
                      exact h9
                  · rw [hka] at d1
                    go_wp2_with fail
                    go_region
                    go_wp2_with fail
                    refine ⟨⟨i + 1, f2, setK K2 a true, by omega, rfl, rfl, hf2, ?_, ?_, ?_, fun h => by omega⟩, by simp [intOf]; omega⟩
                    · exact bdrawn (HB11.out.trans ((one_setCell w10 w5.heap.size a _).toBelow (fun k hk => by cases hk; exact Nat.le_refl _) HB11.out.size))
                    · rw [← boolsA_set _ _ _ _ hal]
                      exact heap_setCell_at HK11.out _ (by rw [boolsA_size]; exact hal)
                    · have h9 := flow_set HF10.out hf2 hal hol HL.out
                      rw [hka] at h9
                      exact h9
              · have HL := Lib.hid (HJZ.out.2 h0)
                have q0 : (x6 == 0) = false := by rw [beq_eq_false_iff_ne]; omega
                have q1 : (x6 == 1) = false := by rw [beq_eq_false_iff_ne]; omega
                have d1 : w10.cell? ⟨w5.heap.size, o, none⟩ = some (.bool (K2 o)) := (rowcell HK11.out o).trans (boolsA_get _ _ _ hol)
                have d2 : w10.cell? ⟨w5.heap.size, a, none⟩ = some (.bool (K2 a)) := (rowcell HK11.out a).trans (boolsA_get _ _ _ hal)
                cases hka : K2 o
                · rw [hka] at d1
                  go_wp2_with fail
                  go_region
                  go_wp2_with fail
                  refine ⟨⟨i + 1, f2, setK K2 o (K2 a), by omega, rfl, rfl, hf2, ?_, ?_, ?_, fun h => by omega⟩, by simp [intOf]; omega⟩
                  · exact bdrawn (HB11.out.trans ((one_setCell w10 w5.heap.size o _).toBelow (fun k hk => by cases hk; exact Nat.le_refl _) HB11.out.size))
                  · rw [← boolsA_set _ _ _ _ hol]
                    exact heap_setCell_at HK11.out _ (by rw [boolsA_size]; exact hol)
                  · have h9 := flow_set HF10.out hf2 hol hal HL.out
                    rw [hka] at h9
                    exact h9
                · rw [hka] at d1
                  go_wp2_with fail
                  go_region
                  go_wp2_with fail
                  refine ⟨⟨i + 1, f2, setK K2 o true, by omega, rfl, rfl, hf2, ?_, ?_, ?_, fun h => by omega⟩, by simp [intOf]; omega⟩
                  · exact bdrawn (HB11.out.trans ((one_setCell w10 w5.heap.size o _).toBelow (fun k hk => by cases hk; exact Nat.le_refl _) HB11.out.size))
                  · rw [← boolsA_set _ _ _ _ hol]
                    exact heap_setCell_at HK11.out _ (by rw [boolsA_size]; exact hol)
                  · have h9 := flow_set HF10.out hf2 hol hal HL.out
                    rw [hka] at h9
                    exact h9
      · have hlti : ¬ (i : Int) < zs.length := by omega
        go_wp2_with fail
        go_meet
        exact ⟨f, K, rfl, hf, HBR.out, HKR.out, HFL.out⟩
  case rest =>
    clear HKN HB7
    obtain ⟨wx, hwx⟩ : ∃ wx, wx = wc := ⟨_, rfl⟩
    subst hwx
    obtain ⟨f, K, rfl, hf, hb, hkn, hfl⟩ := hcut
    have HFL := Lib.hid hfl
    clear hfl
    go_wp2_with fail
    go_loopw [104] (fun r wr => ∃ i : Nat, i ≤ rs.length ∧ r = .int .i64 i ∧ Below w5.heap.size w5 wr ∧ wr.heap[w5.heap.size]? = some (.cells (boolsA rs.length K) 4 (0, 0))) (fun r _ => rs.length - (intOf r).toNat)
    case atStart => exact ⟨0, by omega, rfl, hb, hkn⟩
    case round =>
      clear hb hkn
      obtain ⟨i, hi, rfl, hbr, hkr⟩ := hrel
      have HBR := Lib.hid hbr
      have HKR := Lib.hid hkr
      clear hbr hkr
      by_cases hlt : i < rs.length
      · have hlti : (i : Int) < rs.length := by omega
        have d1 : wr.cell? ⟨w5.heap.size, i, none⟩ = some (.bool (K i)) := (rowcell HKR.out i).trans (boolsA_get _ _ _ hlt)
        have hlm : (i : Int) < 9223372036854775807 := by omega
        have HFI := Lib.hid (HFL.out i hlt)
        cases hki : K i
        · rw [hki] at d1
          go_wp2_with fail
          refine ⟨⟨i + 1, by omega, rfl, HBR.out, HKR.out⟩, by simp [intOf]; omega⟩
        · rw [hki] at d1
          go_wp2_with fail
          refine (HP.out.leq _ HBR.out f i).mono ?_; rintro e w10 ⟨rfl, hb10⟩
          rw [HFI.out hki]
          have HB11 := Lib.hid (HBR.out.trans (hb10.mono HBR.out.size))
          have HK11 := Lib.hid (bkeep hb10 HKR.out)
          clear d1 hb10
          go_wp2_with fail
          refine ⟨⟨i + 1, by omega, rfl, HB11.out, HK11.out⟩, by simp [intOf]; omega⟩
      · have hlti : ¬ (i : Int) < rs.length := by omega
        go_wp2_with fail
        go_ret
        exact ⟨rfl, bnext HB.out HBR.out⟩
end Go.Proofs.Ytlclainjefchlaa
