/- The law RuleJudges: its walk. -/
import Derived.Test.YtlclainjefchlaaRuleE
import Derived.Deep.DeepCutAuto
set_option linter.unusedVariables false
set_option linter.unusedSimpArgs false
namespace Go.Proofs.Ytlclainjefchlaa
open Go.RowKit

theorem cellsPiece {w : World} {g : Nat} {cs : Array Value} {t : TypeId} {fr : Nat × Nat} (h : w.heap[g]? = some (.cells cs t fr)) : ∀ j v, cs.toList[j]? = some v → w.cell? ⟨g, 0 + j, none⟩ = some v := fun j v hv => by
  rw [Nat.zero_add, rowcell h]; simpa using hv
theorem sizeCells {X : Array Value} (h : X.size = 27) : (Try.prog.info? 26).map (·.size) = some X.size := by rw [h]; kernel_rfl
theorem leqL_anti {a b : Nat × Nat} (ha : okL a) (hb : okL b) (h1 : leqL a b = true) (h2 : leqL b a = true) : a = b := by
  simp only [leqL, Bool.and_eq_true, decide_eq_true_eq, subC_iff] at h1 h2
  refine Prod.ext (Nat.le_antisymm h1.1 h2.1) ?_
  refine Nat.eq_of_testBit_eq fun j => ?_
  by_cases hj : j < 16
  · have e1 := h1.2 j hj
    have e2 := h2.2 j hj
    cases h3 : a.2.testBit j <;> cases h4 : b.2.testBit j <;> simp_all
  · have big : ∀ x : Nat, x < 65536 → x.testBit j = false := fun x hx => Nat.testBit_lt_two_pow (Nat.lt_of_lt_of_le hx (by
      have := Nat.pow_le_pow_right (show 0 < 2 by decide) (show 16 ≤ j by omega)
      simpa using this))
    rw [big _ ha.2, big _ hb.2]
theorem leqL_refl (a : Nat × Nat) : leqL a a = true := by
  simp only [leqL, Bool.and_eq_true, decide_eq_true_eq, subC_iff]
  exact ⟨Nat.le_refl _, fun _ _ h => h⟩
theorem size_anti (s : SizeL) : antiI (sizeRegs s) := by
  intro x y hx hy
  obtain ⟨i, rfl, hi⟩ := inB_yes hx
  obtain ⟨j, rfl, hj⟩ := inB_yes hy
  rw [leqI_nat hj hi, leqI_nat hi hj]
  by_cases hij : i = j
  · subst hij; simp [leqL_refl]
  · have hne : (sizeRegs s)[i].lab ≠ (sizeRegs s)[j].lab := fun e => hij (by
      have hnd := (size_ok s).labs
      have := (List.getElem_inj (i := i) (j := j) (h₀ := by simpa using hi) (h₁ := by simpa using hj) hnd).1 (by simpa using e)
      exact this)
    have hne' : ¬ ((i : Int) = (j : Int)) := by omega
    have := fun h1 h2 => hne (leqL_anti (size_oks s _ (List.getElem_mem hi)) (size_oks s _ (List.getElem_mem hj)) h1 h2)
    cases h1 : leqL (sizeRegs s)[j].lab (sizeRegs s)[i].lab <;> cases h2 : leqL (sizeRegs s)[i].lab (sizeRegs s)[j].lab <;> simp_all

set_option maxRecDepth 20000 in
set_option maxHeartbeats 8000000 in
theorem ruleJudges_walk (W : World) (v0 v1 v2 : Value) (o0 : Arg Try.prog W 26 v0) (o1 : Arg Try.prog W 29 v1) (o2 : Arg Try.prog W 30 v2) :
    Calls Try.prog 3 #[v0, v1, v2] W fun e w' => e = .returned (.bool true) ∧ Below W.heap.size W w' := by
  obtain ⟨sz, X, tv, rfl, hX, hrest⟩ := SizeV.of_arg o0
  have HV := Lib.hid (show SizeV W (.agg X) sz from ⟨X, tv, rfl, hX, hrest⟩)
  clear hrest
  obtain ⟨s, c, o, t, x, rfl, hx0, hx1⟩ := Arg.ask o1
  obtain ⟨n, rfl, hn⟩ := Arg.int Try.underlying30 o2
  have hn16 := wf_u16 hn
  clear o0 o1 o2 hn
  have HXS := Lib.hid (sizeCells hX)
  clear hX
  have hx := heap_alloc_last W (.cells X 26)
  have ha := heap_alloc_last (W.alloc (.cells X 26)) (.cells #[.int .i64 s, .int .i64 c, .int .i64 o, .bool t, .int .u8 x] 29)
  rw [show (W.alloc (.cells X 26)).heap.size = W.heap.size + 1 by simp] at ha
  have hx' := bkeep (bnew (W.alloc (.cells X 26)) (.cells #[.int .i64 s, .int .i64 c, .int .i64 o, .bool t, .int .u8 x] 29)) hx
  have hB := bnewAfter (bnew W (.cells X 26)) (.cells #[.int .i64 s, .int .i64 c, .int .i64 o, .bool t, .int .u8 x] 29)
  clear hx
  go_enter Try.func3, Try.ntmps3
  go_wp2_with fail
  generalize (W.alloc (.cells X 26)).alloc (.cells #[.int .i64 s, .int .i64 c, .int .i64 o, .bool t, .int .u8 x] 29) = w0 at *
  refine (ruleAwake_in _).mono ?_; rintro e w1 ⟨rfl, hb1⟩
  have HX1 := Lib.hid (bkeep hb1 hx')
  have HA1 := Lib.hid (bkeep hb1 ha)
  have HB1 := Lib.hid (bnext hB hb1)
  have HPX := Lib.hid (cellsPiece HX1.out)
  clear hb1 hx' ha hB
  go_wp2_with (refine wpList_load_pieceTo rfl 26 (.tmp 3) rfl (some 17) rfl W.heap.size 0 rfl X _ HPX.out Try.underlying26 rfl HXS.out ?_)
  refine (sizeRegs_in _ _ sz (HV.out.keep HB1.out)).mono ?_; rintro e w2 ⟨hb2, rv, mv, rfl, hr, _⟩
  have HR2 := Lib.hid (SR.of_own hr)
  clear hr
  obtain ⟨A, cap, rfl, hc1, hc2⟩ := HR2.out.form
  have HX2 := Lib.hid (bkeep hb2 HX1.out)
  have HA2 := Lib.hid (bkeep hb2 HA1.out)
  have HB2 := Lib.hid (bnext HB1.out hb2)
  have HPX2 := Lib.hid (cellsPiece HX2.out)
  clear hb2 HPX HX1 HA1 HB1
  go_wp2_with (refine wpList_load_pieceTo rfl 26 (.tmp 3) rfl (some 21) rfl W.heap.size 0 rfl X _ HPX2.out Try.underlying26 rfl HXS.out ?_)
  refine (sizeConf_in _ _ sz (HV.out.keep HB2.out)).mono ?_; rintro e w3 ⟨hb3, g, gT, gN, gL, v', m', u', rfl, hcf⟩
  have HP3 := Lib.hid (hcf.toP (size_le _) (size_oks _))
  have HA3 := Lib.hid (bkeep hb3 HA2.out)
  have HB3 := Lib.hid (bnext HB2.out hb3)
  have HR3 := Lib.hid (HR2.out.keep hb3)
  clear hcf hb3 HPX2 HX2 HA2 HB2 HR2 HV HXS
  obtain ⟨rs, hrs⟩ : ∃ rs, rs = sizeRegs sz := ⟨_, rfl⟩
  have hanti : antiI rs := hrs ▸ size_anti sz
  have hoks : ∀ r ∈ rs, okL r.lab := hrs ▸ size_oks sz
  have hk2 : 2 ≤ rs.length := by have := manyOf_le sz; rw [hrs, sizeRegs_length]; omega
  have hk5 : rs.length ≤ 5 := by have := manyOf_le sz; rw [hrs, sizeRegs_length]; omega
  rw [← hrs] at HP3 HR3 hc1 ⊢
  clear hrs
  have HAN := Lib.hid hanti
  have HOK := Lib.hid hoks
  clear hanti hoks
  go_wp2_with fail
  refine (ruleNew_in _ _).mono ?_; rintro e w4 ⟨rfl, hb4⟩
  have hm := heap_alloc_last w4 (.cells #[.pointer (some ⟨g, 0, none⟩)] 38)
  have hb5 := bnewAfter hb4 (.cells #[.pointer (some ⟨g, 0, none⟩)] 38)
  have HM := Lib.hid hm
  have HB := Lib.hid (bnext HB3.out hb5)
  have HA := Lib.hid (bkeep hb5 HA3.out)
  have HR := Lib.hid (HR3.out.keep hb5)
  have HP := Lib.hid (HP3.out.keep hb5)
  clear hm hb4 hb5 HB3 HA3 HR3 HP3
  go_wp2_with fail
  generalize w4.alloc (.cells #[.pointer (some ⟨g, 0, none⟩)] 38) = w5 at *
  obtain ⟨k, hk⟩ : ∃ k : Int, (rs.length : Int) = k := ⟨_, rfl⟩
  obtain ⟨s1, hs1⟩ : ∃ z : Int, n.tmod k = z := ⟨_, rfl⟩
  obtain ⟨q8, hq8⟩ : ∃ z : Int, n / 8 = z := ⟨_, rfl⟩
  obtain ⟨q64, hq64⟩ : ∃ z : Int, n / 64 = z := ⟨_, rfl⟩
  obtain ⟨s2, hs2⟩ : ∃ z : Int, q8.tmod k = z := ⟨_, rfl⟩
  obtain ⟨s3, hs3⟩ : ∃ z : Int, q64.tmod k = z := ⟨_, rfl⟩
  obtain ⟨q9, hq9⟩ : ∃ z : Int, n / 512 = z := ⟨_, rfl⟩
  obtain ⟨a1, ha1⟩ : ∃ z : Int, bits BinOp.and IntKind.u16 q9 1 = z := ⟨_, rfl⟩
  obtain ⟨t1, ht1⟩ : ∃ z : Bool, (a1 == 1) = z := ⟨_, rfl⟩
  obtain ⟨q10, hq10⟩ : ∃ z : Int, n / 1024 = z := ⟨_, rfl⟩
  obtain ⟨x8, hx8⟩ : ∃ z : Int, q10.tmod 8 = z := ⟨_, rfl⟩
  have hk0 : ¬ k = 0 := by omega
  have b8 : 0 ≤ q8 ∧ q8 ≤ 65535 := by omega
  have b64 : 0 ≤ q64 ∧ q64 ≤ 65535 := by omega
  have b10 : 0 ≤ q10 ∧ q10 ≤ 65535 := by omega
  have bx8 : 0 ≤ x8 ∧ x8 ≤ 7 := by rw [← hx8, Int.tmod_eq_emod_of_nonneg (by omega)]; omega
  have e1 : IntKind.i64.wrap n = n := by rw [IntKind.wrap_i64]; omega
  have e2 : IntKind.u16.wrap (n.tdiv 8) = q8 := by rw [IntKind.wrap_u16, Int.tdiv_eq_ediv_of_nonneg (by omega)]; omega
  have e3 : IntKind.i64.wrap q8 = q8 := by rw [IntKind.wrap_i64]; omega
  have e4 : IntKind.u16.wrap (n.tdiv 64) = q64 := by rw [IntKind.wrap_u16, Int.tdiv_eq_ediv_of_nonneg (by omega)]; omega
  have e5 : IntKind.i64.wrap q64 = q64 := by rw [IntKind.wrap_i64]; omega
  have e6 : IntKind.u8.wrap x8 = x8 := by rw [IntKind.wrap_u8]; omega
  have hS : Below w5.heap.size w5 w5.drew := drewb w5
  refine wp_region_held (S := fun w' => Below w5.heap.size w5 w') (by kernel_rfl) ?_
  change wpAnyH _ _ _ _ _ _ _ _ (World.drew _)
  refine takeH 0 (.int .u16 n) (some 26) rfl rfl (by kernel_rfl) (by kernel_rfl) (by kernel_rfl) (fun _ _ _ h => h) (.inl ⟨by kernel_rfl, fun w _ => by go_simp⟩) hS ?_
  refine takeH 1 (.int .i64 n) (some 27) rfl rfl (by kernel_rfl) (by kernel_rfl) (by kernel_rfl) (fun _ _ _ h => h) (.inl ⟨by kernel_rfl, fun w _ => by go_simp⟩) hS ?_
  refine takeH 2 (.int .i64 rs.length) (some 28) rfl rfl (by kernel_rfl) (by kernel_rfl) (by kernel_rfl) (fun _ _ _ h => h) (.inl ⟨by kernel_rfl, fun w _ => by go_simp⟩) hS ?_
  refine takeH 3 (.int .i64 s1) (some 29) rfl rfl (by kernel_rfl) (by kernel_rfl) (by kernel_rfl) (fun _ _ _ h => h) (.inl ⟨by kernel_rfl, fun w _ => by go_simp⟩) hS ?_
  refine takeH 4 (.int .u16 n) (some 30) rfl rfl (by kernel_rfl) (by kernel_rfl) (by kernel_rfl) (fun _ _ _ h => h) (.inl ⟨by kernel_rfl, fun w _ => by go_simp⟩) hS ?_
  refine takeH 5 (.int .u16 q8) (some 31) rfl rfl (by kernel_rfl) (by kernel_rfl) (by kernel_rfl) (fun _ _ _ h => h) (.inl ⟨by kernel_rfl, fun w _ => by go_simp⟩) hS ?_
  refine takeH 6 (.int .i64 q8) (some 32) rfl rfl (by kernel_rfl) (by kernel_rfl) (by kernel_rfl) (fun _ _ _ h => h) (.inl ⟨by kernel_rfl, fun w _ => by go_simp⟩) hS ?_
  refine takeH 7 (.int .i64 rs.length) (some 33) rfl rfl (by kernel_rfl) (by kernel_rfl) (by kernel_rfl) (fun _ _ _ h => h) (.inl ⟨by kernel_rfl, fun w _ => by go_simp⟩) hS ?_
  refine takeH 8 (.int .i64 s2) (some 34) rfl rfl (by kernel_rfl) (by kernel_rfl) (by kernel_rfl) (fun _ _ _ h => h) (.inl ⟨by kernel_rfl, fun w _ => by go_simp⟩) hS ?_
  refine takeH 9 (.int .u16 n) (some 35) rfl rfl (by kernel_rfl) (by kernel_rfl) (by kernel_rfl) (fun _ _ _ h => h) (.inl ⟨by kernel_rfl, fun w _ => by go_simp⟩) hS ?_
  refine takeH 10 (.int .u16 q64) (some 36) rfl rfl (by kernel_rfl) (by kernel_rfl) (by kernel_rfl) (fun _ _ _ h => h) (.inl ⟨by kernel_rfl, fun w _ => by go_simp⟩) hS ?_
  refine takeH 11 (.int .i64 q64) (some 37) rfl rfl (by kernel_rfl) (by kernel_rfl) (by kernel_rfl) (fun _ _ _ h => h) (.inl ⟨by kernel_rfl, fun w _ => by go_simp⟩) hS ?_
  refine takeH 12 (.int .i64 rs.length) (some 38) rfl rfl (by kernel_rfl) (by kernel_rfl) (by kernel_rfl) (fun _ _ _ h => h) (.inl ⟨by kernel_rfl, fun w _ => by go_simp⟩) hS ?_
  refine takeH 13 (.int .i64 s3) (some 39) rfl rfl (by kernel_rfl) (by kernel_rfl) (by kernel_rfl) (fun _ _ _ h => h) (.inl ⟨by kernel_rfl, fun w _ => by go_simp⟩) hS ?_
  refine takeH 14 (.int .u16 n) (some 40) rfl rfl (by kernel_rfl) (by kernel_rfl) (by kernel_rfl) (fun _ _ _ h => h) (.inl ⟨by kernel_rfl, fun w _ => by go_simp⟩) hS ?_
  refine takeH 15 (.int .u16 q9) (some 41) rfl rfl (by kernel_rfl) (by kernel_rfl) (by kernel_rfl) (fun _ _ _ h => h) (.inl ⟨by kernel_rfl, fun w _ => by go_simp⟩) hS ?_
  refine takeH 16 (.int .u16 a1) (some 42) rfl rfl (by kernel_rfl) (by kernel_rfl) (by kernel_rfl) (fun _ _ _ h => h) (.inl ⟨by kernel_rfl, fun w _ => by go_simp⟩) hS ?_
  refine takeH 17 (.bool t1) (some 43) rfl rfl (by kernel_rfl) (by kernel_rfl) (by kernel_rfl) (fun _ _ _ h => h) (.inl ⟨by kernel_rfl, fun w _ => by go_simp⟩) hS ?_
  refine takeH 18 (.int .u16 n) (some 44) rfl rfl (by kernel_rfl) (by kernel_rfl) (by kernel_rfl) (fun _ _ _ h => h) (.inl ⟨by kernel_rfl, fun w _ => by go_simp⟩) hS ?_
  refine takeH 19 (.int .u16 q10) (some 45) rfl rfl (by kernel_rfl) (by kernel_rfl) (by kernel_rfl) (fun _ _ _ h => h) (.inl ⟨by kernel_rfl, fun w _ => by go_simp⟩) hS ?_
  refine takeH 20 (.int .u16 x8) (some 46) rfl rfl (by kernel_rfl) (by kernel_rfl) (by kernel_rfl) (fun _ _ _ h => h) (.inl ⟨by kernel_rfl, fun w _ => by go_simp⟩) hS ?_
  refine takeH 21 (.int .u8 x8) (some 47) rfl rfl (by kernel_rfl) (by kernel_rfl) (by kernel_rfl) (fun _ _ _ h => h) (.inl ⟨by kernel_rfl, fun w _ => by go_simp⟩) hS ?_
  refine takeH 22 (.agg #[.int .i64 s1, .int .i64 s3, .int .i64 s2, .bool t1, .int .u8 x8]) (some 48) rfl rfl (by kernel_rfl) (by kernel_rfl) (by kernel_rfl) (fun _ _ _ h => h) (.inl ⟨by kernel_rfl, fun w _ => by go_simp⟩) hS ?_
  have hS1 : Below w5.heap.size w5 (w5.drew.alloc (.cells #[.int .i64 0, .int .i64 0, .int .i64 0, .bool false, .int .u8 0] 29)) := bnewAfter hS _
  refine runH 23 (.pointer (some ⟨w5.heap.size, 0, none⟩)) (some 11) rfl (by kernel_rfl) (by kernel_rfl) rfl (w' := w5.drew.alloc (.cells #[.int .i64 0, .int .i64 0, .int .i64 0, .bool false, .int .u8 0] 29)) (by go_simp) hS1 ?_
  refine storeWholeH 24 rfl (by kernel_rfl) (by kernel_rfl) rfl 29 (.tmp 11) (.tmp 48) rfl #[.int .i64 s1, .int .i64 s3, .int .i64 s2, .bool t1, .int .u8 x8] #[.int .i64 0, .int .i64 0, .int .i64 0, .bool false, .int .u8 0] 29 (g := w5.heap.size) (by go_simp) (by go_simp) (by kernel_rfl) (heap_alloc_last w5.drew _) rfl (List.all_eq_true.1 (by rfl)) (fun w6 g6 o6 => ?_)
  have hb6 : Below w5.heap.size w5 w6 := hS1.trans (o6.toBelow (fun k hk => by cases hk; exact Nat.le_refl _) (by simp))
  refine ⟨hb6, ?_⟩
  refine wpAnyH_done (by kernel_rfl) ?_ _
  go_simp
  have HB6 := Lib.hid (bnext HB.out hb6)
  have HM6 := bkeep hb6 HM.out
  have HA6 := bkeep hb6 HA.out
  have HR6 := HR.out.keep hb6
  have HP6 := HP.out.keep hb6
  clear hS hS1 o6 hb6 HB HA HM HR HP e1 e2 e3 e4 e5 e6 hs1 hq8 hq64 hs2 hs3 hq9 ha1 ht1 hq10 hx8 b8 b64 b10 hk0
  have d1 := rowcell HA6
  have d2 := rowcell g6
  rw [← hk]
  clear hk
  go_wp2_with fail
  have hb7 := bnew w6 (.cells #[.int .i64 s, .int .i64 c, .int .i64 o, .bool t, .int .u8 x, .int .i64 s1, .int .i64 s3, .int .i64 s2, .bool t1, .int .u8 x8] 29)
  have hl7 := heap_alloc_last w6 (.cells #[.int .i64 s, .int .i64 c, .int .i64 o, .bool t, .int .u8 x, .int .i64 s1, .int .i64 s3, .int .i64 s2, .bool t1, .int .u8 x8] 29)
  have HB7 := Lib.hid (bnext HB6.out hb7)
  have HM7 := Lib.hid (bkeep hb7 HM6)
  have HR7 := Lib.hid (HR6.keep hb7)
  have HP7 := Lib.hid (HP6.keep hb7)
  generalize w6.alloc (.cells #[.int .i64 s, .int .i64 c, .int .i64 o, .bool t, .int .u8 x, .int .i64 s1, .int .i64 s3, .int .i64 s2, .bool t1, .int .u8 x8] 29) = w7 at *
  have hlt7 := rowlt hl7
  have hcl : ∀ i : Nat, i < 2 → ∃ (S C O : Int) (T : Bool) (Z : Int), 0 ≤ Z ∧ Z ≤ 255 ∧ w7.cell? ⟨w6.heap.size, i * 5, none⟩ = some (.int .i64 S) ∧ w7.cell? ⟨w6.heap.size, i * 5 + 1, none⟩ = some (.int .i64 C) ∧ w7.cell? ⟨w6.heap.size, i * 5 + 2, none⟩ = some (.int .i64 O) ∧ w7.cell? ⟨w6.heap.size, i * 5 + 3, none⟩ = some (.bool T) ∧ w7.cell? ⟨w6.heap.size, i * 5 + 4, none⟩ = some (.int .u8 Z) := fun i hi => by
    have hc := rowcell hl7
    rcases (show i = 0 ∨ i = 1 by omega) with rfl | rfl
    · exact ⟨s, c, o, t, x, hx0, hx1, hc 0, hc 1, hc 2, hc 3, hc 4⟩
    · exact ⟨s1, s3, s2, t1, x8, bx8.1, by omega, hc 5, hc 6, hc 7, hc 8, hc 9⟩
  have HCL := Lib.hid hcl
  clear hcl hl7 hb7 HM6 HR6 HP6 HB6 HA6 g6 d1 d2 bx8 hx0 hx1 hn16
  go_loopw [53] (fun r wr => ∃ i : Nat, i ≤ 2 ∧ r = .int .i64 i ∧ Below w7.heap.size w7 wr) (fun r _ => 2 - (intOf r).toNat)
  case atStart => exact ⟨0, by omega, rfl, Below.refl _ _⟩
  case round =>
    obtain ⟨i, hi, rfl, hbr⟩ := hrel
    by_cases hlt : i < 2
    · obtain ⟨S, C, O, T, Z, hz0, hz1, p0, p1, p2, p3, p4⟩ := HCL.out i hlt
      have f0 := (World.cell?_of_block (a := ⟨w6.heap.size, i * 5, none⟩) (hbr.block w6.heap.size hlt7)).trans p0
      have f1 := (World.cell?_of_block (a := ⟨w6.heap.size, i * 5 + 1, none⟩) (hbr.block w6.heap.size hlt7)).trans p1
      have f2 := (World.cell?_of_block (a := ⟨w6.heap.size, i * 5 + 2, none⟩) (hbr.block w6.heap.size hlt7)).trans p2
      have f3 := (World.cell?_of_block (a := ⟨w6.heap.size, i * 5 + 3, none⟩) (hbr.block w6.heap.size hlt7)).trans p3
      have f4 := (World.cell?_of_block (a := ⟨w6.heap.size, i * 5 + 4, none⟩) (hbr.block w6.heap.size hlt7)).trans p4
      clear p0 p1 p2 p3 p4
      have HBR := Lib.hid hbr
      clear hbr
      have hlti : (i : Int) < 2 := by omega
      go_wp2_with fail
      have hb8 := bnew wr (.cells #[.int .i64 S, .int .i64 C, .int .i64 O, .bool T, .int .u8 Z] 29)
      have ha8 := heap_alloc_last wr (.cells #[.int .i64 S, .int .i64 C, .int .i64 O, .bool T, .int .u8 Z] 29)
      have HB8 := Lib.hid (bnext HBR.out hb8)
      generalize wr.alloc (.cells #[.int .i64 S, .int .i64 C, .int .i64 O, .bool T, .int .u8 Z] 29) = w8 at *
      have HM8 := Lib.hid (bkeep HB8.out HM7.out)
      have HA8 := Lib.hid ha8
      clear hb8 ha8 f0 f1 f2 f3 f4 hlti
      have ez : IntKind.i64.wrap Z = Z := by rw [IntKind.wrap_i64]; omega
      have hS : Below w8.heap.size w8 w8.drew := drewb w8
      refine wp_region_held (S := fun w' => Below w8.heap.size w8 w') (by kernel_rfl) ?_
      change wpAnyH _ _ _ _ _ _ _ _ (World.drew _)
      refine takeH 0 (.agg #[.pointer (some ⟨g, 0, none⟩)]) (some 57) rfl rfl (by kernel_rfl) (by kernel_rfl) (by kernel_rfl) (fun _ _ _ h => h) (.inl ⟨by kernel_rfl, fun w hw => by have hc := (fun w hw => rowcell (bkeep hw HM8.out)) w hw; go_simp⟩) hS ?_
      refine takeH 1 (.agg #[.int .i64 S, .int .i64 C, .int .i64 O, .bool T, .int .u8 Z]) (some 58) rfl rfl (by kernel_rfl) (by kernel_rfl) (by kernel_rfl) (fun _ _ _ h => h) (.inl ⟨by kernel_rfl, fun w hw => by have hc := rowcell (bkeep hw HA8.out); go_simp⟩) hS ?_
      refine takeH 3 (.slice A rs.length cap) (some 60) rfl rfl (by kernel_rfl) (by kernel_rfl) (by kernel_rfl) (fun _ _ _ h => h) (.inl ⟨by kernel_rfl, fun w _ => by go_simp⟩) hS ?_
      refine takeH 4 (.pointer (some ⟨wr.heap.size, 0, none⟩)) (some 61) rfl rfl (by kernel_rfl) (by kernel_rfl) (by kernel_rfl) (fun _ _ _ h => h) (.inl ⟨by kernel_rfl, fun w _ => by go_simp⟩) hS ?_
      refine takeH 5 (.int .i64 S) (some 62) rfl rfl (by kernel_rfl) (by kernel_rfl) (by kernel_rfl) (fun _ _ _ h => h) (.inl ⟨by kernel_rfl, fun w hw => by have hc := (fun w hw => rowcell (bkeep hw HA8.out)) w hw; go_simp⟩) hS ?_
      refine takeH 6 (.pointer (some ⟨wr.heap.size, 1, none⟩)) (some 63) rfl rfl (by kernel_rfl) (by kernel_rfl) (by kernel_rfl) (fun _ _ _ h => h) (.inl ⟨by kernel_rfl, fun w _ => by go_simp⟩) hS ?_
      refine takeH 7 (.int .i64 C) (some 64) rfl rfl (by kernel_rfl) (by kernel_rfl) (by kernel_rfl) (fun _ _ _ h => h) (.inl ⟨by kernel_rfl, fun w hw => by have hc := (fun w hw => rowcell (bkeep hw HA8.out)) w hw; go_simp⟩) hS ?_
      refine takeH 8 (.pointer (some ⟨wr.heap.size, 2, none⟩)) (some 65) rfl rfl (by kernel_rfl) (by kernel_rfl) (by kernel_rfl) (fun _ _ _ h => h) (.inl ⟨by kernel_rfl, fun w _ => by go_simp⟩) hS ?_
      refine takeH 9 (.int .i64 O) (some 66) rfl rfl (by kernel_rfl) (by kernel_rfl) (by kernel_rfl) (fun _ _ _ h => h) (.inl ⟨by kernel_rfl, fun w hw => by have hc := (fun w hw => rowcell (bkeep hw HA8.out)) w hw; go_simp⟩) hS ?_
      refine takeH 10 (.pointer (some ⟨wr.heap.size, 3, none⟩)) (some 67) rfl rfl (by kernel_rfl) (by kernel_rfl) (by kernel_rfl) (fun _ _ _ h => h) (.inl ⟨by kernel_rfl, fun w _ => by go_simp⟩) hS ?_
      refine takeH 11 (.bool T) (some 68) rfl rfl (by kernel_rfl) (by kernel_rfl) (by kernel_rfl) (fun _ _ _ h => h) (.inl ⟨by kernel_rfl, fun w hw => by have hc := (fun w hw => rowcell (bkeep hw HA8.out)) w hw; go_simp⟩) hS ?_
      refine takeH 12 (.pointer (some ⟨wr.heap.size, 4, none⟩)) (some 69) rfl rfl (by kernel_rfl) (by kernel_rfl) (by kernel_rfl) (fun _ _ _ h => h) (.inl ⟨by kernel_rfl, fun w _ => by go_simp⟩) hS ?_
      refine takeH 13 (.int .u8 Z) (some 70) rfl rfl (by kernel_rfl) (by kernel_rfl) (by kernel_rfl) (fun _ _ _ h => h) (.inl ⟨by kernel_rfl, fun w hw => by have hc := (fun w hw => rowcell (bkeep hw HA8.out)) w hw; go_simp⟩) hS ?_
      refine takeH 14 (.int .i64 Z) (some 71) rfl rfl (by kernel_rfl) (by kernel_rfl) (by kernel_rfl) (fun _ _ _ h => h) (.inl ⟨by kernel_rfl, fun w _ => by go_simp⟩) hS ?_
      refine callH 2 rfl (by kernel_rfl) (by kernel_rfl) (some 59) rfl 18 #[.agg #[.pointer (some ⟨g, 0, none⟩)], .agg #[.int .i64 S, .int .i64 C, .int .i64 O, .bool T, .int .u8 Z]] ?hrun ((judge_in HP7.out (HB8.out.trans ((drewb w8).mono HB8.out.size)) S C O T Z hz0 hz1).mono ?_)
      case hrun => go_simp
      rintro e w9 ⟨he, hb9⟩
      have hS9 := hS.trans (hb9.mono (by simp))
      refine ⟨_, he, hS9, ?_⟩
      refine callH 15 rfl (by kernel_rfl) (by kernel_rfl) (some 72) rfl 19 #[.slice A rs.length cap, .int .i64 S, .int .i64 C, .int .i64 O, .bool T, .int .i64 Z] ?hrun ((refJudge_in _ _ rs (HR7.out.keep (HB8.out.trans (hS9.mono HB8.out.size))) HOK.out HAN.out S C O T Z).mono ?_)
      case hrun => go_simp
      rintro e w10 ⟨he, hb10⟩
      have hS10 := hS9.trans (hb10.mono hS9.size)
      refine ⟨_, he, hS10, ?_⟩
      refine takeH 16 (.bool false) (some 73) rfl rfl (by kernel_rfl) (by kernel_rfl) (by kernel_rfl) (fun _ _ _ h => h) (.inl ⟨by kernel_rfl, fun w _ => by go_simp⟩) hS10 ?_
      refine wpAnyH_done (by kernel_rfl) ?_ _
      go_simp
      have HBE := Lib.hid (HB8.out.trans (hS10.mono HB8.out.size))
      clear hS hS9 hS10 hb9 hb10
      have hlm : (i : Int) < 9223372036854775807 := by omega
      go_wp2_with fail
      refine ⟨⟨i + 1, by omega, rfl, HBE.out⟩, by simp [intOf]; omega⟩
    · have hge : ¬ (i : Int) < 2 := by omega
      go_wp2_with fail
      go_ret
      exact ⟨rfl, HB7.out.trans (hbr.mono HB7.out.size)⟩
end Go.Proofs.Ytlclainjefchlaa
