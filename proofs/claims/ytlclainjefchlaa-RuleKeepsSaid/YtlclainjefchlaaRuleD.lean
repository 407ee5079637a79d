/- The document's answer for the rule: Judge; the fixed fact. -/
import Derived.Test.YtlclainjefchlaaRuleC
set_option linter.unusedVariables false
set_option linter.unusedSimpArgs false
namespace Go.Proofs.Ytlclainjefchlaa
open Go.RowKit

def antiI (rs : List RegL) : Prop := ∀ s o, inB s rs.length = true → inB o rs.length = true → (leqI rs o s && leqI rs s o) = decide (s = o)
set_option maxRecDepth 20000 in
set_option maxHeartbeats 16000000 in
theorem refJudge_in (w : World) (v : Value) (rs : List RegL) (h : SR w v rs.length 9 (regCells rs)) (ok : ∀ r ∈ rs, okL r.lab) (anti : antiI rs) (s c o : Int) (t : Bool) (x : Int) :
    Calls Try.prog 19 #[v, .int .i64 s, .int .i64 c, .int .i64 o, .bool t, .int .i64 x] w fun e w' => e = .returned (.int .i64 (judgeI rs s c o t x)) ∧ Below w.heap.size w w' := by
  obtain ⟨A, cap, rfl, hc1, hc2⟩ := h.form
  have HH := Lib.hid h
  clear h
  by_cases h0 : 0 ≤ s
  case neg =>
    have HJ := Lib.hid (show judgeI rs s c o t x = 27 by rw [judgeI, if_neg]; simp [inB]; omega)
    clear HH
    go_enter Try.func19, Try.ntmps19
    go_wp2_with fail
    go_ret
    exact ⟨ret_int (by rw [HJ.out]), Below.refl _ _⟩
  by_cases h1 : s < rs.length
  case neg =>
    have HJ := Lib.hid (show judgeI rs s c o t x = 27 by rw [judgeI, if_neg]; simp [inB]; omega)
    clear HH
    go_enter Try.func19, Try.ntmps19
    go_wp2_with fail
    go_ret
    exact ⟨ret_int (by rw [HJ.out]), Below.refl _ _⟩
  by_cases h2 : 0 ≤ o
  case neg =>
    have HJ := Lib.hid (show judgeI rs s c o t x = 27 by rw [judgeI, if_neg]; simp [inB]; omega)
    clear HH
    go_enter Try.func19, Try.ntmps19
    go_wp2_with fail
    go_ret
    exact ⟨ret_int (by rw [HJ.out]), Below.refl _ _⟩
  by_cases h3 : o < rs.length
  case neg =>
    have HJ := Lib.hid (show judgeI rs s c o t x = 27 by rw [judgeI, if_neg]; simp [inB]; omega)
    clear HH
    go_enter Try.func19, Try.ntmps19
    go_wp2_with fail
    go_ret
    exact ⟨ret_int (by rw [HJ.out]), Below.refl _ _⟩
  by_cases h4 : 0 ≤ x
  case neg =>
    have HJ := Lib.hid (show judgeI rs s c o t x = 27 by rw [judgeI, if_neg]; simp [inB]; omega)
    clear HH
    go_enter Try.func19, Try.ntmps19
    go_wp2_with fail
    go_ret
    exact ⟨ret_int (by rw [HJ.out]), Below.refl _ _⟩
  by_cases h5 : x ≤ 6
  case neg =>
    have HJ := Lib.hid (show judgeI rs s c o t x = 27 by rw [judgeI, if_neg]; simp [inB]; omega)
    clear HH
    go_enter Try.func19, Try.ntmps19
    go_wp2_with fail
    go_ret
    exact ⟨ret_int (by rw [HJ.out]), Below.refl _ _⟩
  have hin : inB s rs.length = true := by simp [inB]; omega
  have hin' : inB o rs.length = true := by simp [inB]; omega
  have HJ := Lib.hid (show judgeI rs s c o t x = if okAct rs s c o t x = true then 0 else 2 by rw [judgeI, if_pos ⟨hin, hin', by omega, by omega⟩])
  have han := anti s o hin hin'
  clear hin hin' anti
  have hk : x = 0 ∨ x = 1 ∨ x = 2 ∨ x = 3 ∨ x = 4 ∨ x = 5 ∨ x = 6 := by omega
  have HAN := Lib.hid han
  have HK := Lib.hid hk
  clear hk han
  go_enter Try.func19, Try.ntmps19
  go_wp2_with fail
  refine (refLeqI_in _ _ rs HH.out ok o s).mono ?_; rintro e w6 ⟨rfl, hb6⟩
  have HB6 := Lib.hid hb6
  clear hb6
  go_wp2_with fail
  refine (refLeqI_in _ _ rs (HH.out.keep HB6.out) ok s o).mono ?_; rintro e w7 ⟨rfl, hb7⟩
  have HB7 := Lib.hid (bnext HB6.out hb7)
  clear hb7
  obtain ⟨d, hd⟩ : ∃ d, d = leqI rs o s := ⟨_, rfl⟩
  obtain ⟨u, hu⟩ : ∃ u, u = leqI rs s o := ⟨_, rfl⟩
  have HD := Lib.hid hd
  have HU := Lib.hid hu
  have hal := HAN.out
  rw [← hd, ← hu] at hal
  have HAA := Lib.hid hal
  rw [← hd, ← hu]
  clear hd hu hal HAN h4 h5
  have hk := HK.out
  clear HK
  rcases hk with rfl | rfl | rfl | rfl | rfl | rfl | rfl
  · skip
    cases d
    · go_wp2_with fail
      go_ret
      exact ⟨ret_int (by rw [HJ.out]; simp [okAct, ← HD.out]), HB7.out⟩
    · go_wp2_with fail
      go_ret
      exact ⟨ret_int (by rw [HJ.out]; simp [okAct, ← HD.out]), HB7.out⟩
  · have ha := HAA.out
    cases d <;> cases u
    · go_wp2_with fail
      go_ret
      exact ⟨ret_int (by rw [HJ.out]; simp [okAct, ← HAA.out]), HB7.out⟩
    · go_wp2_with fail
      go_ret
      exact ⟨ret_int (by rw [HJ.out]; simp [okAct, ← HAA.out]), HB7.out⟩
    · go_wp2_with fail
      go_ret
      exact ⟨ret_int (by rw [HJ.out]; simp [okAct, ← HAA.out]), HB7.out⟩
    · go_wp2_with fail
      go_ret
      exact ⟨ret_int (by rw [HJ.out]; simp [okAct, ← HAA.out]), HB7.out⟩
  · have ha := HAA.out
    cases d <;> cases u
    · go_wp2_with fail
      go_ret
      exact ⟨ret_int (by rw [HJ.out]; simp [okAct, ← HAA.out]), HB7.out⟩
    · go_wp2_with fail
      go_ret
      exact ⟨ret_int (by rw [HJ.out]; simp [okAct, ← HAA.out]), HB7.out⟩
    · go_wp2_with fail
      go_ret
      exact ⟨ret_int (by rw [HJ.out]; simp [okAct, ← HAA.out]), HB7.out⟩
    · go_wp2_with fail
      go_ret
      exact ⟨ret_int (by rw [HJ.out]; simp [okAct, ← HAA.out]), HB7.out⟩
  · skip
    cases u
    · go_wp2_with fail
      go_ret
      exact ⟨ret_int (by rw [HJ.out]; simp [okAct, ← HU.out]), HB7.out⟩
    · go_wp2_with fail
      go_ret
      exact ⟨ret_int (by rw [HJ.out]; simp [okAct, ← HU.out]), HB7.out⟩
  · skip
    cases u
    · go_wp2_with fail
      go_ret
      exact ⟨ret_int (by rw [HJ.out]; simp [okAct, ← HU.out]), HB7.out⟩
    · go_wp2_with fail
      go_ret
      exact ⟨ret_int (by rw [HJ.out]; simp [okAct, ← HU.out]), HB7.out⟩
  · cases u
    · go_wp2_with fail
      go_ret
      exact ⟨ret_int (by rw [HJ.out]; simp [okAct, ← HU.out]), HB7.out⟩
    · go_wp2_with fail
      refine (refLeqI_in _ _ rs (HH.out.keep HB7.out) ok o c).mono ?_; rintro e w8 ⟨rfl, hb8⟩
      have HB8 := Lib.hid (bnext HB7.out hb8)
      clear hb8
      obtain ⟨q, hq⟩ : ∃ q, q = leqI rs o c := ⟨_, rfl⟩
      have HQ := Lib.hid hq
      rw [← hq]
      clear hq
      cases q
      · go_wp2_with fail
        go_ret
        exact ⟨ret_int (by rw [HJ.out]; simp [okAct, ← HU.out, ← HQ.out]), HB8.out⟩
      · go_wp2_with fail
        go_ret
        exact ⟨ret_int (by rw [HJ.out]; simp [okAct, ← HU.out, ← HQ.out]), HB8.out⟩
  · cases t <;> cases d
    · go_wp2_with fail
      go_ret
      exact ⟨ret_int (by rw [HJ.out]; simp [okAct, ← HD.out]), HB7.out⟩
    · go_wp2_with fail
      go_ret
      exact ⟨ret_int (by rw [HJ.out]; simp [okAct, ← HD.out]), HB7.out⟩
    · go_wp2_with fail
      go_ret
      exact ⟨ret_int (by rw [HJ.out]; simp [okAct, ← HD.out]), HB7.out⟩
    · go_wp2_with fail
      go_ret
      exact ⟨ret_int (by rw [HJ.out]; simp [okAct, ← HD.out]), HB7.out⟩

theorem zeroLook : judgeI (sizeRegs ⟨0, fun _ => 0, []⟩) 1 0 0 false 0 = 0 := by decide
theorem zeroChange : judgeI (sizeRegs ⟨0, fun _ => 0, []⟩) 1 0 0 false 2 = 2 := by decide
theorem size_oks (s : SizeL) : ∀ r ∈ sizeRegs s, okL r.lab := fun r hr => (have h := (size_ok s).each r hr; have h1 := h.lev; have h2 := h.cats; ⟨by omega, by omega⟩)
theorem size_le (s : SizeL) : (sizeRegs s).length ≤ 100 := by have := manyOf_le s; rw [sizeRegs_length]; omega
set_option maxRecDepth 20000 in
set_option maxHeartbeats 8000000 in
theorem ruleAwake_in (w : World) : Calls Try.prog 14 #[] w fun e w' => e = .returned (.bool true) ∧ Below w.heap.size w w' := by
  go_enter Try.func14, Try.ntmps14
  go_wp2_with fail
  refine (sizeConf_in _ (.agg sizeZ) ⟨0, fun _ => 0, []⟩ (sizeZ_ok _)).mono ?_; rintro e w1 ⟨hb1, g, gT, gN, gL, v', m', u', rfl, hcf⟩
  have hP := hcf.toP (size_le _) (size_oks _)
  clear hcf
  go_wp2_with fail
  refine (ruleNew_in _ _).mono ?_; rintro e w2 ⟨rfl, hb2⟩
  have hm := heap_alloc_last w2 (.cells #[.pointer (some ⟨g, 0, none⟩)] 38)
  have HB := Lib.hid (bnewAfter (bnext hb1 hb2) (.cells #[.pointer (some ⟨g, 0, none⟩)] 38))
  have HP := Lib.hid (hP.keep (bnewAfter hb2 (.cells #[.pointer (some ⟨g, 0, none⟩)] 38)))
  clear hb1 hb2 hP
  go_wp2_with fail
  generalize w2.alloc (.cells #[.pointer (some ⟨g, 0, none⟩)] 38) = w3 at *
  have HM := Lib.hid hm
  have c1 := rowcell hm
  clear hm
  go_wp2_with fail
  refine (judge_in HP.out (Below.refl _ _) 1 0 0 false 0 (by omega) (by omega)).mono ?_; rintro e w4 ⟨rfl, hb4⟩
  rw [zeroLook]
  have HB4 := Lib.hid (bnext HB.out hb4)
  have HW4 := Lib.hid hb4
  have HM4 := Lib.hid (bkeep hb4 HM.out)
  clear c1 hb4
  have c1 := rowcell HM4.out
  go_wp2_with fail
  refine (judge_in HP.out HW4.out 1 0 0 false 2 (by omega) (by omega)).mono ?_; rintro e w5 ⟨rfl, hb5⟩
  rw [zeroChange]
  have HB5 := Lib.hid (bnext HB4.out hb5)
  clear c1 hb5
  go_wp2_with fail
  go_ret
  exact ⟨rfl, HB5.out⟩
end Go.Proofs.Ytlclainjefchlaa
