/- The law RuleNone: its walk. -/
import Derived.Test.YtlclainjefchlaaRuleD
set_option linter.unusedVariables false
set_option linter.unusedSimpArgs false
namespace Go.Proofs.Ytlclainjefchlaa
open Go.RowKit

theorem Arg.ask {W : World} {v : Value} (o : Arg Try.prog W 29 v) : ∃ (s c b : Int) (t : Bool) (x : Int), v = .agg #[.int .i64 s, .int .i64 c, .int .i64 b, .bool t, .int .u8 x] ∧ 0 ≤ x ∧ x ≤ 255 := by
  obtain ⟨cs, rfl, h⟩ := Arg.flat (.inl ⟨_, Try.underlying29⟩) 4 (ks := [⟨0, .i64, 0⟩, ⟨0, .i64, 0⟩, ⟨0, .i64, 0⟩, ⟨1, .i64, 0⟩, ⟨0, .u8, 0⟩]) (by kernel_rfl) o
  obtain ⟨_, _, rfl, ⟨l, rfl, hl⟩, h1⟩ := FitsAll.cons h
  obtain ⟨_, _, rfl, ⟨n, rfl, hn⟩, h2⟩ := FitsAll.cons h1
  obtain ⟨_, _, rfl, ⟨g, rfl, hg⟩, h3⟩ := FitsAll.cons h2
  obtain ⟨_, _, rfl, ⟨k, rfl⟩, h4⟩ := FitsAll.cons h3
  obtain ⟨_, _, rfl, ⟨z, rfl, hz⟩, h6⟩ := FitsAll.cons h4
  obtain rfl := FitsAll.nil h6
  have := wf_u8 hz
  exact ⟨l, n, g, k, z, rfl, this.1, this.2⟩

theorem inB_zero (i : Int) : inB i 0 = false := by simp [inB]
theorem judge_none (s c o : Int) (t : Bool) (x : Int) : judgeI [] s c o t x = 27 := by simp [judgeI, inB_zero]
theorem keeps_none1 (s o : Int) : keepsI [] s o false true true = false := by simp [keepsI, judge_none]
theorem keeps_none2 (s o : Int) : keepsI [] s o false false false = true := by simp [keepsI]
theorem sees_none (l : Int) : seesTo [] l ([] : List RegL).length = [] := rfl
theorem leq_none (s o : Int) : leqI [] s o = false := by simp [leqI, inB_zero]

set_option maxRecDepth 20000 in
set_option maxHeartbeats 8000000 in
theorem ruleNone_walk (W : World) (v0 v1 v2 : Value) (o0 : Arg Try.prog W 29 v0) (o1 : Arg Try.prog W 3 v1) (o2 : Arg Try.prog W 3 v2) :
    Calls Try.prog 6 #[v0, v1, v2] W fun e w' => e = .returned (.bool true) ∧ Below W.heap.size W w' := by
  obtain ⟨s, c, o, t, x, rfl, hx0, hx1⟩ := Arg.ask o0
  obtain ⟨p, rfl, hp⟩ := Arg.int Try.underlying3 o1
  obtain ⟨q, rfl, hq⟩ := Arg.int Try.underlying3 o2
  clear o0 o1 o2
  have ha := heap_alloc_last W (.cells #[.int .i64 s, .int .i64 c, .int .i64 o, .bool t, .int .u8 x] 29)
  have hB := bnew W (.cells #[.int .i64 s, .int .i64 c, .int .i64 o, .bool t, .int .u8 x] 29)
  go_enter Try.func6, Try.ntmps6
  go_wp2_with fail
  generalize W.alloc (.cells #[.int .i64 s, .int .i64 c, .int .i64 o, .bool t, .int .u8 x] 29) = w0 at *
  refine (ruleAwake_in _).mono ?_; rintro e w1 ⟨rfl, hb1⟩
  have ha1 := bkeep hb1 ha
  have hB1 := bnext hB hb1
  clear ha hB hb1
  go_wp2_with fail
  refine (ruleNew_in _ _).mono ?_; rintro e w2 ⟨rfl, hb2⟩
  have hm := heap_alloc_last w2 (.cells #[.pointer none] 38)
  have hB3 := bnewAfter (bnext hB1 hb2) (.cells #[.pointer none] 38)
  have ha3 := bkeep (bnewAfter hb2 (.cells #[.pointer none] 38)) ha1
  clear hB1 hb2 ha1
  have c1 := rowcell hm
  have c2 := rowcell ha3
  go_wp2_with fail
  clear c1 c2
  generalize w2.alloc (.cells #[.pointer none] 38) = w3 at *
  have HP := Lib.hid (confP_nil w3)
  have HM := Lib.hid hm
  have HB := Lib.hid hB3
  clear hm ha3 hB3
  refine (judge_in HP.out (Below.refl _ _) s c o t x hx0 hx1).mono ?_; rintro e w4 ⟨rfl, hb4⟩
  rw [judge_none]
  have HW4 := Lib.hid hb4
  have HM4 := Lib.hid (bkeep hb4 HM.out)
  clear hb4
  have c1 := rowcell HM4.out
  go_wp2_with fail
  refine (keeps_in HP.out HW4.out p q false true true).mono ?_; rintro e w5 ⟨rfl, hb5⟩
  rw [keeps_none1]
  have HW5 := Lib.hid (bnext HW4.out hb5)
  have HM5 := Lib.hid (bkeep hb5 HM4.out)
  clear c1 hb5
  have c1 := rowcell HM5.out
  go_wp2_with fail
  refine (keeps_in HP.out HW5.out p q false false false).mono ?_; rintro e w6 ⟨rfl, hb6⟩
  rw [keeps_none2]
  have HW6 := Lib.hid (bnext HW5.out hb6)
  have HM6 := Lib.hid (bkeep hb6 HM5.out)
  clear c1 hb6
  have c1 := rowcell HM6.out
  go_wp2_with fail
  refine (flows_in HP.out HW6.out p q).mono ?_; rintro e w7 ⟨rfl, hb7⟩
  rw [leq_none]
  have HW7 := Lib.hid (bnext HW6.out hb7)
  have HM7 := Lib.hid (bkeep hb7 HM6.out)
  clear c1 hb7
  have c1 := rowcell HM7.out
  go_wp2_with fail
  refine (sees_in HP.out HW7.out (by simp) p).mono ?_; rintro e w8 ⟨hb8, v, rfl, hv⟩
  rw [sees_none] at hv
  obtain ⟨A, cp, rfl⟩ := own_form hv
  have HW8 := Lib.hid (bnext HB.out (bnext HW7.out hb8))
  clear c1 hb8 hv
  go_wp2_with fail
  go_ret
  exact ⟨rfl, HW8.out⟩
end Go.Proofs.Ytlclainjefchlaa
