/- The rule's monitor: Keeps, Flows, Sees. -/
import Derived.Test.YtlclainjefchlaaRuleA
set_option linter.unusedVariables false
set_option linter.unusedSimpArgs false
namespace Go.Proofs.Ytlclainjefchlaa
open Go.RowKit

def keepsI (rs : List RegL) (s o : Int) (dr re wr : Bool) : Bool := (!re || judgeI rs s 0 o false 0 == 0) && (!dr || judgeI rs s 0 o false 1 == 0) && (!wr || judgeI rs s 0 o false 3 == 0)
set_option maxRecDepth 20000 in
set_option maxHeartbeats 8000000 in
theorem keeps_in {w0 w : World} {a : Option Addr} {rs : List RegL} (hp : ConfP w0 a rs) (hb : Below w0.heap.size w0 w) (s o : Int) (dr re wr : Bool) :
    Calls Try.prog 24 #[.agg #[.pointer a], .int .i64 s, .int .i64 o, .bool dr, .bool re, .bool wr] w fun e w' => e = .returned (.bool (keepsI rs s o dr re wr)) ∧ Below w.heap.size w w' := by
  have HP := Lib.hid (hp.keep hb)
  clear hp hb
  have HM0 := Lib.hid (heap_alloc_last w (.cells #[.pointer a] 38))
  have HB0 := Lib.hid (bnew w (.cells #[.pointer a] 38))
  go_enter Try.func24, Try.ntmps24
  cases re
  · have HE0 := Lib.hid (trivial : True)
    cases dr
    · have HE1 := Lib.hid (trivial : True)
      cases wr
      · go_wp2_with fail
        go_ret
        exact ⟨ret_bool (by simp [keepsI]), HB0.out⟩
      · go_wp2_with fail
        refine (judge_in HP.out HB0.out s 0 o false 3 (by omega) (by omega)).mono ?_; rintro e x1 ⟨rfl, hb1⟩
        have HB1 := Lib.hid (bnext HB0.out hb1)
        have HM1 := Lib.hid (bkeep hb1 HM0.out)
        clear hb1
        try clear c1
        have c1 := rowcell HM1.out
        obtain ⟨j2, hj2⟩ : ∃ j, j = judgeI rs s 0 o false 3 := ⟨_, rfl⟩
        have HJ2 := Lib.hid hj2
        rw [← hj2]
        clear hj2
        cases hz2 : (j2 == 0)
        · go_wp2_with fail
          go_ret
          exact ⟨ret_bool (by have e := hz2; rw [HJ2.out] at e; simp [keepsI, e]), HB1.out⟩
        · go_wp2_with fail
          go_ret
          exact ⟨ret_bool (by have e2 := hz2; rw [HJ2.out] at e2; simp [keepsI, e2]), HB1.out⟩
    · go_wp2_with fail
      refine (judge_in HP.out HB0.out s 0 o false 1 (by omega) (by omega)).mono ?_; rintro e x1 ⟨rfl, hb1⟩
      have HB1 := Lib.hid (bnext HB0.out hb1)
      have HM1 := Lib.hid (bkeep hb1 HM0.out)
      clear hb1
      try clear c1
      have c1 := rowcell HM1.out
      obtain ⟨j1, hj1⟩ : ∃ j, j = judgeI rs s 0 o false 1 := ⟨_, rfl⟩
      have HJ1 := Lib.hid hj1
      rw [← hj1]
      clear hj1
      cases hz1 : (j1 == 0)
      · go_wp2_with fail
        go_ret
        exact ⟨ret_bool (by have e := hz1; rw [HJ1.out] at e; simp [keepsI, e]), HB1.out⟩
      · skip
        cases wr
        · go_wp2_with fail
          go_ret
          exact ⟨ret_bool (by have e1 := hz1; rw [HJ1.out] at e1; simp [keepsI, e1]), HB1.out⟩
        · go_wp2_with fail
          refine (judge_in HP.out HB1.out s 0 o false 3 (by omega) (by omega)).mono ?_; rintro e x2 ⟨rfl, hb2⟩
          have HB2 := Lib.hid (bnext HB1.out hb2)
          have HM2 := Lib.hid (bkeep hb2 HM1.out)
          clear hb2
          try clear c1
          have c1 := rowcell HM2.out
          obtain ⟨j2, hj2⟩ : ∃ j, j = judgeI rs s 0 o false 3 := ⟨_, rfl⟩
          have HJ2 := Lib.hid hj2
          rw [← hj2]
          clear hj2
          cases hz2 : (j2 == 0)
          · go_wp2_with fail
            go_ret
            exact ⟨ret_bool (by have e := hz2; rw [HJ2.out] at e; simp [keepsI, e]), HB2.out⟩
          · go_wp2_with fail
            go_ret
            exact ⟨ret_bool (by have e1 := hz1; rw [HJ1.out] at e1; have e2 := hz2; rw [HJ2.out] at e2; simp [keepsI, e1, e2]), HB2.out⟩
  · go_wp2_with fail
    refine (judge_in HP.out HB0.out s 0 o false 0 (by omega) (by omega)).mono ?_; rintro e x1 ⟨rfl, hb1⟩
    have HB1 := Lib.hid (bnext HB0.out hb1)
    have HM1 := Lib.hid (bkeep hb1 HM0.out)
    clear hb1
    try clear c1
    have c1 := rowcell HM1.out
    obtain ⟨j0, hj0⟩ : ∃ j, j = judgeI rs s 0 o false 0 := ⟨_, rfl⟩
    have HJ0 := Lib.hid hj0
    rw [← hj0]
    clear hj0
    cases hz0 : (j0 == 0)
    · go_wp2_with fail
      go_ret
      exact ⟨ret_bool (by have e := hz0; rw [HJ0.out] at e; simp [keepsI, e]), HB1.out⟩
    · skip
      cases dr
      · have HE1 := Lib.hid (trivial : True)
        cases wr
        · go_wp2_with fail
          go_ret
          exact ⟨ret_bool (by have e0 := hz0; rw [HJ0.out] at e0; simp [keepsI, e0]), HB1.out⟩
        · go_wp2_with fail
          refine (judge_in HP.out HB1.out s 0 o false 3 (by omega) (by omega)).mono ?_; rintro e x2 ⟨rfl, hb2⟩
          have HB2 := Lib.hid (bnext HB1.out hb2)
          have HM2 := Lib.hid (bkeep hb2 HM1.out)
          clear hb2
          try clear c1
          have c1 := rowcell HM2.out
          obtain ⟨j2, hj2⟩ : ∃ j, j = judgeI rs s 0 o false 3 := ⟨_, rfl⟩
          have HJ2 := Lib.hid hj2
          rw [← hj2]
          clear hj2
          cases hz2 : (j2 == 0)
          · go_wp2_with fail
            go_ret
            exact ⟨ret_bool (by have e := hz2; rw [HJ2.out] at e; simp [keepsI, e]), HB2.out⟩
          · go_wp2_with fail
            go_ret
            exact ⟨ret_bool (by have e0 := hz0; rw [HJ0.out] at e0; have e2 := hz2; rw [HJ2.out] at e2; simp [keepsI, e0, e2]), HB2.out⟩
      · go_wp2_with fail
        refine (judge_in HP.out HB1.out s 0 o false 1 (by omega) (by omega)).mono ?_; rintro e x2 ⟨rfl, hb2⟩
        have HB2 := Lib.hid (bnext HB1.out hb2)
        have HM2 := Lib.hid (bkeep hb2 HM1.out)
        clear hb2
        try clear c1
        have c1 := rowcell HM2.out
        obtain ⟨j1, hj1⟩ : ∃ j, j = judgeI rs s 0 o false 1 := ⟨_, rfl⟩
        have HJ1 := Lib.hid hj1
        rw [← hj1]
        clear hj1
        cases hz1 : (j1 == 0)
        · go_wp2_with fail
          go_ret
          exact ⟨ret_bool (by have e := hz1; rw [HJ1.out] at e; simp [keepsI, e]), HB2.out⟩
        · skip
          cases wr
          · go_wp2_with fail
            go_ret
            exact ⟨ret_bool (by have e0 := hz0; rw [HJ0.out] at e0; have e1 := hz1; rw [HJ1.out] at e1; simp [keepsI, e0, e1]), HB2.out⟩
          · go_wp2_with fail
            refine (judge_in HP.out HB2.out s 0 o false 3 (by omega) (by omega)).mono ?_; rintro e x3 ⟨rfl, hb3⟩
            have HB3 := Lib.hid (bnext HB2.out hb3)
            have HM3 := Lib.hid (bkeep hb3 HM2.out)
            clear hb3
            try clear c1
            have c1 := rowcell HM3.out
            obtain ⟨j2, hj2⟩ : ∃ j, j = judgeI rs s 0 o false 3 := ⟨_, rfl⟩
            have HJ2 := Lib.hid hj2
            rw [← hj2]
            clear hj2
            cases hz2 : (j2 == 0)
            · go_wp2_with fail
              go_ret
              exact ⟨ret_bool (by have e := hz2; rw [HJ2.out] at e; simp [keepsI, e]), HB3.out⟩
            · go_wp2_with fail
              go_ret
              exact ⟨ret_bool (by have e0 := hz0; rw [HJ0.out] at e0; have e1 := hz1; rw [HJ1.out] at e1; have e2 := hz2; rw [HJ2.out] at e2; simp [keepsI, e0, e1, e2]), HB3.out⟩

set_option maxHeartbeats 2000000 in
theorem flows_in {w0 w : World} {a : Option Addr} {rs : List RegL} (hp : ConfP w0 a rs) (hb : Below w0.heap.size w0 w) (i j : Int) :
    Calls Try.prog 27 #[.agg #[.pointer a], .int .i64 i, .int .i64 j] w fun e w' => e = .returned (.bool (leqI rs i j)) ∧ Below w.heap.size w w' := by
  have HP := Lib.hid (hp.keep hb)
  clear hp hb
  have hbw := bnew w (.cells #[.pointer a] 38)
  have HB := Lib.hid hbw
  clear hbw
  go_enter Try.func27, Try.ntmps27
  go_wp2_with fail
  refine (HP.out.leq _ HB.out i j).mono ?_; rintro e w6 ⟨rfl, hb6⟩
  have HB6 := Lib.hid (bnext HB.out hb6)
  clear hb6
  go_wp2_with fail
  go_ret
  exact ⟨rfl, HB6.out⟩

/-- The places that are at or below one. -/
def seesTo (rs : List RegL) (l : Int) (k : Nat) : List Nat := (List.range k).filter fun i => leqI rs (i : Int) l
theorem seesTo_next (rs : List RegL) (l : Int) (k : Nat) : seesTo rs l (k + 1) = if leqI rs (k : Int) l = true then seesTo rs l k ++ [k] else seesTo rs l k := by
  simp only [seesTo, List.range_succ, List.filter_append]
  by_cases h : leqI rs (k : Int) l = true <;> simp [h]
theorem seesTo_len (rs : List RegL) (l : Int) (k : Nat) : (seesTo rs l k).length ≤ k := by
  have := List.length_filter_le (fun i : Nat => leqI rs (i : Int) l) (List.range k)
  simpa [seesTo] using this
def natVs (l : List Nat) : List Value := l.map intV

set_option maxRecDepth 20000 in
set_option maxHeartbeats 8000000 in
theorem sees_in {w0 w : World} {a : Option Addr} {rs : List RegL} (hp : ConfP w0 a rs) (hb : Below w0.heap.size w0 w) (hn : rs.length ≤ 100) (l : Int) :
    Calls Try.prog 26 #[.agg #[.pointer a], .int .i64 l] w fun e w' => Below w.heap.size w w' ∧ ∃ v, e = .returned v ∧ w'.ownsRow w.heap.size 3 1 v (seesTo rs l rs.length).length (natVs (seesTo rs l rs.length)) := by
  have HP := Lib.hid (hp.keep hb)
  clear hp hb
  have HM0 := Lib.hid (heap_alloc_last w (.cells #[.pointer a] 38))
  have HB0 := Lib.hid (bnew w (.cells #[.pointer a] 38))
  go_enter Try.func26, Try.ntmps26
  go_wp2_with fail
  generalize w.alloc (.cells #[.pointer a] 38) = w1 at *
  refine (HP.out.len _ HB0.out).mono ?_; rintro e w2 ⟨rfl, rfl⟩
  go_wp2_with fail
  obtain ⟨n, hnn⟩ : ∃ n, n = rs.length := ⟨_, rfl⟩
  rw [← hnn] at hn ⊢
  have HN := Lib.hid hnn
  clear hnn
  go_loopw [5, 10] (fun u5 r wr => ∃ i : Nat, i ≤ n ∧ r = .int .i64 i ∧ Below w.heap.size w wr ∧ wr.heap[w.heap.size]? = some (.cells #[.pointer a] 38 (0, 0)) ∧ wr.ownsRow (w.heap.size + 1) 3 1 u5 (seesTo rs l i).length (natVs (seesTo rs l i))) (fun _ r _ => n - (intOf r).toNat)
  case atStart => exact ⟨0, by omega, rfl, HB0.out, HM0.out, ⟨rfl, .inl ⟨rfl, rfl⟩⟩⟩
  case round =>
    obtain ⟨i, hi, rfl, hbr, hmr, hor⟩ := hrel
    have HBR := Lib.hid hbr
    have HMR := Lib.hid hmr
    have HOR := Lib.hid hor
    have c1 := rowcell hmr
    clear hbr hmr hor
    by_cases hlt : i < n
    · have hm := ltMaxLen hlt (by simp [maxLen]; omega)
      go_wp2_with fail
      refine (HP.out.leq _ HBR.out i l).mono ?_; rintro e w3 ⟨rfl, hb3⟩
      have HB3 := Lib.hid (bnext HBR.out hb3)
      have HM3 := Lib.hid (bkeep hb3 HMR.out)
      have HO3 := Lib.hid (own_below HOR.out hb3)
      have hsl := seesTo_len rs l i
      have hnx := seesTo_next rs l i
      obtain ⟨b, hbb⟩ : ∃ b, b = leqI rs (i : Int) l := ⟨_, rfl⟩
      rw [← hbb] at hnx ⊢
      clear hbb hb3
      have HNX := Lib.hid hnx
      clear hnx
      cases b
      · go_wp2_with fail
        refine ⟨⟨i + 1, by omega, rfl, HB3.out, HM3.out, ?_⟩, by simp [intOf]; omega⟩
        rw [HNX.out]
        exact HO3.out
      · go_wp2_with (with_reducible refine wpList_stop (some 21) rfl ?_)
        refine Lib.hid ?_
        have hbi5 := bnew w3 (.cells #[.int .i64 i] 3)
        have hM5 := own_below HO3.out hbi5
        have hl5 := heap_alloc_last w3 (.cells #[.int .i64 i] 3)
        have hw5 := bnext HB3.out hbi5
        have hMm := bkeep hbi5 HM3.out
        obtain ⟨A, c, hA⟩ := own_form HO3.out
        subst hA
        refine wpList_append_sr rfl (.tmp 18) (.tmp 20) 53 rfl (some 21) rfl (w.heap.size + 1) 3 (.int .i64 0) 1 8 Try.underlying53 (by kernel_rfl) rfl (by decide) (.slice A (seesTo rs l i).length c) (.slice (some ⟨w3.heap.size, 0, none⟩) 1 1) (seesTo rs l i).length 1 (natVs (seesTo rs l i)) _ rfl hM5 rfl (SR.lit hl5 rfl) (List.all_eq_true.1 (by rfl)) (by unfold maxLen; omega) (by omega) (by have := rowlt hMm; omega) ?_
        intro v8 w8 hown8 hgr8 hloc8
        have o8 := one_of_grown hgr8
        have hb8 := hw5.trans (o8.toBelow (fun j hj => by have := (own_blk hM5 hj).1; omega) hw5.size)
        have hm8 : w8.heap[w.heap.size]? = _ := o8.blk hMm (fun e => by have := (own_blk hM5 e).1; omega)
        have HB8 := Lib.hid hb8
        have HM8 := Lib.hid hm8
        have HO8 := Lib.hid hown8
        clear hown8 hgr8 hloc8 o8 hM5 hl5 hw5 hbi5 hMm hb8 hm8
        go_wp2_with fail
        refine ⟨⟨i + 1, by omega, rfl, HB8.out, HM8.out, ?_⟩, by simp [intOf]; omega⟩
        rw [HNX.out]
        simpa [natVs, intV] using HO8.out
    · obtain rfl : n = i := by omega
      go_wp2_with fail
      go_ret
      refine ⟨HBR.out, _, rfl, ?_⟩
      rw [← HN.out]
      exact own_lower HOR.out (by omega)
end Go.Proofs.Ytlclainjefchlaa
